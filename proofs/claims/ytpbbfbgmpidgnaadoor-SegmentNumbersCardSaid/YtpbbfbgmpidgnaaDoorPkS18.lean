/-
  PROVED HERE: what permafrostbook.Within, permafrostkeep.Lists and permafrostlaw17.records answer; conditions: lengths that a slice may have.
-/
import Derived.Test.YtpbbfbgmpidgnaaDoorPkS00
import Derived.Test.YtpbbfbgmpidgnaaDoorPkS05
import Derived.Test.YtpbbfbgmpidgnaaDoorPkS09
import Derived.Test.YtpbbfbgmpidgnaaDoorPkS11
namespace Go.Proofs.YtpbbfbgmpidgnaaDoor
open Go.RowKit

theorem tmod_emod (n m : Int) (hm : 0 < m) : (n.tmod m < 0 → n.tmod m + m = n % m) ∧ (¬ n.tmod m < 0 → n.tmod m = n % m) := by
  have h1 : n.tmod m < m := Int.tmod_lt_of_pos n hm
  have h2 : -m < n.tmod m := by
    have := Int.tmod_lt_of_pos (-n) hm
    rw [Int.neg_tmod] at this
    omega
  have h3 : n = n.tmod m + m * n.tdiv m := (Int.tmod_add_mul_tdiv n m).symm
  have h4 : n % m = (n.tmod m) % m := by
    conv => lhs; rw [h3]
    rw [Int.add_mul_emod_self_left]
  generalize n.tmod m = r at *
  refine ⟨fun h => ?_, fun h => ?_⟩
  · rw [h4, ← Int.add_emod_right, Int.emod_eq_of_lt (by omega) (by omega)]
  · rw [h4, Int.emod_eq_of_lt (by omega) (by omega)]
set_option maxRecDepth 100000 in
theorem within_any (n lo hi : Int) (w : World) (_hn0 : -9223372036854775808 ≤ n) (_hn1 : n ≤ 9223372036854775807) (h0 : 0 ≤ lo) (h1 : lo ≤ hi) (h2 : hi ≤ 4611686018427387904) :
    Calls Tryd.prog 7 #[.int .i64 n, .int .i64 lo, .int .i64 hi] w fun e w' => e = .returned (.int .i64 (lo + n % (hi - lo + 1))) ∧ w = w' := by
  have ht := tmod_emod n (hi - lo + 1) (by omega)
  have hb1 : n.tmod (hi - lo + 1) < hi - lo + 1 := Int.tmod_lt_of_pos n (by omega)
  have hb2 : -(hi - lo + 1) < n.tmod (hi - lo + 1) := by
    have := Int.tmod_lt_of_pos (-n) (show 0 < hi - lo + 1 by omega)
    rw [Int.neg_tmod] at this
    omega
  have q1 : IntKind.i64.wrap (hi - lo) = hi - lo := IntWalk.i64_in _ (by omega)
  have q2 : IntKind.i64.wrap (hi - lo + 1) = hi - lo + 1 := IntWalk.i64_in _ (by omega)
  have q3 : ¬ hi - lo + 1 = 0 := by omega
  have q4 : IntKind.i64.wrap (n.tmod (hi - lo + 1)) = n.tmod (hi - lo + 1) := IntWalk.i64_in _ (by omega)
  have HT := Lib.hid ht
  clear ht
  generalize hr : n.tmod (hi - lo + 1) = r at *
  generalize n % (hi - lo + 1) = m at *
  by_cases hneg : r < 0
  · have q5 : IntKind.i64.wrap (r + hi) = r + hi := IntWalk.i64_in _ (by omega)
    have q6 : IntKind.i64.wrap (r + hi - lo) = r + hi - lo := IntWalk.i64_in _ (by omega)
    have q7 : IntKind.i64.wrap (r + hi - lo + 1) = r + hi - lo + 1 := IntWalk.i64_in _ (by omega)
    have e : r + hi - lo + 1 = m := by have := HT.out.1 hneg; omega
    have q8 : IntKind.i64.wrap (lo + (r + hi - lo + 1)) = lo + (r + hi - lo + 1) := IntWalk.i64_in _ (by omega)
    have E := Lib.hid e
    clear e
    go_enter Tryd.func7, Tryd.ntmps7
    go_wp2
    go_ret
    exact ⟨by rw [E.out]; rfl, rfl⟩
  · have q8 : IntKind.i64.wrap (lo + r) = lo + r := IntWalk.i64_in _ (by omega)
    have E := Lib.hid (HT.out.2 hneg)
    go_enter Tryd.func7, Tryd.ntmps7
    go_wp2
    go_ret
    exact ⟨by rw [E.out]; rfl, rfl⟩
set_option maxRecDepth 100000 in
theorem lists_any (D D2 : Nat → Prop) (A A2 : Option Addr) (n c n2 c2 : Nat) (a b : List (List UInt8)) (w : World) (hB : Bss w D A n a) (hB2 : Bss w D2 A2 n2 b) (hn : n ≤ 9223372036854775807) :
    Calls Tryd.prog 18 #[.slice A n c, .slice A2 n2 c2] w fun e w' => e = .returned (.bool (decide (a = b))) ∧ New w w' := by
  have hl := hB.len
  have hl2 := hB2.len
  have HB := Lib.hid hB
  have HB2 := Lib.hid hB2
  clear hB hB2
  by_cases hne : n = n2
  · subst hne
    have HL := Lib.hid hl
    have HL2 := Lib.hid hl2
    clear hl hl2
    go_enter Tryd.func18, Tryd.ntmps18
    go_wp2_with fail
    go_loopw [5] (fun i wx => ∃ k : Nat, k ≤ n ∧ i = .int .i64 (k : Int) ∧ a.take k = b.take k ∧ New w wx) (fun i _ => n - (intOf i).toNat)
    case atStart => exact ⟨0, Nat.zero_le _, rfl, rfl, New.refl _⟩
    case round =>
      obtain ⟨k, hk, rfl, hab, hK⟩ := hrel
      have HAB := Lib.hid hab
      clear hab
      by_cases hlt : k < n
      · obtain ⟨b1, off1, A1', c1', hA1, g1, hc1, hbs1⟩ := (HB.out.new hK).at_ (k := k) (by have := HL.out; omega)
        obtain ⟨b2, off2, A2', c2', hA2, g2, hc2, hbs2⟩ := (HB2.out.new hK).at_ (k := k) (by have := HL2.out; omega)
        subst hA1
        subst hA2
        have k1 : ∀ m, (convert 24 9 (.slice A1' (a[k]'(by have := HL.out; omega)).length c1')).run Tryd.prog (wr.drewN m) = .ok (.string (strOf (a[k]'(by have := HL.out; omega)))) (wr.drewN m) := fun m => run_str (hbs1.new ((New.refl wr).drewN m))
        have k2 : ∀ m, (convert 24 9 (.slice A2' (b[k]'(by have := HL2.out; omega)).length c2')).run Tryd.prog (wr.drewN m) = .ok (.string (strOf (b[k]'(by have := HL2.out; omega)))) (wr.drewN m) := fun m => run_str (hbs2.new ((New.refl wr).drewN m))
        have HS1 := Lib.hid (List.take_succ_eq_append_getElem (l := a) (i := k) (by have := HL.out; omega))
        have HS2 := Lib.hid (List.take_succ_eq_append_getElem (l := b) (i := k) (by have := HL2.out; omega))
        clear hbs1 hbs2
        have HX : Hid (a[k]'(by have := HL.out; omega) ≠ b[k]'(by have := HL2.out; omega) → a ≠ b) := Lib.hid (fun h e => h (by subst e; rfl))
        generalize a[k]'_ = x at *
        generalize b[k]'_ = y at *
        by_cases hxy : x = y
        · have hne' : (x == y) = true := by simpa using hxy
          have HXY := Lib.hid hxy
          clear hxy
          go_wp2_with fail
          go_quiet (fail)
          go_wp2_with fail
          go_roundw
          case rel => exact ⟨k + 1, by omega, by go_num, by rw [HS1.out, HS2.out, HAB.out, HXY.out], hK.drewN _⟩
          case measure => simp [intOf]; omega
        · have hne' : (x == y) = false := by simpa using hxy
          have HXY := Lib.hid hxy
          clear hxy
          go_wp2_with fail
          go_quiet (fail)
          go_wp2_with fail
          go_ret
          exact ⟨by rw [decide_eq_false (HX.out HXY.out)]; rfl, hK.drewN _⟩
      · obtain rfl : k = n := by omega
        go_wp2_with fail
        go_ret
        have e := HAB.out
        rw [List.take_of_length_le (by rw [HL.out]; exact Nat.le_refl _), List.take_of_length_le (by rw [HL2.out]; exact Nat.le_refl _)] at e
        exact ⟨by rw [decide_eq_true e]; rfl, hK⟩
  · have hne' : ((n : Int) != n2) = true := by simp; omega
    have HX : Hid (a ≠ b) := Lib.hid (fun e => by subst e; omega)
    clear hl hl2 hne
    go_enter Tryd.func18, Tryd.ntmps18
    go_wp2_with fail
    go_ret
    exact ⟨by rw [decide_eq_false HX.out]; rfl, New.refl _⟩
/-- rows of different element types never share a block. -/
theorem own_apart {w : World} {b1 b2 : Nat} {t1 t2 : TypeId} {s1 s2 : Nat} {A A' : Option Addr} {n c n' c' : Nat} {xs ys : List Value} (h : Own w b1 t1 s1 A n c xs) (h' : Own w b2 t2 s2 A' n' c' ys) (ht : t1 ≠ t2) : ∀ k, blk A' = some k → some k ≠ blk A := by
  intro k hk e
  rcases h.2 with ⟨hv, _⟩ | ⟨g, cap, cur, hv, _, hg, _⟩
  · injection hv with hA; subst hA; cases e
  · rcases h'.2 with ⟨hv2, _⟩ | ⟨g2, cap2, cur2, hv2, _, hg2, _⟩
    · injection hv2 with hA; subst hA; cases hk
    · injection hv with hA
      injection hv2 with hA2
      subst hA
      subst hA2
      have e1 : k = g := by injection e
      have e2 : g2 = k := by injection hk
      subst e1
      subst e2
      rw [hg] at hg2
      injection hg2 with hg2
      injection hg2 with _ ht'
      exact ht ht'
theorem OwnRecs.keepE {w w' : World} {base : Nat} {D E : Nat → Prop} {A : Option Addr} {n c : Nat} {rs : List RecP} (h : OwnRecs w base D A n c rs) (hk : Keep E w w') (hb : ∀ k, blk A = some k → E k) (hD : ∀ b, D b → E b) : OwnRecs w' base D A n c rs := by
  obtain ⟨vs, h1, h2, h3⟩ := h
  exact ⟨vs, own_keep h1 hk hb, h2, fun k hk' => (h3 k hk').keep hk fun b _ hd => hD b hd.1⟩
theorem OwnRefs.keepE {w w' : World} {base : Nat} {D E : Nat → Prop} {A : Option Addr} {n c : Nat} {rs : List RecP} (h : OwnRefs w base D A n c rs) (hk : Keep E w w') (hb : ∀ k, blk A = some k → E k) (hD : ∀ b, D b → E b) : OwnRefs w' base D A n c rs := by
  obtain ⟨vs, h1, h2, h3⟩ := h
  exact ⟨vs, own_keep h1 hk hb, h2, fun k hk' => (h3 k hk').keep hk fun b _ hd => hD b hd.1⟩
theorem recs_refs_apart {w : World} {b1 b2 : Nat} {D D2 : Nat → Prop} {A A' : Option Addr} {n c n' c' : Nat} {rs rs' : List RecP} (h : OwnRecs w b1 D A n c rs) (h' : OwnRefs w b2 D2 A' n' c' rs') : (∀ k, blk A' = some k → some k ≠ blk A) ∧ (∀ k, blk A = some k → some k ≠ blk A') := by
  obtain ⟨_, h, _⟩ := h
  obtain ⟨_, h', _⟩ := h'
  exact ⟨own_apart h h' (by decide), own_apart h' h (by decide)⟩
set_option maxRecDepth 100000 in
set_option maxHeartbeats 2000000 in
theorem records17_any (D : Nat → Prop) (A : Option Addr) (n c most : Nat) (l : List RawP) (fi : Int) (w : World) (hR : Raws w D A n l) (hn : n ≤ 9223372036854775807) (_hf0 : 0 ≤ fi) (_hf1 : fi ≤ 18446744073709551615) (hm : most ≤ 9223372036854775807) :
    Calls Tryd.prog 9 #[.slice A n c, .int .u64 fi, .int .i64 most] w fun e w' =>
      (∃ A1 c1 A2 c2, e = .returned (.tuple #[.slice A1 (min n 40) c1, .slice A2 (min n 40) c2]) ∧ OwnRecs w' w.heap.size (fun b => b < w.heap.size) A1 (min n 40) c1 (rawRecs fi most l (min n 40)) ∧ OwnRefs w' w.heap.size (fun b => b < w.heap.size) A2 (min n 40) c2 (rawRecs fi most l (min n 40))) ∧ New w w' := by
  have HL := Lib.hid hR.len
  have HR := Lib.hid (hR.imp (E := fun b => b < w.heap.size) (fun b hb _ => hb))
  clear hR
  go_enter Tryd.func9, Tryd.ntmps9
  go_wp2_with fail
  go_loopw [8, 9, 10] (fun s8 s9 i wx => ∃ (k : Nat) (A1 A2 : Option Addr) (c1 c2 : Nat), k ≤ min n 40 ∧ i = .int .i64 (k : Int) ∧ s8 = .slice A1 k c1 ∧ s9 = .slice A2 k c2 ∧ OwnRecs wx w.heap.size (fun b => b < w.heap.size) A1 k c1 (rawRecs fi most l k) ∧ OwnRefs wx w.heap.size (fun b => b < w.heap.size) A2 k c2 (rawRecs fi most l k) ∧ New w wx) (fun _ _ i _ => 40 - (intOf i).toNat)
  case atStart => exact ⟨0, _, _, _, _, Nat.zero_le _, rfl, rfl, rfl, OwnRecs.nil _ _ _, OwnRefs.nil _ _ _, New.refl _⟩
  case round =>
    obtain ⟨k, A1, A2, c1, c2, hk, rfl, rfl, rfl, ho1, ho2, hK⟩ := hrel
    by_cases hlt : k < n ∧ k < 40
    · obtain ⟨b, off, A', c', rfl, g0, g1, hc, hc9, hbs⟩ := (HR.out.new hK).at_ (k := k) (by have := HL.out; omega)
      have HS := Lib.hid (rawRecs_succ fi most l k (by have := HL.out; omega))
      have hl1 : k < n := hlt.1
      have hl2 : (k : Int) < 40 := by omega
      have hkw : IntKind.u64.wrap (k : Int) = k := by rw [IntKind.wrap_u64]; omega
      have H1 := Lib.hid ho1
      have H2 := Lib.hid ho2
      have HK := Lib.hid hK
      clear ho1 ho2 hK
      generalize l[k]'_ = r at *
      clear hlt
      have hsq := wrap_u64_bd (fi + k)
      generalize hsqe : IntKind.u64.wrap (fi + k) = sq at *
      have hrb := hbs.len
      have hbt : (r.body.take most).length = min r.body.length most := by rw [List.length_take, Nat.min_comm]
      have HC : Hid (∀ W, New wr W → Calls Tryd.prog 19 #[.slice A' r.body.length c', .int .i64 most] W fun e w' => e = .returned (.slice A' (r.body.take most).length c') ∧ W = w') :=
        Lib.hid (fun W hW => by rw [hbt]; exact cut_any A' r.body.length c' most r.body (fun b => True) W ((hbs.imp (fun _ _ _ => trivial)).new hW) (by omega) hc hm)
      have HBT := Lib.hid (Bs.cutMin hbs most)
      rw [← hbt] at HBT
      have hlc : (r.body.take most).length ≤ c' := by omega
      clear hbs hrb hbt
      have hw : w.heap.size ≤ wr.heap.size := HK.out.size
      obtain ⟨mk, body⟩ := r
      dsimp only at *
      have hXe : (if mk = true then (⟨2, sq, []⟩ : RecP) else ⟨1, sq, body.take most⟩) = rawRec ⟨mk, body⟩ sq most := rfl
      cases mk
      · have HXE := Lib.hid hXe
        clear hXe
        generalize body.take most = bt at *
        go_wp2_with fail
        refine (HC.out _ (New.refl wr)).mono ?_
        rintro e w' ⟨rfl, rfl⟩
        have g0' := (World.cell?_alloc_lt wr (.cells #[.int .i64 1, .int .u64 sq, .slice A' bt.length c'] 43) ⟨b, off + k * 2, none⟩ (World.block_lt_of_cell? wr _ g0)).trans g0
        have hX1 := heap_alloc_new wr (.cells #[.int .i64 1, .int .u64 sq, .slice A' bt.length c'] 43)
        have hY1 := hX1
        have hN1 : New wr (wr.alloc (.cells #[.int .i64 1, .int .u64 sq, .slice A' bt.length c'] 43)) := (New.refl wr).alloc _
        have HX2 := Lib.hid (((New.refl (wr.alloc (.cells #[.int .i64 1, .int .u64 sq, .slice A' bt.length c'] 43))).alloc (.cells #[.int .i64 1, .int .u64 sq, .slice A' bt.length c'] 43)).blockAt hY1 trivial)
        have hN2 : New wr ((wr.alloc (.cells #[.int .i64 1, .int .u64 sq, .slice A' bt.length c'] 43)).alloc (.cells #[.int .i64 1, .int .u64 sq, .slice A' bt.length c'] 43)) := hN1.alloc _
        have hrow := Row.made (wr.alloc (.cells #[.int .i64 1, .int .u64 sq, .slice A' bt.length c'] 43)) 43 #[.int .i64 1, .int .u64 sq, .slice A' bt.length c'] 1 3 rfl
        have hsz1 : (wr.alloc (.cells #[.int .i64 1, .int .u64 sq, .slice A' bt.length c'] 43)).heap.size = wr.heap.size + 1 := by simp
        rw [hsz1] at hrow
        have ha1 := H1.out.new hN2
        have ha2 := H2.out.new hN2
        have hbt1 : Bs ((wr.alloc (.cells #[.int .i64 1, .int .u64 sq, .slice A' bt.length c'] 43)).alloc (.cells #[.int .i64 1, .int .u64 sq, .slice A' bt.length c'] 43)) (fun b => b < w.heap.size) A' bt.length (⟨1, sq, bt⟩ : RecP).body := HBT.out.new hN2
        have hy1 : Bs ((wr.alloc (.cells #[.int .i64 1, .int .u64 sq, .slice A' bt.length c'] 43)).alloc (.cells #[.int .i64 1, .int .u64 sq, .slice A' bt.length c'] 43)) (fun b => b < w.heap.size ∧ some b ≠ blk A1) A' bt.length (⟨1, sq, bt⟩ : RecP).body := hbt1.imp (fun b _ hb => ⟨hb, fun e => by have := (H1.out.lt b e.symm).1; omega⟩)
        have hsz2 : w.heap.size ≤ ((wr.alloc (.cells #[.int .i64 1, .int .u64 sq, .slice A' bt.length c'] 43)).alloc (.cells #[.int .i64 1, .int .u64 sq, .slice A' bt.length c'] 43)).heap.size := Nat.le_trans hw hN2.size
        have hbd : k + 1 ≤ 1099511627776 := by omega
        have hne1 : some wr.heap.size ≠ blk A1 := fun e => by have := (H1.out.lt _ e.symm).2; omega
        have HN2 := Lib.hid hN2
        have HA1 := Lib.hid ha1
        have HA2 := Lib.hid ha2
        have HBT1 := Lib.hid hbt1
        clear hX1 hY1 hN1 hN2 ha1 ha2 hbt1 hsz1
        go_wp2_with (first
          | (at_builtin; refine app_recs _ rfl _ _ rfl w.heap.size (fun b => b < w.heap.size) A1 k c1 _ rfl HA1.out _ _ 1 A' c' (⟨1, sq, bt⟩ : RecP) rfl hrow hy1 hlc hc9 hsq.1 hsq.2 hbd hsz2 ?_; intro A3 c3 w3 hown3 hg3 hbk3; have HK3 := Lib.hid (show Keep (fun b => some b ≠ blk A1) _ w3 from (Keep.refl _ _).grown hg3 (fun j hj hd => absurd hj.symm hd)); have HX3 := Lib.hid (HK3.out.blockAt HX2.out hne1); have d0 := cellOf HX3.out (k := 0) rfl; have d1 := cellOf HX3.out (k := 1) rfl; have d2 := cellOf HX3.out (k := 2) rfl; have HN3 := Lib.hid (show New w w3 from (HK.out.new HN2.out).grown hg3 (fun j hj _ => (H1.out.lt j hj).1)); have ha4 := (HA2.out.keepE HK3.out (recs_refs_apart HA1.out HA2.out).1 (fun b hb e => by have := (H1.out.lt b e.symm).1; omega)).new ((New.refl w3).alloc (.cells #[.int .i64 1, .int .u64 sq, .slice A' bt.length c'] 60)); have hrow4 := Row.made w3 60 #[.int .i64 1, .int .u64 sq, .slice A' bt.length c'] 1 3 rfl; have hy4 : Bs (w3.alloc (.cells #[.int .i64 1, .int .u64 sq, .slice A' bt.length c'] 60)) (fun b => b < w.heap.size ∧ some b ≠ blk A2) A' bt.length (⟨1, sq, bt⟩ : RecP).body := ((HBT1.out.keep HK3.out (fun b _ hb e => by have := (H1.out.lt b e.symm).1; omega)).imp (fun b _ hb => ⟨hb, fun e => by have := (H2.out.lt b e.symm).1; omega⟩)).new ((New.refl w3).alloc _); have hsz4 : w.heap.size ≤ (w3.alloc (.cells #[.int .i64 1, .int .u64 sq, .slice A' bt.length c'] 60)).heap.size := Nat.le_trans HN3.out.size ((New.refl w3).alloc _).size)
          | (at_builtin; refine app_refs _ rfl _ _ rfl w.heap.size (fun b => b < w.heap.size) A2 k c2 _ rfl ha4 _ _ 1 A' c' (⟨1, sq, bt⟩ : RecP) rfl hrow4 hy4 hlc hc9 hsq.1 hsq.2 hbd hsz4 ?_; intro A5 c5 w5 hown5 hg5 hbk5))
        have hown3' := hown3.new ((New.refl w3).alloc (.cells #[.int .i64 1, .int .u64 sq, .slice A' bt.length c'] 60))
        have hK5 : Keep (fun b => some b ≠ blk A2) _ w5 := (Keep.refl _ _).grown hg5 (fun j hj hd => absurd hj.symm hd)
        have hr3 := hown3'.keepE hK5 (recs_refs_apart hown3' ha4).2 (fun b hb e => by have := (H2.out.lt b e.symm).1; omega)
        have hN5 : New w w5 := (HN3.out.alloc (.cells #[.int .i64 1, .int .u64 sq, .slice A' bt.length c'] 60)).grown hg5 (fun j hj _ => (H2.out.lt j hj).1)
        have hRR : rawRecs fi most l (k + 1) = rawRecs fi most l k ++ [(⟨1, sq, bt⟩ : RecP)] := by rw [HS.out, ← HXE.out]; rfl
        rw [← hRR] at hr3 hown5
        go_roundw
        case rel => exact ⟨k + 1, _, _, _, _, by omega, by go_num, rfl, rfl, hr3, hown5, hN5⟩
        case measure => simp [intOf]; omega
      · have HXE := Lib.hid hXe
        clear hXe
        generalize body.take most = bt at *
        go_wp2_with fail
        refine (HC.out _ (New.refl wr)).mono ?_
        rintro e w' ⟨rfl, rfl⟩
        have g0' := (World.cell?_alloc_lt wr (.cells #[.int .i64 1, .int .u64 sq, .slice A' bt.length c'] 43) ⟨b, off + k * 2, none⟩ (World.block_lt_of_cell? wr _ g0)).trans g0
        have hX1 := heap_alloc_new wr (.cells #[.int .i64 2, .int .u64 sq, .slice none 0 0] 43)
        have hY1 := hX1
        have hN1 : New wr (wr.alloc (.cells #[.int .i64 2, .int .u64 sq, .slice none 0 0] 43)) := (New.refl wr).alloc _
        have HX2 := Lib.hid (((New.refl (wr.alloc (.cells #[.int .i64 2, .int .u64 sq, .slice none 0 0] 43))).alloc (.cells #[.int .i64 2, .int .u64 sq, .slice none 0 0] 43)).blockAt hY1 trivial)
        have hN2 : New wr ((wr.alloc (.cells #[.int .i64 2, .int .u64 sq, .slice none 0 0] 43)).alloc (.cells #[.int .i64 2, .int .u64 sq, .slice none 0 0] 43)) := hN1.alloc _
        have hrow := Row.made (wr.alloc (.cells #[.int .i64 2, .int .u64 sq, .slice none 0 0] 43)) 43 #[.int .i64 2, .int .u64 sq, .slice none 0 0] 1 3 rfl
        have hsz1 : (wr.alloc (.cells #[.int .i64 2, .int .u64 sq, .slice none 0 0] 43)).heap.size = wr.heap.size + 1 := by simp
        rw [hsz1] at hrow
        have ha1 := H1.out.new hN2
        have ha2 := H2.out.new hN2
        have hbt1 : Bs ((wr.alloc (.cells #[.int .i64 2, .int .u64 sq, .slice none 0 0] 43)).alloc (.cells #[.int .i64 2, .int .u64 sq, .slice none 0 0] 43)) (fun b => b < w.heap.size) none 0 (⟨2, sq, []⟩ : RecP).body := Row.nil _ _ _ _
        have hy1 : Bs ((wr.alloc (.cells #[.int .i64 2, .int .u64 sq, .slice none 0 0] 43)).alloc (.cells #[.int .i64 2, .int .u64 sq, .slice none 0 0] 43)) (fun b => b < w.heap.size ∧ some b ≠ blk A1) none 0 (⟨2, sq, []⟩ : RecP).body := hbt1.imp (fun b _ hb => ⟨hb, fun e => by have := (H1.out.lt b e.symm).1; omega⟩)
        have hsz2 : w.heap.size ≤ ((wr.alloc (.cells #[.int .i64 2, .int .u64 sq, .slice none 0 0] 43)).alloc (.cells #[.int .i64 2, .int .u64 sq, .slice none 0 0] 43)).heap.size := Nat.le_trans hw hN2.size
        have hbd : k + 1 ≤ 1099511627776 := by omega
        have hne1 : some wr.heap.size ≠ blk A1 := fun e => by have := (H1.out.lt _ e.symm).2; omega
        have HN2 := Lib.hid hN2
        have HA1 := Lib.hid ha1
        have HA2 := Lib.hid ha2
        have HBT1 := Lib.hid hbt1
        clear hX1 hY1 hN1 hN2 ha1 ha2 hbt1 hsz1
        go_wp2_with (first
          | (at_builtin; refine app_recs _ rfl _ _ rfl w.heap.size (fun b => b < w.heap.size) A1 k c1 _ rfl HA1.out _ _ 1 none 0 (⟨2, sq, []⟩ : RecP) rfl hrow hy1 (Nat.le_refl _) (by decide) hsq.1 hsq.2 hbd hsz2 ?_; intro A3 c3 w3 hown3 hg3 hbk3; have HK3 := Lib.hid (show Keep (fun b => some b ≠ blk A1) _ w3 from (Keep.refl _ _).grown hg3 (fun j hj hd => absurd hj.symm hd)); have HX3 := Lib.hid (HK3.out.blockAt HX2.out hne1); have d0 := cellOf HX3.out (k := 0) rfl; have d1 := cellOf HX3.out (k := 1) rfl; have d2 := cellOf HX3.out (k := 2) rfl; have HN3 := Lib.hid (show New w w3 from (HK.out.new HN2.out).grown hg3 (fun j hj _ => (H1.out.lt j hj).1)); have ha4 := (HA2.out.keepE HK3.out (recs_refs_apart HA1.out HA2.out).1 (fun b hb e => by have := (H1.out.lt b e.symm).1; omega)).new ((New.refl w3).alloc (.cells #[.int .i64 2, .int .u64 sq, .slice none 0 0] 60)); have hrow4 := Row.made w3 60 #[.int .i64 2, .int .u64 sq, .slice none 0 0] 1 3 rfl; have hy4 : Bs (w3.alloc (.cells #[.int .i64 2, .int .u64 sq, .slice none 0 0] 60)) (fun b => b < w.heap.size ∧ some b ≠ blk A2) none 0 (⟨2, sq, []⟩ : RecP).body := ((HBT1.out.keep HK3.out (fun b _ hb e => by have := (H1.out.lt b e.symm).1; omega)).imp (fun b _ hb => ⟨hb, fun e => by have := (H2.out.lt b e.symm).1; omega⟩)).new ((New.refl w3).alloc _); have hsz4 : w.heap.size ≤ (w3.alloc (.cells #[.int .i64 2, .int .u64 sq, .slice none 0 0] 60)).heap.size := Nat.le_trans HN3.out.size ((New.refl w3).alloc _).size)
          | (at_builtin; refine app_refs _ rfl _ _ rfl w.heap.size (fun b => b < w.heap.size) A2 k c2 _ rfl ha4 _ _ 1 none 0 (⟨2, sq, []⟩ : RecP) rfl hrow4 hy4 (Nat.le_refl _) (by decide) hsq.1 hsq.2 hbd hsz4 ?_; intro A5 c5 w5 hown5 hg5 hbk5))
        have hown3' := hown3.new ((New.refl w3).alloc (.cells #[.int .i64 2, .int .u64 sq, .slice none 0 0] 60))
        have hK5 : Keep (fun b => some b ≠ blk A2) _ w5 := (Keep.refl _ _).grown hg5 (fun j hj hd => absurd hj.symm hd)
        have hr3 := hown3'.keepE hK5 (recs_refs_apart hown3' ha4).2 (fun b hb e => by have := (H2.out.lt b e.symm).1; omega)
        have hN5 : New w w5 := (HN3.out.alloc (.cells #[.int .i64 2, .int .u64 sq, .slice none 0 0] 60)).grown hg5 (fun j hj _ => (H2.out.lt j hj).1)
        have hRR : rawRecs fi most l (k + 1) = rawRecs fi most l k ++ [(⟨2, sq, []⟩ : RecP)] := by rw [HS.out, ← HXE.out]; rfl
        rw [← hRR] at hr3 hown5
        go_roundw
        case rel => exact ⟨k + 1, _, _, _, _, by omega, by go_num, rfl, rfl, hr3, hown5, hN5⟩
        case measure => simp [intOf]; omega
    · have hkn : k = min n 40 := by omega
      have hcase : (n = k ∧ k ≤ 40) ∨ (k = 40 ∧ k < n) := by omega
      clear hkn
      rcases hcase with ⟨h1, h2⟩ | ⟨h1, h2⟩
      · subst h1
        have hx : ¬ (n < n) := Nat.lt_irrefl _
        go_wp2_with fail
        refine bodyPost_ret (v := .tuple #[.slice A1 n c1, .slice A2 n c2]) (by simp [results, Tryd.results9, go_sem]) rfl ?_
        rw [show min n 40 = n from by omega]
        exact ⟨⟨_, _, _, _, rfl, ho1, ho2⟩, hK⟩
      · subst h1
        go_wp2_with fail
        refine bodyPost_ret (v := .tuple #[.slice A1 40 c1, .slice A2 40 c2]) (by simp [results, Tryd.results9, go_sem]) rfl ?_
        rw [show min n 40 = 40 from by omega]
        exact ⟨⟨_, _, _, _, rfl, ho1, ho2⟩, hK⟩
end Go.Proofs.YtpbbfbgmpidgnaaDoor
