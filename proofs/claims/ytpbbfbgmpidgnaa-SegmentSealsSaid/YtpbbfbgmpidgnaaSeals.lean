/-
  PROVED HERE: the law SegmentSeals returns true; conditions: lengths that a slice may have.
-/
import Derived.Test.YtpbbfbgmpidgnaaKnown17
import Derived.Test.YtpbbfbgmpidgnaaRefSum
import Derived.Test.YtpbbfbgmpidgnaaKeepF
import Derived.Test.YtpbbfbgmpidgnaaHold
import Derived.Deep.DeepCutAuto
namespace Go.Proofs.Ytpbbfbgmpidgnaa
open Go.RowKit

theorem setCell_block {w : World} {g : Nat} {cs : Array Value} {t : TypeId} (h : w.heap[g]? = some (.cells cs t (0, 0))) (i : Nat) (u : Value) : (w.setCell ⟨g, i, none⟩ u).heap[g]? = some (.cells (cs.setIfInBounds i u) t (0, 0)) := by
  simp [World.setCell, Array.getElem?_modify, h]
theorem frozenOf {w : World} {g : Nat} {cs : Array Value} {t : TypeId} (h : w.heap[g]? = some (.cells cs t (0, 0))) (i : Nat) : w.frozen? ⟨g, i, none⟩ = false := by
  simp [World.frozen?, h]
theorem Own.keepNew {w w' : World} {base : Nat} {e : TypeId} {size n c : Nat} {A : Option Addr} {xs : List Value} (h : Own w base e size A n c xs) (hk : New w w') : Own w' base e size A n c xs := own_keep h hk (fun _ _ => trivial)
theorem own_of {w : World} {base : Nat} {e : TypeId} {size n c : Nat} {A : Option Addr} {xs ys : List Value} (h : Own w base e size A n c xs) (he : ys = xs) : Own w base e size A n c ys := by rw [he]; exact h
theorem three_bytes (x : Int) : (beI 1 2 ++ beI 2 x).map byteVal = [.int .u8 2, .int .u8 (x / 256 % 256), .int .u8 (x % 256)] := by
  have h1 := byteVal_mod (x / 256)
  have h2 := byteVal_mod x
  simp only [beI, List.range, List.range.loop, List.map_cons, List.map_nil, List.cons_append, List.nil_append]
  have e0 : byteVal (UInt8.ofNat ((2 : Int) / 2 ^ (8 * (1 - 1 - 0)) % 256).toNat) = .int .u8 2 := by simp [byteVal, bv]
  have e1 : x / 2 ^ (8 * (2 - 1 - 0)) % 256 = x / 256 % 256 := rfl
  have e2 : x / 2 ^ (8 * (2 - 1 - 1)) % 256 = x % 256 := by simp
  rw [e0, e1, e2, h1, h2]
theorem bs_two (w : World) (x : Int) : Bs (w.alloc (.cells #[.int .u8 (IntKind.u8.wrap (x / 256)), .int .u8 (IntKind.u8.wrap x)] 5)) (fun b => w.heap.size ≤ b) (some ⟨w.heap.size, 0, none⟩) 2 (beI 2 x) := by
  have h := Row.made w 5 #[.int .u8 (IntKind.u8.wrap (x / 256)), .int .u8 (IntKind.u8.wrap x)] 2 1 rfl
  have e : (beI 2 x).map byteVal = [.int .u8 (IntKind.u8.wrap (x / 256)), .int .u8 (IntKind.u8.wrap x)] := by
    have h1 := byteVal_mod (x / 256)
    have h2 := byteVal_mod x
    simp only [beI, List.range, List.range.loop, List.map_cons, List.map_nil, IntKind.wrap_u8]
    rw [show x / 2 ^ (8 * (2 - 1 - 0)) % 256 = x / 256 % 256 from rfl, show x / 2 ^ (8 * (2 - 1 - 1)) % 256 = x % 256 from by simp, h1, h2]
  rw [Bs, e]; exact h
theorem beI8_take (n : Int) {j : Nat} (hj : j < 8) : (beI 8 n).take (j + 1) = (beI 8 n).take j ++ [UInt8.ofNat (n / 2 ^ (56 - 8 * j) % 256).toNat] := by
  have h := beI_take 8 (7 - j) n (by omega)
  rw [show 8 - (7 - j) = j + 1 from by omega, show 8 - (7 - j + 1) = j from by omega, show 8 * (7 - j) = 56 - 8 * j from by omega] at h
  exact h
theorem sized_length (bs : List UInt8) (m : Nat) : (sized bs m).length = m := by unfold sized; rw [List.length_append, List.length_take, List.length_replicate]; omega
/-- a call that hands back a row of 32 bytes that reads as a string. -/
def StrRet (S : ByteArray) (w : World) (e : Ending) (w' : World) : Prop := (∃ A' c', e = .returned (.slice A' 32 c') ∧ ∀ W, New w' W → (convert 23 9 (.slice A' 32 c')).run Try.prog W = .ok (.string S) W) ∧ New w w'
set_option maxRecDepth 100000 in
set_option maxHeartbeats 2000000 in
theorem seals_any (D D2 : Nat → Prop) (A A2 : Option Addr) (n c n2 c2 : Nat) (h : HeadP) (m : Int) (w : World) (hB : Bs w D A n h.prev) (hnc : n ≤ c) (hn : n ≤ 9223372036854775807) (hB2 : Bs w D2 A2 n2 h.root) (hnc2 : n2 ≤ c2) (hn2 : n2 ≤ 9223372036854775807) (hf0 : 0 ≤ h.first) (hf1 : h.first ≤ 18446744073709551615) :
    Calls Try.prog 3 #[.agg #[.int .i64 h.index, .int .u64 h.first, .int .i64 h.count, .int .i64 h.bytes, .slice A n c, .slice A2 n2 c2], .int .i64 m] w fun e w' => e = .returned (.bool true) ∧ New w w' := by
  rcases h with ⟨ix, fi, co, by', pr, ro⟩
  dsimp only at hB hB2 hf0 hf1 ⊢
  have hW0 : (w.alloc (.cells #[.int .i64 ix, .int .u64 fi, .int .i64 co, .int .i64 by', .slice A n c, .slice A2 n2 c2] 25)).heap[w.heap.size]? = some (.cells #[.int .i64 ix, .int .u64 fi, .int .i64 co, .int .i64 by', .slice A n c, .slice A2 n2 c2] 25 (0, 0)) := heap_alloc_new w _
  have hK0 : New w (w.alloc (.cells #[.int .i64 ix, .int .u64 fi, .int .i64 co, .int .i64 by', .slice A n c, .slice A2 n2 c2] 25)) := (New.refl w).alloc _
  have hlt : w.heap.size < (w.alloc (.cells #[.int .i64 ix, .int .u64 fi, .int .i64 co, .int .i64 by', .slice A n c, .slice A2 n2 c2] 25)).heap.size := by simp
  have hBa := hB.new hK0
  have hBb := hB2.new hK0
  clear hB hB2
  go_enter Try.func3, Try.ntmps3
  go_upto_region 1 with (fail)
  generalize w.alloc _ = w0 at *
  have HC1 : Hid (∀ w', New w0 w' → Calls Try.prog 4 #[.slice A n c, .int .i64 32] w' fun e w'' => (∃ A' c', e = .returned (.slice A' 32 c') ∧ OwnB w'' w'.heap.size 5 A' 32 c' (sized pr 32)) ∧ New w' w'') :=
    Lib.hid fun w' hN => sized_any A n c 32 pr D w' (hBa.new hN) hn hnc (by decide)
  have HC2 : Hid (∀ w', New w0 w' → Calls Try.prog 4 #[.slice A2 n2 c2, .int .i64 32] w' fun e w'' => (∃ A' c', e = .returned (.slice A' 32 c') ∧ OwnB w'' w'.heap.size 5 A' 32 c' (sized ro 32)) ∧ New w' w'') :=
    Lib.hid fun w' hN => sized_any A2 n2 c2 32 ro D2 w' (hBb.new hN) hn2 hnc2 (by decide)
  clear hBa hBb
  have HW0 := Lib.hid hW0
  generalize hg : w.heap.size = g at *
  have HG := Lib.hid hg
  clear hg
  go_cut [] (fun wx => ∃ A1 c1 A2' c2', wx.heap[g]? = some (.cells #[.int .i64 ix, .int .u64 fi, .int .i64 co, .int .i64 by', .slice A1 32 c1, .slice A2' 32 c2'] 25 (0, 0)) ∧ OwnB wx (g + 1) 5 A1 32 c1 (sized pr 32) ∧ OwnB wx (g + 1) 5 A2' 32 c2' (sized ro 32) ∧ New w wx)
  case first =>
    have d4 : w0.cell? ⟨g, 4, none⟩ = some (.slice A n c) := cellOf hW0 rfl
    have d5 : w0.cell? ⟨g, 5, none⟩ = some (.slice A2 n2 c2) := cellOf hW0 rfl
    clear hW0
    go_region_with (first
      | (go_at_call 4; (with_reducible refine (HC1.out _ (by exact (New.refl w0).drew)).mono ?_); rintro e w3 ⟨⟨A3, c3, rfl, hown3⟩, hK3⟩; have hN3 := ((New.refl w0).drew).new hK3; have e5 := hN3.cell_some d5 trivial)
      | (go_at_call 4; (with_reducible refine (HC2.out _ (by exact hN3)).mono ?_); rintro e w4 ⟨⟨A4, c4, rfl, hown4⟩, hK4⟩; have hN4 := hN3.new hK4; have hH4 := Lib.hid (hN4.blockAt HW0.out trivial); have f4 : w4.cell? ⟨g, 4, none⟩ = some (.slice A n c) := cellOf hH4.out rfl; have f5 : w4.cell? ⟨g, 5, none⟩ = some (.slice A2 n2 c2) := cellOf hH4.out rfl; have z4 := frozenOf hH4.out 4; have z5 := frozenOf hH4.out 5))
    all_goals
      have hg0 : w0.drew.heap.size = w0.heap.size := rfl
      have o3 := own_base (base := g + 1) (Own.keepNew hown3 hK4) (by rw [hg0]; omega)
      have o4 := own_base (base := g + 1) hown4 (Nat.le_trans hlt hN3.size)
      have n3 : blk A3 ≠ some g := fun e => by have := (own_lt o3 g e).1; omega
      have n4 : blk A4 ≠ some g := fun e => by have := (own_lt o4 g e).1; omega
      have b1 := setCell_block (setCell_block hH4.out 4 (.slice A3 32 c3)) 5 (.slice A4 32 c4)
      have hgw : w.heap.size ≤ g := Nat.le_of_eq HG.out
      go_wp2_with fail
      go_meet
      exact ⟨A3, c3, A4, c4, b1, own_set (p := ⟨g, 5, none⟩) (own_set (p := ⟨g, 4, none⟩) o3 n3 _) n3 _, own_set (p := ⟨g, 5, none⟩) (own_set (p := ⟨g, 4, none⟩) o4 n4 _) n4 _,
        ((hK0.new hN4).setCell (p := ⟨g, 4, none⟩) (fun _ => hgw) _).setCell (p := ⟨g, 5, none⟩) (fun _ => hgw) _⟩
  case rest =>
    clear hW0 HW0 HC1 HC2
    obtain ⟨A1, c1, A2', c2', hb, o1, o2, hK⟩ := hcut
    have hPl := sized_length pr 32
    have hRl := sized_length ro 32
    generalize sized pr 32 = P at *
    generalize sized ro 32 = R at *
    have HB := Lib.hid hb
    clear hb
    have d0 : wc.cell? ⟨g, 0, none⟩ = some (.int .i64 ix) := cellOf HB.out rfl
    go_wp2_with fail
    clear d0
    have hx0 : OwnB (wc.alloc (.cells #[.int .u8 2, .int .u8 (ix / 256 % 256), .int .u8 (ix % 256)] 5)) wc.heap.size 5 (some ⟨wc.heap.size, 0, none⟩) 3 3 (beI 1 2 ++ beI 2 ix) := by
      exact own_of (own_new wc _ 1 3 _ rfl (by decide)) (three_bytes ix)
    have hN0 : New wc (wc.alloc (.cells #[.int .u8 2, .int .u8 (ix / 256 % 256), .int .u8 (ix % 256)] 5)) := (New.refl wc).alloc _
    generalize wc.alloc _ = w1 at *
    generalize hX : beI 1 2 ++ beI 2 ix = X at hx0
    have HX := Lib.hid hX
    clear hX
    have hgc : g < wc.heap.size := (Array.getElem?_eq_some_iff.1 HB.out).1
    go_loopw [5, 6] (fun s5 i wx => ∃ (A : Option Addr) (c j mm : Nat), s5 = .slice A mm c ∧ j ≤ 8 ∧ i = .int .i64 (56 - 8 * (j : Int)) ∧ mm = 3 + j ∧ OwnB wx wc.heap.size 5 A mm c (X ++ (beI 8 fi).take j) ∧ New wc wx) (fun _ i _ => (intOf i + 8).toNat)
    case atStart => exact ⟨_, _, 0, 3, rfl, by omega, rfl, rfl, by simpa using hx0, hN0⟩
    case round =>
      clear hx0 hN0
      obtain ⟨Ax, cx, j, mm, rfl, hj, rfl, hmm, hown, hN⟩ := hrel
      have hbox := hN.blockAt HB.out trivial
      by_cases hlt8 : j < 8
      · have hb1 := bs_one wr 5 _ _ (byteVal_mod (fi / 2 ^ (56 - 8 * j)))
        have hbd : mm + 1 ≤ 140737488355328 := by omega
        have d1 : wr.cell? ⟨g, 1, none⟩ = some (.int .u64 fi) := cellOf hbox rfl
        have HMM := Lib.hid hmm
        clear hmm hbox
        go_wp2_with (at_builtin; refine app_bytes _ rfl (.tmp 28) (.tmp 35) rfl wc.heap.size Ax mm cx _ rfl (hown.alloc _) (fun g => wr.heap.size ≤ g) _ 1 1 _ rfl hb1 hbd ((hN.alloc _).size) ?_; intro A3 c3 w3 hown3 hg3 hbk3)
        have hN3 := new_app hN hown hg3
        clear hg3 hbk3 hown hN hb1 d1
        go_roundw
        case rel =>
          have e : (56 : Int) - 8 * ((j + 1 : Nat) : Int) = 56 - 8 * (j : Int) - 8 := by omega
          exact ⟨_, _, j + 1, _, rfl, by omega, by rw [e], by have := HMM.out; omega, by rw [beI8_take fi hlt8, ← List.append_assoc]; exact hown3, hN3⟩
        case measure => simp [intOf]; omega
      · obtain rfl : j = 8 := by omega
        have hm11 : mm = 11 := by omega
        subst hm11
        rw [show (56 - 8 * ((8 : Nat) : Int)) = -8 from rfl]
        rw [List.take_of_length_le (by rw [beI_length]; exact Nat.le_refl _)] at hown
        clear hmm
        generalize hX2 : X ++ beI 8 fi = X2 at hown
        have HX2 := Lib.hid hX2
        clear hX2
        have HK : Hid (∀ w', New wc w' → New wc w' ∧ w'.cell? ⟨g, 2, none⟩ = some (.int .i64 co) ∧ w'.cell? ⟨g, 4, none⟩ = some (.slice A1 32 c1) ∧ w'.cell? ⟨g, 5, none⟩ = some (.slice A2' 32 c2')) :=
          Lib.hid fun w' hN => ⟨hN, cellOf (hN.blockAt HB.out trivial) rfl, cellOf (hN.blockAt HB.out trivial) rfl, cellOf (hN.blockAt HB.out trivial) rfl⟩
        clear hbox
        have hr2 : Bs (wr.alloc (.cells #[.int .u8 (IntKind.u8.wrap (co / 256)), .int .u8 (IntKind.u8.wrap co)] 5)) (fun b => wr.heap.size ≤ b) (some ⟨wr.heap.size, 0, none⟩) 2 (beI 2 co) := bs_two wr co
        have hown1 := hown.alloc (.cells #[.int .u8 (IntKind.u8.wrap (co / 256)), .int .u8 (IntKind.u8.wrap co)] 5)
        have hN1 := hN.alloc (.cells #[.int .u8 (IntKind.u8.wrap (co / 256)), .int .u8 (IntKind.u8.wrap co)] 5)
        go_wp2_with fail
        go_region_held3 (fun w' => New wc w' ∧ w'.cell? ⟨g, 2, none⟩ = some (.int .i64 co) ∧ w'.cell? ⟨g, 4, none⟩ = some (.slice A1 32 c1) ∧ w'.cell? ⟨g, 5, none⟩ = some (.slice A2' 32 c2'))
          (first | exact HK.out _ hN | exact HK.out _ hN.drew | exact HK.out _ (hN.alloc _) | exact HK.out _ (hN.drew.alloc _) | exact HK.out _ (hN.alloc _).drew | exact HK.out _ hN3 | exact HK.out _ hN4 | exact HK.out _ hN5)
          ((first
            | (refine step_bytes _ rfl (.tmp 37) (.tmp 45) rfl wc.heap.size Ax 11 cx _ rfl hown1 _ _ 2 2 _ rfl hr2 (by omega) hN1.size ?_; intro A3 c3 w3 hown3 hg3 hbk3; replace hg3 := undrew hg3; have hN3 := new_app0 hN1 hown1 hg3)
            | (refine step_bytes _ rfl (.tmp 46) (.tmp 48) rfl wc.heap.size A3 13 c3 _ rfl hown3 _ A1 32 c1 P rfl ((Row.of_own o1).new hN3) (by omega) hN3.size ?_; intro A4 c4 w4 hown4 hg4 hbk4; have hN4 := new_app0 hN3 hown3 hg4)
            | (refine step_bytes _ rfl (.tmp 49) (.tmp 51) rfl wc.heap.size A4 45 c4 _ rfl hown4 _ A2' 32 c2' R rfl ((Row.of_own o2).new hN4) (by omega) hN4.size ?_; intro A5 c5 w5 hown5 hg5 hbk5; have hN5 := new_app0 hN4 hown4 hg5)))
        clear hN4 hN3 hN1 hown3 hown4 hown1 hr2 hg3 hg4 hg5 hbk3 hbk4 hbk5 hown hN HK
        replace hown5 : OwnB w5 wc.heap.size 5 A5 77 c5 (X2 ++ beI 2 co ++ P ++ R) := hown5
        have hgw : w.heap.size ≤ g := Nat.le_of_eq HG.out
        have hg5 : g < w5.heap.size := Nat.lt_of_lt_of_le hgc hN5.size
        have HB5 := Lib.hid (hN5.blockAt HB.out trivial)
        have e0 : w5.cell? ⟨g, 0, none⟩ = some (.int .i64 ix) := cellOf HB5.out rfl
        have e1 : w5.cell? ⟨g, 1, none⟩ = some (.int .u64 fi) := cellOf HB5.out rfl
        have e2 : w5.cell? ⟨g, 2, none⟩ = some (.int .i64 co) := cellOf HB5.out rfl
        have e3 : w5.cell? ⟨g, 3, none⟩ = some (.int .i64 by') := cellOf HB5.out rfl
        have e4 : w5.cell? ⟨g, 4, none⟩ = some (.slice A1 32 c1) := cellOf HB5.out rfl
        have e5 : w5.cell? ⟨g, 5, none⟩ = some (.slice A2' 32 c2') := cellOf HB5.out rfl
        have hE := World.ownsRow_made (w5.alloc (.cells #[.int .i64 ix, .int .u64 fi, .int .i64 co, .int .i64 m, .slice A1 32 c1, .slice A2' 32 c2'] 25)) (e := 5) (size := 1) #[] 0 (Nat.le_refl _) (by decide) rfl
        rw [World.size_alloc] at hE
        have hP5 := (((Row.of_own o1).new hN5).alloc (.cells #[.int .i64 ix, .int .u64 fi, .int .i64 co, .int .i64 m, .slice A1 32 c1, .slice A2' 32 c2'] 25)).alloc (.cells #[] 5)
        have hc5 : w5.heap.size + 1 ≤ ((w5.alloc (.cells #[.int .i64 ix, .int .u64 fi, .int .i64 co, .int .i64 m, .slice A1 32 c1, .slice A2' 32 c2'] 25)).alloc (.cells #[] 5)).heap.size := by simp
        have hO5 := heap_alloc_new w5 (.cells #[.int .i64 ix, .int .u64 fi, .int .i64 co, .int .i64 m, .slice A1 32 c1, .slice A2' 32 c2'] 25)
        have HO5 := Lib.hid (((New.refl (w5.alloc (.cells #[.int .i64 ix, .int .u64 fi, .int .i64 co, .int .i64 m, .slice A1 32 c1, .slice A2' 32 c2'] 25))).alloc (.cells #[] 5)).blockAt hO5 trivial)
        clear hO5
        go_wp2_with (at_builtin; refine app_bytes _ rfl (.tmp 56) (.tmp 58) rfl (w5.heap.size + 1) _ 0 0 [] rfl hE _ A1 32 c1 P rfl hP5 (by omega) hc5 ?_; intro A6 c6 w6 hown6 hg6 hbk6; have hO6 := Lib.hid ((hg6.block w5.heap.size (by simp; try omega) (by simp [blk])).trans HO5.out); have z4 := frozenOf hO6.out 4; have f4 : w6.cell? ⟨w5.heap.size, 4, none⟩ = some (.slice A1 32 c1) := cellOf hO6.out rfl)
        clear z4 f4 e0 e1 e2 e3 e4 e5 hP5 hc5
        have hne : some w5.heap.size ≠ blk A6 := by
          rcases hbk6 with h | h <;> rw [h] <;> (intro e; simp [blk] at e; try omega)
        have hown7 := own_set (p := ⟨w5.heap.size, 4, none⟩) hown6 (Ne.symm hne) (.slice A6 (0 + 32) c6)
        have hO7 := setCell_block hO6.out 4 (.slice A6 (0 + 32) c6)
        have hN7 : New w5 (w6.setCell ⟨w5.heap.size, 4, none⟩ (.slice A6 (0 + 32) c6)) := ((((New.refl w5).alloc (.cells #[.int .i64 ix, .int .u64 fi, .int .i64 co, .int .i64 m, .slice A1 32 c1, .slice A2' 32 c2'] 25)).alloc (.cells #[] 5)).grown hg6 (fun k hk _ => by simp [blk] at hk; omega)).setCell (p := ⟨w5.heap.size, 4, none⟩) (fun _ => Nat.le_refl _) _
        rw [Nat.zero_add] at hown7 hO7 hN7
        rw [List.nil_append] at hown7
        clear hown6 hg6 hbk6 hO6 HO5 hE hne
        generalize w6.setCell ⟨w5.heap.size, 4, none⟩ (.slice A6 32 c6) = w7 at *
        generalize hgc' : w5.heap.size = gc at *
        have hN07 : New w w7 := (hK.new hN5).new hN7
        have hB7 := (hN5.new hN7).blockAt HB.out trivial
        have hP7 := (Row.of_own o1).new (hN5.new hN7)
        have hR7 := (Row.of_own o2).new (hN5.new hN7)
        have hQ7 := Row.of_own hown7
        have hX7 := (Row.of_own hown5).new hN7
        have hca1 := own_cap o1
        have hca2 := own_cap o2
        have hca6 := own_cap hown7
        have hca5 := own_cap hown5
        have hXs : ∀ b, sealRow ⟨ix, fi, co, b, P, R⟩ = X2 ++ beI 2 co ++ P ++ R := fun b => by
          unfold sealRow whole32; rw [if_pos hPl, if_pos hRl, ← HX2.out, ← HX.out]
        have hSs : ∀ b, sealOf ⟨ix, fi, co, b, P, R⟩ = shaSum (X2 ++ beI 2 co ++ P ++ R) := fun b => by unfold sealOf; rw [hXs]
        have HCa : Hid (∀ w', New w7 w' → Calls Try.prog 5 #[.agg #[.int .i64 ix, .int .u64 fi, .int .i64 co, .int .i64 by', .slice A1 32 c1, .slice A2' 32 c2']] w' (StrRet (strOf (shaSum (X2 ++ beI 2 co ++ P ++ R))) w')) :=
          Lib.hid fun w' hN => (seal_any _ _ A1 A2' 32 c1 32 c2' ⟨ix, fi, co, by', P, R⟩ w' (hP7.new hN) hca1 (hR7.new hN) hca2 hf0 hf1).mono fun e w'' ⟨⟨A', c', he, ho⟩, hk⟩ => ⟨⟨A', c', he, fun W hW => by rw [run_str (Row.of_own (Own.keepNew ho hW)), hSs]⟩, hk⟩
        have HCc : Hid (∀ w', New w7 w' → Calls Try.prog 5 #[.agg #[.int .i64 ix, .int .u64 fi, .int .i64 co, .int .i64 m, .slice A6 32 c6, .slice A2' 32 c2']] w' (StrRet (strOf (shaSum (X2 ++ beI 2 co ++ P ++ R))) w')) :=
          Lib.hid fun w' hN => (seal_any _ _ A6 A2' 32 c6 32 c2' ⟨ix, fi, co, m, P, R⟩ w' (hQ7.new hN) hca6 (hR7.new hN) hca2 hf0 hf1).mono fun e w'' ⟨⟨A', c', he, ho⟩, hk⟩ => ⟨⟨A', c', he, fun W hW => by rw [run_str (Row.of_own (Own.keepNew ho hW)), hSs]⟩, hk⟩
        have HCx : Hid (∀ w', New w7 w' → Calls Try.prog 6 #[.slice A5 77 c5] w' (StrRet (strOf (shaSum (X2 ++ beI 2 co ++ P ++ R))) w')) :=
          Lib.hid fun w' hN => (refsum_any _ A5 77 c5 _ w' (hX7.new hN) (by decide)).mono fun e w'' ⟨⟨A', c', he, ho⟩, hk⟩ => ⟨⟨A', c', he, fun W hW => run_str (Row.of_own (Own.keepNew ho hW))⟩, hk⟩
        generalize strOf (shaSum (X2 ++ beI 2 co ++ P ++ R)) = SS at *
        have q0 : ∀ W, New w7 W → W.cell? ⟨g, 0, none⟩ = some (.int .i64 ix) := fun W h => cellOf (h.blockAt hB7 trivial) rfl
        have q1 : ∀ W, New w7 W → W.cell? ⟨g, 1, none⟩ = some (.int .u64 fi) := fun W h => cellOf (h.blockAt hB7 trivial) rfl
        have q2 : ∀ W, New w7 W → W.cell? ⟨g, 2, none⟩ = some (.int .i64 co) := fun W h => cellOf (h.blockAt hB7 trivial) rfl
        have q3 : ∀ W, New w7 W → W.cell? ⟨g, 3, none⟩ = some (.int .i64 by') := fun W h => cellOf (h.blockAt hB7 trivial) rfl
        have q4 : ∀ W, New w7 W → W.cell? ⟨g, 4, none⟩ = some (.slice A1 32 c1) := fun W h => cellOf (h.blockAt hB7 trivial) rfl
        have q5 : ∀ W, New w7 W → W.cell? ⟨g, 5, none⟩ = some (.slice A2' 32 c2') := fun W h => cellOf (h.blockAt hB7 trivial) rfl
        have r0 : ∀ W, New w7 W → W.cell? ⟨gc, 0, none⟩ = some (.int .i64 ix) := fun W h => cellOf (h.blockAt hO7 trivial) rfl
        have r1 : ∀ W, New w7 W → W.cell? ⟨gc, 1, none⟩ = some (.int .u64 fi) := fun W h => cellOf (h.blockAt hO7 trivial) rfl
        have r2 : ∀ W, New w7 W → W.cell? ⟨gc, 2, none⟩ = some (.int .i64 co) := fun W h => cellOf (h.blockAt hO7 trivial) rfl
        have r3 : ∀ W, New w7 W → W.cell? ⟨gc, 3, none⟩ = some (.int .i64 m) := fun W h => cellOf (h.blockAt hO7 trivial) rfl
        have r4 : ∀ W, New w7 W → W.cell? ⟨gc, 4, none⟩ = some (.slice A6 32 c6) := fun W h => cellOf (h.blockAt hO7 trivial) rfl
        have r5 : ∀ W, New w7 W → W.cell? ⟨gc, 5, none⟩ = some (.slice A2' 32 c2') := fun W h => cellOf (h.blockAt hO7 trivial) rfl
        clear hB7 hO7 hP7 hR7 hQ7 hX7 hXs hSs hown5 hown7 o1 o2 hN5 hN7 hK
        refine hold_begin (by kernel_rfl) ?_
        have n0 : New w7 w7.drew := (New.refl w7).drew
        replace q0 := fun W (hW : New w7.drew W) => q0 W (Keep.new n0 hW)
        replace q1 := fun W (hW : New w7.drew W) => q1 W (Keep.new n0 hW)
        replace q2 := fun W (hW : New w7.drew W) => q2 W (Keep.new n0 hW)
        replace q3 := fun W (hW : New w7.drew W) => q3 W (Keep.new n0 hW)
        replace q4 := fun W (hW : New w7.drew W) => q4 W (Keep.new n0 hW)
        replace q5 := fun W (hW : New w7.drew W) => q5 W (Keep.new n0 hW)
        replace r0 := fun W (hW : New w7.drew W) => r0 W (Keep.new n0 hW)
        replace r1 := fun W (hW : New w7.drew W) => r1 W (Keep.new n0 hW)
        replace r2 := fun W (hW : New w7.drew W) => r2 W (Keep.new n0 hW)
        replace r3 := fun W (hW : New w7.drew W) => r3 W (Keep.new n0 hW)
        replace r4 := fun W (hW : New w7.drew W) => r4 W (Keep.new n0 hW)
        replace r5 := fun W (hW : New w7.drew W) => r5 W (Keep.new n0 hW)
        refine hold_read (i := 0) (v := ?_) rfl (by kernel_rfl) (by kernel_rfl) (by kernel_rfl) (fun _ _ _ h => h) rfl ?_ ?_
        rotate_left
        · intro w' hN
          go_simp
          try with_reducible rfl
        simp only [Act.put, List.getElem_toArray, List.getElem_cons_succ, List.getElem_cons_zero, List.setIfInBounds_toArray, List.set_cons_zero, List.set_cons_succ]
        refine hold_read (i := 3) (v := ?_) rfl (by kernel_rfl) (by kernel_rfl) (by kernel_rfl) (fun _ _ _ h => h) rfl ?_ ?_
        rotate_left
        · intro w' hN
          go_simp
          try with_reducible rfl
        simp only [Act.put, List.getElem_toArray, List.getElem_cons_succ, List.getElem_cons_zero, List.setIfInBounds_toArray, List.set_cons_zero, List.set_cons_succ]
        refine hold_step (i := 1) (by kernel_rfl) rfl rfl (fun K hK => ?_)
        go_simp
        (with_reducible refine (HCa.out _ n0).mono ?_)
        rintro e w10 ⟨⟨A10, c10, rfl, v10⟩, k10⟩
        go_wp2_with fail
        refine hK.out _ _ k10 ?_
        clear hK K
        try simp only [Act.put, List.getElem_toArray, List.getElem_cons_succ, List.getElem_cons_zero, List.setIfInBounds_toArray, List.set_cons_zero, List.set_cons_succ]
        replace n0 := Keep.new n0 k10
        replace q0 := fun W (hW : New w10 W) => q0 W (Keep.new k10 hW)
        replace q1 := fun W (hW : New w10 W) => q1 W (Keep.new k10 hW)
        replace q2 := fun W (hW : New w10 W) => q2 W (Keep.new k10 hW)
        replace q3 := fun W (hW : New w10 W) => q3 W (Keep.new k10 hW)
        replace q4 := fun W (hW : New w10 W) => q4 W (Keep.new k10 hW)
        replace q5 := fun W (hW : New w10 W) => q5 W (Keep.new k10 hW)
        replace r0 := fun W (hW : New w10 W) => r0 W (Keep.new k10 hW)
        replace r1 := fun W (hW : New w10 W) => r1 W (Keep.new k10 hW)
        replace r2 := fun W (hW : New w10 W) => r2 W (Keep.new k10 hW)
        replace r3 := fun W (hW : New w10 W) => r3 W (Keep.new k10 hW)
        replace r4 := fun W (hW : New w10 W) => r4 W (Keep.new k10 hW)
        replace r5 := fun W (hW : New w10 W) => r5 W (Keep.new k10 hW)
        refine hold_read (i := 2) (v := ?_) rfl (by kernel_rfl) (by kernel_rfl) (by kernel_rfl) (fun _ _ _ h => h) rfl ?_ ?_
        rotate_left
        · intro w' hN
          go_simp
          try with_reducible rfl
        simp only [Act.put, List.getElem_toArray, List.getElem_cons_succ, List.getElem_cons_zero, List.setIfInBounds_toArray, List.set_cons_zero, List.set_cons_succ]
        refine hold_step (i := 4) (by kernel_rfl) rfl rfl (fun K hK => ?_)
        go_simp
        (with_reducible refine (HCx.out _ n0).mono ?_)
        rintro e w11 ⟨⟨A11, c11, rfl, v11⟩, k11⟩
        go_wp2_with fail
        refine hK.out _ _ k11 ?_
        clear hK K
        try simp only [Act.put, List.getElem_toArray, List.getElem_cons_succ, List.getElem_cons_zero, List.setIfInBounds_toArray, List.set_cons_zero, List.set_cons_succ]
        replace n0 := Keep.new n0 k11
        replace q0 := fun W (hW : New w11 W) => q0 W (Keep.new k11 hW)
        replace q1 := fun W (hW : New w11 W) => q1 W (Keep.new k11 hW)
        replace q2 := fun W (hW : New w11 W) => q2 W (Keep.new k11 hW)
        replace q3 := fun W (hW : New w11 W) => q3 W (Keep.new k11 hW)
        replace q4 := fun W (hW : New w11 W) => q4 W (Keep.new k11 hW)
        replace q5 := fun W (hW : New w11 W) => q5 W (Keep.new k11 hW)
        replace r0 := fun W (hW : New w11 W) => r0 W (Keep.new k11 hW)
        replace r1 := fun W (hW : New w11 W) => r1 W (Keep.new k11 hW)
        replace r2 := fun W (hW : New w11 W) => r2 W (Keep.new k11 hW)
        replace r3 := fun W (hW : New w11 W) => r3 W (Keep.new k11 hW)
        replace r4 := fun W (hW : New w11 W) => r4 W (Keep.new k11 hW)
        replace r5 := fun W (hW : New w11 W) => r5 W (Keep.new k11 hW)
        replace v10 := fun W (hW : New w11 W) => v10 W (Keep.new k11 hW)
        refine hold_read (i := 5) (v := ?_) rfl (by kernel_rfl) (by kernel_rfl) (by kernel_rfl) (fun _ _ _ h => h) rfl ?_ ?_
        rotate_left
        · intro w' hN
          go_simp
          try with_reducible rfl
        simp only [Act.put, List.getElem_toArray, List.getElem_cons_succ, List.getElem_cons_zero, List.setIfInBounds_toArray, List.set_cons_zero, List.set_cons_succ]
        refine hold_read (i := 6) (v := ?_) rfl (by kernel_rfl) (by kernel_rfl) (by kernel_rfl) (fun _ _ _ h => h) rfl ?_ ?_
        rotate_left
        · intro w' hN
          go_simp
          try with_reducible rfl
        simp only [Act.put, List.getElem_toArray, List.getElem_cons_succ, List.getElem_cons_zero, List.setIfInBounds_toArray, List.set_cons_zero, List.set_cons_succ]
        refine hold_read (i := 7) (v := ?_) rfl (by kernel_rfl) (by kernel_rfl) (by kernel_rfl) (fun _ _ _ h => h) rfl ?_ ?_
        rotate_left
        · intro w' hN
          go_simp
          try with_reducible rfl
        simp only [Act.put, List.getElem_toArray, List.getElem_cons_succ, List.getElem_cons_zero, List.setIfInBounds_toArray, List.set_cons_zero, List.set_cons_succ]
        refine hold_read (i := 8) (v := ?_) rfl (by kernel_rfl) (by kernel_rfl) (by kernel_rfl) (fun _ _ _ h => h) rfl ?_ ?_
        rotate_left
        · intro w' hN
          go_simp
          try with_reducible rfl
        simp only [Act.put, List.getElem_toArray, List.getElem_cons_succ, List.getElem_cons_zero, List.setIfInBounds_toArray, List.set_cons_zero, List.set_cons_succ]
        refine hold_read (i := 11) (v := ?_) rfl (by kernel_rfl) (by kernel_rfl) (by kernel_rfl) (fun _ _ _ h => h) rfl ?_ ?_
        rotate_left
        · intro w' hN
          go_simp
          try with_reducible rfl
        simp only [Act.put, List.getElem_toArray, List.getElem_cons_succ, List.getElem_cons_zero, List.setIfInBounds_toArray, List.set_cons_zero, List.set_cons_succ]
        refine hold_step (i := 9) (by kernel_rfl) rfl rfl (fun K hK => ?_)
        go_simp
        (with_reducible refine (HCc.out _ n0).mono ?_)
        rintro e w12 ⟨⟨A12, c12, rfl, v12⟩, k12⟩
        go_wp2_with fail
        refine hK.out _ _ k12 ?_
        clear hK K
        try simp only [Act.put, List.getElem_toArray, List.getElem_cons_succ, List.getElem_cons_zero, List.setIfInBounds_toArray, List.set_cons_zero, List.set_cons_succ]
        replace n0 := Keep.new n0 k12
        replace q0 := fun W (hW : New w12 W) => q0 W (Keep.new k12 hW)
        replace q1 := fun W (hW : New w12 W) => q1 W (Keep.new k12 hW)
        replace q2 := fun W (hW : New w12 W) => q2 W (Keep.new k12 hW)
        replace q3 := fun W (hW : New w12 W) => q3 W (Keep.new k12 hW)
        replace q4 := fun W (hW : New w12 W) => q4 W (Keep.new k12 hW)
        replace q5 := fun W (hW : New w12 W) => q5 W (Keep.new k12 hW)
        replace r0 := fun W (hW : New w12 W) => r0 W (Keep.new k12 hW)
        replace r1 := fun W (hW : New w12 W) => r1 W (Keep.new k12 hW)
        replace r2 := fun W (hW : New w12 W) => r2 W (Keep.new k12 hW)
        replace r3 := fun W (hW : New w12 W) => r3 W (Keep.new k12 hW)
        replace r4 := fun W (hW : New w12 W) => r4 W (Keep.new k12 hW)
        replace r5 := fun W (hW : New w12 W) => r5 W (Keep.new k12 hW)
        replace v10 := fun W (hW : New w12 W) => v10 W (Keep.new k12 hW)
        replace v11 := fun W (hW : New w12 W) => v11 W (Keep.new k12 hW)
        refine hold_read (i := 10) (v := ?_) rfl (by kernel_rfl) (by kernel_rfl) (by kernel_rfl) (fun _ _ _ h => h) rfl ?_ ?_
        rotate_left
        · intro w' hN
          go_simp
          try with_reducible rfl
        simp only [Act.put, List.getElem_toArray, List.getElem_cons_succ, List.getElem_cons_zero, List.setIfInBounds_toArray, List.set_cons_zero, List.set_cons_succ]
        refine hold_step (i := 12) (by kernel_rfl) rfl rfl (fun K hK => ?_)
        go_simp
        (with_reducible refine (HCa.out _ n0).mono ?_)
        rintro e w13 ⟨⟨A13, c13, rfl, v13⟩, k13⟩
        go_wp2_with fail
        refine hK.out _ _ k13 ?_
        clear hK K
        try simp only [Act.put, List.getElem_toArray, List.getElem_cons_succ, List.getElem_cons_zero, List.setIfInBounds_toArray, List.set_cons_zero, List.set_cons_succ]
        replace n0 := Keep.new n0 k13
        replace q0 := fun W (hW : New w13 W) => q0 W (Keep.new k13 hW)
        replace q1 := fun W (hW : New w13 W) => q1 W (Keep.new k13 hW)
        replace q2 := fun W (hW : New w13 W) => q2 W (Keep.new k13 hW)
        replace q3 := fun W (hW : New w13 W) => q3 W (Keep.new k13 hW)
        replace q4 := fun W (hW : New w13 W) => q4 W (Keep.new k13 hW)
        replace q5 := fun W (hW : New w13 W) => q5 W (Keep.new k13 hW)
        replace r0 := fun W (hW : New w13 W) => r0 W (Keep.new k13 hW)
        replace r1 := fun W (hW : New w13 W) => r1 W (Keep.new k13 hW)
        replace r2 := fun W (hW : New w13 W) => r2 W (Keep.new k13 hW)
        replace r3 := fun W (hW : New w13 W) => r3 W (Keep.new k13 hW)
        replace r4 := fun W (hW : New w13 W) => r4 W (Keep.new k13 hW)
        replace r5 := fun W (hW : New w13 W) => r5 W (Keep.new k13 hW)
        replace v10 := fun W (hW : New w13 W) => v10 W (Keep.new k13 hW)
        replace v11 := fun W (hW : New w13 W) => v11 W (Keep.new k13 hW)
        replace v12 := fun W (hW : New w13 W) => v12 W (Keep.new k13 hW)
        refine hold_read (i := 13) (v := ?_) rfl (by kernel_rfl) (by kernel_rfl) (by kernel_rfl) (fun _ _ _ h => h) rfl ?_ ?_
        rotate_left
        · intro w' hN
          go_simp
          try with_reducible rfl
        simp only [Act.put, List.getElem_toArray, List.getElem_cons_succ, List.getElem_cons_zero, List.setIfInBounds_toArray, List.set_cons_zero, List.set_cons_succ]
        refine hold_read (i := 14) (v := ?_) rfl (by kernel_rfl) (by kernel_rfl) (by kernel_rfl) (fun _ _ _ h => h) rfl ?_ ?_
        rotate_left
        · intro w' hN
          go_simp
          try with_reducible rfl
        simp only [Act.put, List.getElem_toArray, List.getElem_cons_succ, List.getElem_cons_zero, List.setIfInBounds_toArray, List.set_cons_zero, List.set_cons_succ]
        refine hold_read (i := 15) (v := ?_) rfl (by kernel_rfl) (by kernel_rfl) (by kernel_rfl) (fun _ _ _ h => h) rfl ?_ ?_
        rotate_left
        · intro w' hN
          go_simp
          try with_reducible rfl
        simp only [Act.put, List.getElem_toArray, List.getElem_cons_succ, List.getElem_cons_zero, List.setIfInBounds_toArray, List.set_cons_zero, List.set_cons_succ]
        refine hold_read (i := 16) (v := ?_) rfl (by kernel_rfl) (by kernel_rfl) (by kernel_rfl) (fun _ _ _ h => h) rfl ?_ ?_
        rotate_left
        · intro w' hN
          go_simp
          try with_reducible rfl
        simp only [Act.put, List.getElem_toArray, List.getElem_cons_succ, List.getElem_cons_zero, List.setIfInBounds_toArray, List.set_cons_zero, List.set_cons_succ]
        refine hold_read (i := 17) (v := ?_) rfl (by kernel_rfl) (by kernel_rfl) (by kernel_rfl) (fun _ _ _ h => h) rfl ?_ ?_
        rotate_left
        · intro w' hN
          go_simp
          try with_reducible rfl
        simp only [Act.put, List.getElem_toArray, List.getElem_cons_succ, List.getElem_cons_zero, List.setIfInBounds_toArray, List.set_cons_zero, List.set_cons_succ]
        refine hold_step (i := 18) (by kernel_rfl) rfl rfl (fun K hK => ?_)
        go_simp
        (with_reducible refine (HCa.out _ n0).mono ?_)
        rintro e w14 ⟨⟨A14, c14, rfl, v14⟩, k14⟩
        go_wp2_with fail
        refine hK.out _ _ k14 ?_
        clear hK K
        try simp only [Act.put, List.getElem_toArray, List.getElem_cons_succ, List.getElem_cons_zero, List.setIfInBounds_toArray, List.set_cons_zero, List.set_cons_succ]
        replace n0 := Keep.new n0 k14
        replace q0 := fun W (hW : New w14 W) => q0 W (Keep.new k14 hW)
        replace q1 := fun W (hW : New w14 W) => q1 W (Keep.new k14 hW)
        replace q2 := fun W (hW : New w14 W) => q2 W (Keep.new k14 hW)
        replace q3 := fun W (hW : New w14 W) => q3 W (Keep.new k14 hW)
        replace q4 := fun W (hW : New w14 W) => q4 W (Keep.new k14 hW)
        replace q5 := fun W (hW : New w14 W) => q5 W (Keep.new k14 hW)
        replace r0 := fun W (hW : New w14 W) => r0 W (Keep.new k14 hW)
        replace r1 := fun W (hW : New w14 W) => r1 W (Keep.new k14 hW)
        replace r2 := fun W (hW : New w14 W) => r2 W (Keep.new k14 hW)
        replace r3 := fun W (hW : New w14 W) => r3 W (Keep.new k14 hW)
        replace r4 := fun W (hW : New w14 W) => r4 W (Keep.new k14 hW)
        replace r5 := fun W (hW : New w14 W) => r5 W (Keep.new k14 hW)
        replace v10 := fun W (hW : New w14 W) => v10 W (Keep.new k14 hW)
        replace v11 := fun W (hW : New w14 W) => v11 W (Keep.new k14 hW)
        replace v12 := fun W (hW : New w14 W) => v12 W (Keep.new k14 hW)
        replace v13 := fun W (hW : New w14 W) => v13 W (Keep.new k14 hW)
        refine hold_read (i := 19) (v := ?_) rfl (by kernel_rfl) (by kernel_rfl) (by kernel_rfl) (fun _ _ _ h => h) rfl ?_ ?_
        rotate_left
        · intro w' hN
          go_simp
          try with_reducible rfl
        simp only [Act.put, List.getElem_toArray, List.getElem_cons_succ, List.getElem_cons_zero, List.setIfInBounds_toArray, List.set_cons_zero, List.set_cons_succ]
        refine hold_read (i := 20) (v := ?_) rfl (by kernel_rfl) (by kernel_rfl) (by kernel_rfl) (fun _ _ _ h => h) rfl ?_ ?_
        rotate_left
        · intro w' hN
          go_simp
          try with_reducible rfl
        simp only [Act.put, List.getElem_toArray, List.getElem_cons_succ, List.getElem_cons_zero, List.setIfInBounds_toArray, List.set_cons_zero, List.set_cons_succ]
        refine hold_read (i := 21) (v := ?_) rfl (by kernel_rfl) (by kernel_rfl) (by kernel_rfl) (fun _ _ _ h => h) rfl ?_ ?_
        rotate_left
        · intro w' hN
          go_simp
          try with_reducible rfl
        simp only [Act.put, List.getElem_toArray, List.getElem_cons_succ, List.getElem_cons_zero, List.setIfInBounds_toArray, List.set_cons_zero, List.set_cons_succ]
        refine hold_read (i := 22) (v := ?_) rfl (by kernel_rfl) (by kernel_rfl) (by kernel_rfl) (fun _ _ _ h => h) rfl ?_ ?_
        rotate_left
        · intro w' hN
          go_simp
          try with_reducible rfl
        simp only [Act.put, List.getElem_toArray, List.getElem_cons_succ, List.getElem_cons_zero, List.setIfInBounds_toArray, List.set_cons_zero, List.set_cons_succ]
        refine hold_step (i := 23) (by kernel_rfl) rfl rfl (fun K hK => ?_)
        go_simp
        refine (known17_any _).mono ?_
        rintro e w15 ⟨rfl, k15⟩
        go_wp2_with fail
        refine hK.out _ _ k15 ?_
        clear hK K
        try simp only [Act.put, List.getElem_toArray, List.getElem_cons_succ, List.getElem_cons_zero, List.setIfInBounds_toArray, List.set_cons_zero, List.set_cons_succ]
        replace n0 := Keep.new n0 k15
        replace q0 := fun W (hW : New w15 W) => q0 W (Keep.new k15 hW)
        replace q1 := fun W (hW : New w15 W) => q1 W (Keep.new k15 hW)
        replace q2 := fun W (hW : New w15 W) => q2 W (Keep.new k15 hW)
        replace q3 := fun W (hW : New w15 W) => q3 W (Keep.new k15 hW)
        replace q4 := fun W (hW : New w15 W) => q4 W (Keep.new k15 hW)
        replace q5 := fun W (hW : New w15 W) => q5 W (Keep.new k15 hW)
        replace r0 := fun W (hW : New w15 W) => r0 W (Keep.new k15 hW)
        replace r1 := fun W (hW : New w15 W) => r1 W (Keep.new k15 hW)
        replace r2 := fun W (hW : New w15 W) => r2 W (Keep.new k15 hW)
        replace r3 := fun W (hW : New w15 W) => r3 W (Keep.new k15 hW)
        replace r4 := fun W (hW : New w15 W) => r4 W (Keep.new k15 hW)
        replace r5 := fun W (hW : New w15 W) => r5 W (Keep.new k15 hW)
        replace v10 := fun W (hW : New w15 W) => v10 W (Keep.new k15 hW)
        replace v11 := fun W (hW : New w15 W) => v11 W (Keep.new k15 hW)
        replace v12 := fun W (hW : New w15 W) => v12 W (Keep.new k15 hW)
        replace v13 := fun W (hW : New w15 W) => v13 W (Keep.new k15 hW)
        replace v14 := fun W (hW : New w15 W) => v14 W (Keep.new k15 hW)
        refine hold_read (i := 24) (v := ?_) rfl (by kernel_rfl) (by kernel_rfl) (by kernel_rfl) (fun _ _ _ h => h) rfl ?_ ?_
        rotate_left
        · intro w' hN
          go_simp
          try with_reducible rfl
        simp only [Act.put, List.getElem_toArray, List.getElem_cons_succ, List.getElem_cons_zero, List.setIfInBounds_toArray, List.set_cons_zero, List.set_cons_succ]
        refine hold_read (i := 25) (v := ?_) rfl (by kernel_rfl) (by kernel_rfl) (by kernel_rfl) (fun _ _ _ h => h) rfl ?_ ?_
        rotate_left
        · intro w' hN
          go_simp
          try with_reducible rfl
        simp only [Act.put, List.getElem_toArray, List.getElem_cons_succ, List.getElem_cons_zero, List.setIfInBounds_toArray, List.set_cons_zero, List.set_cons_succ]
        refine wpAnyH_done (by kernel_rfl) ?_ _
        go_wp2_with fail
        go_ret
        exact ⟨rfl, hN07.new n0⟩
end Go.Proofs.Ytpbbfbgmpidgnaa
