/-
  PROVED HERE: what segment.Leaves and slices.Concat answer; conditions: lengths that a slice may have.
-/
import Derived.Test.YtpbbfbgmpidgnaaDoorRecs
import Derived.Lib.AppendZerosOnto
namespace Go.Proofs.YtpbbfbgmpidgnaaDoor
open Go.RowKit

/-! ### rows of rows of bytes that the call made -/
theorem info_bytes : (Tryd.prog.info? 24).map (fun i => (i.zero, i.size, i.bytes)) = some (some (.slice none 0 0), 1, 24) := by kernel_rfl
theorem app_rows {ops : Array Oper} {rest : List Oper} {o : Oper} {a : Act} {Q : Exit → Act → World → Prop} (w : World) (hgd : o.guard = none) (s x : Operand)
    (ho : o.op = .call { callee := .builtin .append, args := #[s, x], argTypes := #[46, 46] })
    (base : Nat) (A : Option Addr) (n c : Nat) (xs : List Value) (hs : a.eval s = .slice A n c) (hown : Own w base 24 1 A n c xs)
    (D : Nat → Prop) (A2 : Option Addr) (m c2 : Nat) (news : List Value) (hx : a.eval x = .slice A2 m c2) (hr : Row w D A2 m 1 news) (h1 : ∀ u ∈ news, u.oneCell' = true)
    (h63 : n + m ≤ 1099511627776) (hbase : base ≤ w.heap.size)
    (h : ∀ A' c' w', Own w' base 24 1 A' (n + m) c' (xs ++ news) → w.grownBy w' (blk A) → (blk A' = blk A ∨ blk A' = some w.heap.size) → wpList Tryd.prog ops Q rest (a.put o.dst (.slice A' (n + m) c')) w') : wpList Tryd.prog ops Q (o :: rest) a w := by
  obtain ⟨i, hi, hz0, hz1, hz2⟩ := info_parts info_bytes
  exact wpList_append_row w hgd s x 46 ho base 24 i (.slice none 0 0) 1 24 Tryd.underlying46 hi hz0 hz1 hz2 rfl (by decide) A n c xs hs hown D A2 m c2 news hx hr h1 (by unfold maxLen; omega) (by omega) hbase h
/-- rows of bytes, the outer row of the call's own; the rows within lie in blocks that meet D, none in the outer one's. -/
def OwnBss (w : World) (base : Nat) (D : Nat → Prop) (A : Option Addr) (n c : Nat) (ls : List (List UInt8)) : Prop :=
  ∃ vs : List Value, Own w base 24 1 A n c vs ∧ ls.length = n ∧ ∀ k (h : k < ls.length), ∃ A' c', vs[k]? = some (.slice A' ls[k].length c') ∧ ls[k].length ≤ c' ∧ Bs w (fun b => D b ∧ some b ≠ blk A) A' ls[k].length ls[k]
section
variable {w w' : World} {base base' : Nat} {D E : Nat → Prop} {A : Option Addr} {n c : Nat} {ls : List (List UInt8)}
theorem OwnBss.bss (h : OwnBss w base D A n c ls) : Bss w (fun b => base ≤ b ∨ D b) A n ls := by
  obtain ⟨vs, h1, h2, h3⟩ := h
  refine ⟨vs, (Row.of_own h1).imp (fun _ _ h => .inl h), h2, fun k hk => ?_⟩
  obtain ⟨A', c', e, hc, hb⟩ := h3 k hk
  exact ⟨A', c', e, hc, hb.imp fun _ _ h => .inr h.1⟩
theorem OwnBss.nil (w : World) (base : Nat) (D : Nat → Prop) : OwnBss w base D none 0 0 [] := ⟨[], Own.nil _ _ _ _, rfl, fun k hk => absurd hk (by simp)⟩
theorem OwnBss.new (h : OwnBss w base D A n c ls) (hk : New w w') : OwnBss w' base D A n c ls := by
  obtain ⟨vs, h1, h2, h3⟩ := h
  refine ⟨vs, own_keep h1 hk (fun _ _ => trivial), h2, fun k hk' => ?_⟩
  obtain ⟨A', c', e, hc, hb⟩ := h3 k hk'
  exact ⟨A', c', e, hc, hb.new hk⟩
theorem OwnBss.rebase (h : OwnBss w base' D A n c ls) (hb : base ≤ base') : OwnBss w base D A n c ls := by
  obtain ⟨vs, h1, h2, h3⟩ := h
  exact ⟨vs, own_base h1 hb, h2, h3⟩
theorem OwnBss.imp (h : OwnBss w base D A n c ls) (hE : ∀ b, b < w.heap.size → D b → E b) : OwnBss w base E A n c ls := by
  obtain ⟨vs, h1, h2, h3⟩ := h
  refine ⟨vs, h1, h2, fun k hk' => ?_⟩
  obtain ⟨A', c', e, hc, hb⟩ := h3 k hk'
  exact ⟨A', c', e, hc, hb.imp fun b hb h => ⟨hE b hb h.1, h.2⟩⟩
theorem OwnBss.len (h : OwnBss w base D A n c ls) : ls.length = n := by obtain ⟨_, _, h, _⟩ := h; exact h
theorem OwnBss.cap (h : OwnBss w base D A n c ls) : n ≤ c := by obtain ⟨_, h, _⟩ := h; exact own_cap h
theorem own_capMax {w : World} {base : Nat} {e : TypeId} {size n c : Nat} {A : Option Addr} {xs : List Value} (h : Own w base e size A n c xs) : c ≤ 9223372036854775807 := by
  rcases h.2 with ⟨hv, hn⟩ | ⟨g, cap, cur, hv, hb, hg, h1, h2, h3, h4⟩
  · injection hv with h5 h6 h7; omega
  · injection hv with h5 h6 h7; unfold maxLen at h2; omega
theorem OwnBss.capMax (h : OwnBss w base D A n c ls) : c ≤ 9223372036854775807 := by obtain ⟨_, h, _⟩ := h; exact own_capMax h
theorem OwnBss.lt (h : OwnBss w base D A n c ls) : ∀ k, blk A = some k → base ≤ k ∧ k < w.heap.size := by obtain ⟨_, h, _⟩ := h; exact own_lt h
end
/-- rows of different element types never share a block. -/
theorem own_u8_ne {w : World} {base base' : Nat} {A A' : Option Addr} {n c n' c' : Nat} {xs : List Value} {bs : List UInt8} (h : Own w base 24 1 A n c xs) (hb : OwnB w base' 5 A' n' c' bs) : Bs w (fun b => base' ≤ b ∧ some b ≠ blk A) A' n' bs := by
  have hr := Row.of_own hb
  refine ⟨hr.1, fun hn => ?_⟩
  obtain ⟨b, off, rfl, hd, hlt, hc⟩ := hr.2 hn
  refine ⟨b, off, rfl, ⟨hd, fun e => ?_⟩, hlt, hc⟩
  rcases hb.2 with ⟨hv, _⟩ | ⟨g, cap, cur, hv, _, hg, _⟩
  · cases hv
  · injection hv with hA; injection hA with hA; injection hA with hA; subst hA
    rcases h.2 with ⟨hv2, _⟩ | ⟨g2, cap2, cur2, hv2, _, hg2, _⟩
    · injection hv2 with hA; subst hA; cases e
    · injection hv2 with hA; subst hA
      have : b = g2 := by injection e
      subst this
      rw [hg] at hg2
      injection hg2 with hg2
      injection hg2 with _ ht
      exact absurd ht (by decide)
theorem OwnBss.apart {w : World} {base base' : Nat} {D : Nat → Prop} {A A' : Option Addr} {n c n' c' : Nat} {ls : List (List UInt8)} {bs : List UInt8} (h : OwnBss w base D A n c ls) (hb : OwnB w base' 5 A' n' c' bs) : Bs w (fun b => base' ≤ b ∧ some b ≠ blk A) A' n' bs := by
  obtain ⟨_, h, _⟩ := h; exact own_u8_ne h hb
theorem row_one (w : World) (t : TypeId) (v : Value) : Row (w.alloc (.cells #[v] t)) (fun b => w.heap.size ≤ b) (some ⟨w.heap.size, 0, none⟩) 1 1 [v] := Row.made w t #[v] 1 1 rfl
/-- one row more. -/
theorem app_bss {ops : Array Oper} {rest : List Oper} {o : Oper} {a : Act} {Q : Exit → Act → World → Prop} (w : World) (hgd : o.guard = none) (s x : Operand)
    (ho : o.op = .call { callee := .builtin .append, args := #[s, x], argTypes := #[46, 46] })
    (base : Nat) (D : Nat → Prop) (A : Option Addr) (n c : Nat) (ls : List (List UInt8)) (hs : a.eval s = .slice A n c) (hown : OwnBss w base D A n c ls)
    (D2 : Nat → Prop) (A2 : Option Addr) (c2 : Nat) (A' : Option Addr) (m c' : Nat) (y : List UInt8) (hx : a.eval x = .slice A2 1 c2) (hr : Row w D2 A2 1 1 [.slice A' m c']) (hy : Bs w (fun b => D b ∧ some b ≠ blk A) A' m y) (hmc : m ≤ c')
    (h63 : n + 1 ≤ 1099511627776) (hbase : base ≤ w.heap.size)
    (h : ∀ A3 c3 w3, OwnBss w3 base D A3 (n + 1) c3 (ls ++ [y]) → w.grownBy w3 (blk A) → (blk A3 = blk A ∨ blk A3 = some w.heap.size) → wpList Tryd.prog ops Q rest (a.put o.dst (.slice A3 (n + 1) c3)) w3) : wpList Tryd.prog ops Q (o :: rest) a w := by
  obtain ⟨vs, h1, h2, h3⟩ := hown
  refine app_rows w hgd s x ho base A n c vs hs h1 D2 A2 1 c2 [.slice A' m c'] hx hr (by intro u hu; simp at hu; subst hu; rfl) h63 hbase ?_
  intro A3 c3 w3 hown3 hg3 hbk3
  refine h A3 c3 w3 ⟨vs ++ [.slice A' m c'], hown3, by simp [h2], fun k hk => ?_⟩ hg3 hbk3
  have hvl : vs.length = n := by have := h1.1; simpa using this
  have hyl := hy.len
  have move : ∀ {A0 : Option Addr} {m0 : Nat} {z : List UInt8}, Bs w (fun b => D b ∧ some b ≠ blk A) A0 m0 z → Bs w3 (fun b => D b ∧ some b ≠ blk A3) A0 m0 z := fun {A0 m0 z} hb => by
    have hk3 : Keep (fun b => some b ≠ blk A) w w3 := (Keep.refl _ w).grown hg3 (fun k hk hd => absurd hk.symm hd)
    have hb3 : Bs w (fun b => (D b ∧ some b ≠ blk A) ∧ some b ≠ blk A3) A0 m0 z := hb.imp fun b hlt hd => ⟨hd, by
      rcases hbk3 with e | e
      · rw [e]; exact hd.2
      · rw [e]; intro e'; injection e'; omega⟩
    exact (Row.keep hb3 hk3 (fun b _ hd => hd.1.2)).imp fun b _ hd => ⟨hd.1.1, hd.2⟩
  by_cases hkn : k < ls.length
  · rw [List.getElem_append_left hkn]
    obtain ⟨A0, c0, e, hc, hb⟩ := h3 k hkn
    exact ⟨A0, c0, by rw [List.getElem?_append_left (by omega)]; exact e, hc, move hb⟩
  · have hk' : k = ls.length := by simp at hk; omega
    subst hk'
    rw [List.getElem_append_right (Nat.le_refl _)]
    simp only [Nat.sub_self, List.getElem_singleton]
    refine ⟨A', c', by rw [List.getElem?_append_right (by omega), show ls.length - vs.length = 0 from by omega, hyl]; rfl, by omega, ?_⟩
    have := move hy
    rwa [← hyl] at this
/-- the leaves. -/
def leavesOf (rs : List RecP) : List (List UInt8) := rs.map fun r => if recRight r = true then recEnc r else []
theorem leaves_take (rs : List RecP) (k : Nat) (hk : k < rs.length) : leavesOf (rs.take (k + 1)) = leavesOf (rs.take k) ++ [if recRight rs[k] = true then recEnc rs[k] else []] := by
  unfold leavesOf; rw [List.take_succ_eq_append_getElem hk, List.map_append]; rfl
theorem new_grown {w w1 w2 : World} {b : Option Nat} (h : New w w1) (hlt : ∀ k, b = some k → w.heap.size ≤ k ∧ k < w1.heap.size) {o : Obj} (hg : (w1.alloc o).grownBy w2 b) : New w w2 :=
  (h.alloc o).grown hg (fun k hk _ => (hlt k hk).1)
set_option maxRecDepth 100000 in
set_option maxHeartbeats 2000000 in
theorem leaves_any (D : Nat → Prop) (A : Option Addr) (n c : Nat) (rs : List RecP) (w : World) (hB : Recs w D A n rs) (hn : n ≤ 1099511620000) :
    Calls Tryd.prog 17 #[.slice A n c] w fun e w' => (∃ A' c', e = .returned (.slice A' n c') ∧ OwnBss w' w.heap.size (fun b => w.heap.size ≤ b) A' n c' (leavesOf rs)) ∧ New w w' := by
  have hl := hB.len
  have HB := Lib.hid hB
  clear hB
  go_enter Tryd.func17, Tryd.ntmps17
  go_wp2_with fail
  go_loopw [3, 10] (fun s3 i wx => ∃ (k : Nat) (A' : Option Addr) (c' : Nat), k ≤ n ∧ i = .int .i64 (k : Int) ∧ s3 = .slice A' k c' ∧ OwnBss wx w.heap.size (fun b => w.heap.size ≤ b) A' k c' (leavesOf (rs.take k)) ∧ New w wx) (fun _ i _ => n - (intOf i).toNat)
  case atStart => exact ⟨0, none, 0, Nat.zero_le _, rfl, rfl, OwnBss.nil _ _ _, New.refl _⟩
  case round =>
    obtain ⟨k, A1, c1, hk, rfl, rfl, hown, hK⟩ := hrel
    by_cases hlt : k < n
    · obtain ⟨b, off, A', c', rfl, h1, h2, h3, hc', hb, hs0, hs1, hc9⟩ := (HB.out.new hK).at_ (k := k) (by omega)
      have HLT := Lib.hid (leaves_take rs k (by omega))
      generalize rs[k]'_ = r at *
      have hK0 : New w (wr.alloc (.cells #[.int .i64 r.kind, .int .u64 r.seq, .slice A' r.body.length c'] 43)) := hK.alloc _
      have hN0 : New wr (wr.alloc (.cells #[.int .i64 r.kind, .int .u64 r.seq, .slice A' r.body.length c'] 43)) := (New.refl wr).alloc _
      by_cases hr : recRight r = true
      · have HE := Lib.hid (encode_yes D A' r.body.length c' r _ (hb.new hN0) hc' (by omega) hs0 hs1 hr)
        rw [if_pos hr] at HLT
        clear hb hc' hs0 hs1 hr
        go_wp2_with fail
        refine HE.out.mono ?_
        rintro e w1 ⟨⟨A2, c2, rfl, hown2⟩, hK1⟩
        have hN1 := hN0.new hK1
        have hown1 := hown.new hN1
        have hK01 := hK.new hN1
        have hge : w.heap.size ≤ (wr.alloc (.cells #[.int .i64 r.kind, .int .u64 r.seq, .slice A' r.body.length c'] 43)).heap.size := hK0.size
        have hy := (Row.imp (hown1.apart hown2) (E := fun b => w.heap.size ≤ b ∧ some b ≠ blk A1) (fun b _ h => ⟨Nat.le_trans hge h.1, h.2⟩)).alloc (.cells #[.slice A2 (recEnc r).length c2] 24)
        have hmc := own_cap hown2
        have hown1' := hown1.new ((New.refl w1).alloc (.cells #[.slice A2 (recEnc r).length c2] 24))
        have hrow := row_one w1 24 (.slice A2 (recEnc r).length c2)
        have hbd : k + 1 ≤ 1099511627776 := by omega
        have hsz : w.heap.size ≤ (w1.alloc (.cells #[.slice A2 (recEnc r).length c2] 24)).heap.size := (hK01.alloc _).size
        clear hown hK hN1 hN0 hK0 hK1 h1 h2 h3 HE hown2 hge
        go_wp2_with (at_builtin; refine app_bss _ rfl (.tmp 19) (.tmp 21) rfl w.heap.size (fun b => w.heap.size ≤ b) A1 k c1 _ rfl hown1' (fun g => w1.heap.size ≤ g) _ 1 A2 _ c2 _ rfl hrow hy hmc hbd hsz ?_; intro A3 c3 w3 hown3 hg3 hbk3)
        have hK3 := (hK01.alloc (.cells #[.slice A2 (recEnc r).length c2] 24)).grown hg3 (fun k hk _ => (hown1.lt k hk).1)
        clear hown1 hown1' hrow hy hmc hg3 hbk3 hK01 hsz
        go_roundw
        case rel => exact ⟨k + 1, _, _, by omega, by go_num, rfl, by rw [HLT.out]; exact hown3, hK3⟩
        case measure => simp [intOf]; omega
      · have hr' : recRight r = false := by simpa using hr
        have HE := Lib.hid (encode_no D A' r.body.length c' r _ (hb.new hN0) hc' (by omega) hs0 hs1 hr')
        rw [if_neg hr] at HLT
        clear hb hc' hs0 hs1 hr hr'
        go_wp2_with fail
        refine HE.out.mono ?_
        rintro e w1 ⟨rfl, hK1⟩
        have hN1 := hN0.new hK1
        have hown1 := hown.new hN1
        have hK01 := hK.new hN1
        have hy : Bs (w1.alloc (.cells #[.slice none 0 0] 24)) (fun b => w.heap.size ≤ b ∧ some b ≠ blk A1) none 0 [] := Row.nil _ _ _ _
        have hown1' := hown1.new ((New.refl w1).alloc (.cells #[.slice none 0 0] 24))
        have hrow := row_one w1 24 (.slice none 0 0)
        have hbd : k + 1 ≤ 1099511627776 := by omega
        have hsz : w.heap.size ≤ (w1.alloc (.cells #[.slice none 0 0] 24)).heap.size := (hK01.alloc _).size
        clear hown hK hN1 hN0 hK0 hK1 h1 h2 h3 HE
        go_wp2_with (at_builtin; refine app_bss _ rfl (.tmp 19) (.tmp 21) rfl w.heap.size (fun b => w.heap.size ≤ b) A1 k c1 _ rfl hown1' (fun g => w1.heap.size ≤ g) _ 1 none _ 0 _ rfl hrow hy (Nat.le_refl _) hbd hsz ?_; intro A3 c3 w3 hown3 hg3 hbk3)
        have hK3 := (hK01.alloc (.cells #[.slice none 0 0] 24)).grown hg3 (fun k hk _ => (hown1.lt k hk).1)
        clear hown1 hown1' hrow hy hg3 hbk3 hK01 hsz
        go_roundw
        case rel => exact ⟨k + 1, _, _, by omega, by go_num, rfl, by rw [HLT.out]; exact hown3, hK3⟩
        case measure => simp [intOf]; omega
    · obtain rfl : k = n := by omega
      rw [List.take_of_length_le (by omega)] at hown
      go_wp2_with fail
      go_ret
      exact ⟨⟨_, _, rfl, hown⟩, hK⟩
end Go.Proofs.YtpbbfbgmpidgnaaDoor
