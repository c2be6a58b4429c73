/-
  PROVED HERE: facts on the types of this translation, and the append law at []byte; no condition.
-/
import Derived.Test.YtpbbfbgmpidgnaaDoorChecked
import Derived.Test.YtpbbfbgmpidgnaaDoorMem
import Derived.WalkSpells
namespace Go.Proofs.YtpbbfbgmpidgnaaDoor
open Go.RowKit

theorem info_u8 : (Tryd.prog.info? 5).map (fun i => (i.zero, i.size, i.bytes)) = some (some (.int .u8 0), 1, 1) := by kernel_rfl
theorem app_bytes {ops : Array Oper} {rest : List Oper} {o : Oper} {a : Act} {Q : Exit → Act → World → Prop} (w : World) (hgd : o.guard = none) (s x : Operand)
    (ho : o.op = .call { callee := .builtin .append, args := #[s, x], argTypes := #[24, 24] })
    (base : Nat) (A : Option Addr) (n c : Nat) (bs : List UInt8) (hs : a.eval s = .slice A n c) (hown : OwnB w base 5 A n c bs)
    (D : Nat → Prop) (A2 : Option Addr) (m c2 : Nat) (bs2 : List UInt8) (hx : a.eval x = .slice A2 m c2) (hr : Bs w D A2 m bs2)
    (h63 : n + m ≤ 140737488355328) (hbase : base ≤ w.heap.size)
    (h : ∀ A' c' w', OwnB w' base 5 A' (n + m) c' (bs ++ bs2) → w.grownBy w' (blk A) → (blk A' = blk A ∨ blk A' = some w.heap.size) → wpList Tryd.prog ops Q rest (a.put o.dst (.slice A' (n + m) c')) w') : wpList Tryd.prog ops Q (o :: rest) a w := by
  obtain ⟨i, hi, hz0, hz1, hz2⟩ := info_parts info_u8
  refine wpList_append_row w hgd s x 24 ho base 5 i (.int .u8 0) 1 1 Tryd.underlying24 hi hz0 hz1 hz2 rfl (by decide) A n c _ hs hown D A2 m c2 _ hx hr (byteVal_one _) (by unfold maxLen; omega) (by omega) hbase ?_
  intro A' c' w' h1 h2 h3
  rw [← List.map_append] at h1
  exact h A' c' w' h1 h2 h3
theorem step_bytes {ops : Array Oper} {o : Oper} {a : Act} {K : Act → World → Prop} {Q : Exit → Act → World → Prop} {E : Prop} (w : World) (hgd : o.guard = none) (s x : Operand)
    (ho : o.op = .call { callee := .builtin .append, args := #[s, x], argTypes := #[24, 24] })
    (base : Nat) (A : Option Addr) (n c : Nat) (bs : List UInt8) (hs : a.eval s = .slice A n c) (hown : OwnB w base 5 A n c bs)
    (D : Nat → Prop) (A2 : Option Addr) (m c2 : Nat) (bs2 : List UInt8) (hx : a.eval x = .slice A2 m c2) (hr : Bs w D A2 m bs2)
    (h63 : n + m ≤ 140737488355328) (hbase : base ≤ w.heap.size)
    (h : ∀ A' c' w', OwnB w' base 5 A' (n + m) c' (bs ++ bs2) → w.grownBy w' (blk A) → (blk A' = blk A ∨ blk A' = some w.heap.size) → K (a.put o.dst (.slice A' (n + m) c')) w') :
    if Region.wanted o (yielded ops a.tmps) = true then Oper.wp Tryd.prog o a w K Q else E := by
  obtain ⟨i, hi, hz0, hz1, hz2⟩ := info_parts info_u8
  refine step_append_row w hgd s x 24 ho base 5 i (.int .u8 0) 1 1 Tryd.underlying24 hi hz0 hz1 hz2 rfl (by decide) A n c _ hs hown D A2 m c2 _ hx hr (byteVal_one _) (by unfold maxLen; omega) (by omega) hbase ?_
  intro A' c' w' h1 h2 h3
  rw [← List.map_append] at h1
  exact h A' c' w' h1 h2 h3
set_option maxRecDepth 100000 in
theorem clone_bytes (D : Nat → Prop) (A : Option Addr) (n c : Nat) (bs : List UInt8) (w : World) (hB : Bs w D A n bs) (hn : n ≤ 140737488355328) :
    Calls Tryd.prog 73 #[.slice A n c] w fun e w' => (∃ A' c', e = .returned (.slice A' n c') ∧ OwnB w' w.heap.size 5 A' n c' bs) ∧ New w w' := by
  have hq := fun w' => Lib.run_eql_slice_nil (P := Tryd.prog) w' 24 5 A n c 0 0 Tryd.underlying24
  rcases A with _ | ad
  · have h0 : n = 0 := by
      rcases Nat.eq_zero_or_pos n with h | h
      · exact h
      · obtain ⟨_, _, e, _⟩ := hB.2 h; cases e
    subst h0
    have hb : bs = [] := List.eq_nil_of_length_eq_zero hB.len
    subst hb
    go_enter Tryd.func73, Tryd.ntmps73
    go_wp2
    go_ret
    exact ⟨⟨_, _, rfl, Own.nil _ _ _ _⟩, New.refl _⟩
  · go_enter Tryd.func73, Tryd.ntmps73
    go_wp2_with (at_builtin; refine app_bytes _ rfl _ _ rfl w.heap.size _ _ _ [] rfl (World.ownsRow_made w #[] 0 (Nat.le_refl _) (by decide) rfl) D _ _ _ bs rfl (hB.alloc _) (by omega) (by simp) ?_; intro A' c' w' hown hg hbk)
    go_ret
    refine ⟨⟨A', c', rfl, by simpa using hown⟩, ((New.refl w).alloc _).grown hg ?_⟩
    intro k hk _
    simp [blk] at hk
    omega
end Go.Proofs.YtpbbfbgmpidgnaaDoor
