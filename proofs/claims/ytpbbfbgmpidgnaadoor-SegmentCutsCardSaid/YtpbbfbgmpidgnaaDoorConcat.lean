/-
  PROVED HERE: what slices.Concat answers at rows of bytes; condition: fewer than 2^40 bytes in all.
-/
import Derived.Test.YtpbbfbgmpidgnaaDoorLeaves
import Derived.Lib.AppendZerosOnto
import Derived.Lib.SliceRun
namespace Go.Proofs.YtpbbfbgmpidgnaaDoor
open Go.RowKit

theorem wpList_append_run {P : Program} {ops : Array Oper} {rest : List Oper} {o : Oper} {a : Act} {Q : Exit → Act → World → Prop} {w : World} (hgd : o.guard = none) (s x : Operand) (t1 t2 : TypeId)
    (ho : o.op = .call { callee := .builtin .append, args := #[s, x], argTypes := #[t1, t2] }) (v : Value) (w' : World) (vs vx : Value) (hs : a.eval s = vs) (hx : a.eval x = vx)
    (hrun : (Builtin.append_ #[t1, t2] o.type #[vs, vx]).run P w = .ok v w') (h : wpList P ops Q rest (a.put o.dst v) w') : wpList P ops Q (o :: rest) a w :=
  wpList_plain hgd fun _ hK => by
    unfold Oper.wp execOp
    simp only [ho, resolve, invoke, builtin, Sem.run_bind, Sem.run_pure, Result.andThen_ok, List.map_toArray, List.map_cons, List.map_nil, hs, hx, hrun]
    exact hK _ _ h
theorem grow_nil (n : Nat) (w : World) (hn : n ≤ 1099511627776) :
    Calls Tryd.prog 67 #[.slice none 0 0, .int .i64 n] w fun e w' => (∃ A' c', e = .returned (.slice A' 0 c') ∧ OwnB w' w.heap.size 5 A' 0 c' []) ∧ New w w' := by
  by_cases h0 : n = 0
  · subst h0
    rw [show ((0 : Nat) : Int) = 0 from rfl]
    go_enter Tryd.func67, Tryd.ntmps67
    go_wp2_with fail
    go_ret
    exact ⟨⟨none, 0, rfl, Own.nil _ _ _ _⟩, New.refl _⟩
  · obtain ⟨i, hi, hz0, hz1, hz2⟩ := info_parts info_u8
    have hpos : 0 < n := by omega
    have hold : (Builtin.firstCells i.size 0 (.slice none 0 0)).run Tryd.prog w.drew = .ok ([] : List Value).toArray w.drew := by
      simp [Builtin.firstCells]
    have hcapfit : Builtin.nextslicecap (0 + n) 0 * i.bytes ≤ 281474976710656 := by
      rw [hz2]; unfold Builtin.nextslicecap; rw [if_pos (by omega)]; omega
    have hrz := fun ty => Lib.run_append_grow_zeros w 24 3 ty 5 i (.int .u8 0) .i64 .i64 Tryd.underlying24 Tryd.underlying3 hi hz0 none 0 0 [] hold n hpos (by omega) (by omega) (by omega) (by rw [hz2]; omega) hcapfit
    have hge := Go.grownCap_ge w (0 + n) 0 5
    have hle := Go.grownCap_le_maxLen w (0 + n) 0 5 (by unfold maxLen; omega)
    simp only [Nat.zero_add] at hrz hge hle
    have hcells : (([] : List Value).toArray ++ Builtin.zeroCells (Value.int .u8 0).cells n ++ Builtin.zeroCells (Value.int .u8 0).cells (grownCap w n 0 5 - n)).size = grownCap w n 0 5 * 1 := by
      simp [Builtin.zeroCells, Value.cells]
      omega
    generalize (([] : List Value).toArray ++ Builtin.zeroCells (Value.int .u8 0).cells n ++ Builtin.zeroCells (Value.int .u8 0).cells (grownCap w n 0 5 - n)) = cs at *
    generalize grownCap w n 0 5 = G at *
    have hposi : 0 < (n : Int) := by omega
    have HC := Lib.hid hcells
    have HZ := Lib.hid hrz
    clear hrz
    unfold maxLen at hle
    clear hcells hcapfit hold hz0 hz1 hz2 hi h0
    go_enter Tryd.func67, Tryd.ntmps67
    go_wp2_with (at_builtin; refine wpList_append_run rfl (.tmp 20) (.tmp 21) _ _ rfl _ _ _ _ rfl rfl (HZ.out _) ?_)
    go_ret
    refine ⟨⟨_, _, rfl, ?_⟩, (New.refl w).drew.alloc _⟩
    exact ⟨rfl, .inr ⟨w.heap.size, G, cs, rfl, Nat.le_refl _, heap_alloc_new w.drew _, Nat.zero_le _, by unfold maxLen; omega, HC.out, rfl⟩⟩
set_option maxRecDepth 100000 in
set_option maxHeartbeats 1000000 in
theorem concat_any (D : Nat → Prop) (A : Option Addr) (n c : Nat) (ls : List (List UInt8)) (w : World) (hB : Bss w D A n ls) (hn : ls.flatten.length ≤ 1099511627776) (hm : n ≤ 9223372036854775807) :
    Calls Tryd.prog 31 #[.slice A n c] w fun e w' => (∃ A' c', e = .returned (.slice A' ls.flatten.length c') ∧ OwnB w' w.heap.size 5 A' ls.flatten.length c' ls.flatten) ∧ New w w' := by
  have hl := hB.len
  have HB := Lib.hid hB
  clear hB
  go_enter Tryd.func31, Tryd.ntmps31
  go_wp2_with fail
  go_loop [3, 11] (fun s3 i => ∃ k m : Nat, k ≤ n ∧ m ≤ 1099511627776 ∧ i = .int .i64 (k : Int) ∧ s3 = .int .i64 (m : Int) ∧ m = (ls.take k).flatten.length) (fun _ i => n - (intOf i).toNat)
  case atStart => exact ⟨0, 0, Nat.zero_le _, Nat.zero_le _, rfl, rfl, by simp⟩
  case round =>
    obtain ⟨k, m, hk, hm', rfl, rfl, hme⟩ := hrel
    have HM := Lib.hid hme
    clear hme
    by_cases hlt : k < n
    · obtain ⟨b, off, A', c', rfl, hc, hcap, hb⟩ := HB.out.at_ (k := k) (by omega)
      have hfl := flatten_take_le ls k (by omega)
      rw [← HM.out] at hfl
      have hft := Lib.hid (flatten_take ls k (by omega))
      generalize ls[k]'_ = x at *
      have hneg : ¬ ((m : Int) + x.length < 0) := by omega
      have hxl : x.length ≤ 1099511627776 := by omega
      clear hb
      go_wp2_with fail
      go_round
      case rel => exact ⟨k + 1, m + x.length, by omega, by omega, by go_num, by go_num, by rw [hft.out, List.length_append, ← HM.out]⟩
      case measure => simp [intOf]; omega
    · obtain rfl : k = n := by omega
      rw [List.take_of_length_le (by omega)] at HM
      go_wp2_with fail
      refine (grow_nil m w hm').mono ?_
      rintro e w1 ⟨⟨A1, c1, rfl, hown⟩, hK⟩
      go_wp2_with fail
      go_loopw [6, 27] (fun s6 i wx => ∃ (j mm : Nat) (A' : Option Addr) (c' : Nat), j ≤ k ∧ i = .int .i64 (j : Int) ∧ s6 = .slice A' mm c' ∧ mm = (ls.take j).flatten.length ∧ OwnB wx w.heap.size 5 A' mm c' (ls.take j).flatten ∧ New w wx) (fun _ i _ => k - (intOf i).toNat)
      case atStart => exact ⟨0, 0, A1, c1, Nat.zero_le _, rfl, rfl, by simp, hown, hK⟩
      case round =>
        clear hown hK
        obtain ⟨j, mm, A2, c2, hj, rfl, rfl, hmm, hown, hK⟩ := hrel
        have HMM := Lib.hid hmm
        clear hmm
        by_cases hlt : j < k
        · obtain ⟨b, off, A', c', rfl, hc, hcap, hb⟩ := (HB.out.new hK).at_ (k := j) (by omega)
          have hfl := flatten_take_le ls j (by omega)
          rw [← HMM.out] at hfl
          have hft := Lib.hid (flatten_take ls j (by omega))
          generalize ls[j]'_ = x at *
          have hbd : mm + x.length ≤ 140737488355328 := by omega
          have hsz := hK.size
          go_wp2_with (at_builtin; refine app_bytes _ rfl (.tmp 31) (.tmp 32) rfl w.heap.size A2 mm c2 _ rfl hown D A' x.length c' x rfl hb hbd hsz ?_; intro A3 c3 w3 hown3 hg3 hbk3)
          have hK3 := new_app0 hK hown hg3
          clear hg3 hbk3 hown hK hb hc
          go_roundw
          case rel => exact ⟨j + 1, _, _, _, by omega, by go_num, rfl, by rw [hft.out, List.length_append, ← HMM.out], by rw [hft.out]; exact hown3, hK3⟩
          case measure => simp [intOf]; omega
        · obtain rfl : j = k := by omega
          rw [List.take_of_length_le (by omega)] at HMM hown
          go_wp2_with fail
          go_ret
          have hmm2 := HMM.out
          exact ⟨⟨A2, c2, by rw [← hmm2]; rfl, by rw [← hmm2]; exact hown⟩, hK⟩
end Go.Proofs.YtpbbfbgmpidgnaaDoor
