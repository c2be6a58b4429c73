/-
  PROVED HERE: what permafrostkeep.Cut and Sized answer; conditions: lengths that a slice may have.
-/
import Derived.Test.YtpbbfbgmpidgnaaDoorSha
namespace Go.Proofs.YtpbbfbgmpidgnaaDoor
open Go.RowKit

set_option maxRecDepth 100000 in
theorem cut_any (A : Option Addr) (n c m : Nat) (bs : List UInt8) (D : Nat → Prop) (w : World) (hB : Bs w D A n bs) (hn : n ≤ 9223372036854775807) (hnc : n ≤ c) (hm : m ≤ 9223372036854775807) :
    Calls Tryd.prog 19 #[.slice A n c, .int .i64 m] w fun e w' => e = .returned (.slice A (min n m) c) ∧ w = w' := by
  by_cases hlt : m < n
  · have e : min n m = m := by omega
    rw [e]
    clear e
    go_enter Tryd.func19, Tryd.ntmps19
    go_wp2
    go_ret
    exact ⟨rfl, rfl⟩
  · have e : min n m = n := by omega
    rw [e]
    clear e
    go_enter Tryd.func19, Tryd.ntmps19
    go_wp2
    go_ret
    exact ⟨rfl, rfl⟩
theorem Bs.cutMin {w : World} {D : Nat → Prop} {A : Option Addr} {n : Nat} {bs : List UInt8} (h : Bs w D A n bs) (m : Nat) : Bs w D A (min n m) (bs.take m) := by
  have := Bs.cutTo h (hi := min n m) (by omega)
  rwa [show bs.take (min n m) = bs.take m from by rw [← h.len, Nat.min_comm]; exact List.take_eq_take_min.symm] at this
def sized (bs : List UInt8) (m : Nat) : List UInt8 := bs.take m ++ List.replicate (m - bs.length) 0
set_option maxRecDepth 100000 in
set_option maxHeartbeats 1000000 in
theorem sized_any (A : Option Addr) (n c m : Nat) (bs : List UInt8) (D : Nat → Prop) (w : World) (hB : Bs w D A n bs) (hn : n ≤ 9223372036854775807) (hnc : n ≤ c) (hm : m ≤ 1099511627776) :
    Calls Tryd.prog 8 #[.slice A n c, .int .i64 m] w fun e w' => (∃ A' c', e = .returned (.slice A' m c') ∧ OwnB w' w.heap.size 5 A' m c' (sized bs m)) ∧ New w w' := by
  have hl := hB.len
  have hown0 : OwnB (w.alloc (.cells #[] 5)) w.heap.size 5 (some ⟨w.heap.size, 0, none⟩) 0 0 [] := World.ownsRow_made w #[] 0 (Nat.le_refl _) (by decide) rfl
  have hK0 : New w (w.alloc (.cells #[] 5)) := (New.refl w).alloc _
  have hcut := (Bs.cutMin hB m).alloc (.cells #[] 5)
  have hbd : 0 + min n m ≤ 140737488355328 := by omega
  have hmin : min n m ≤ m := Nat.min_le_right _ _
  have HS : Hid (min n m + (m - bs.length) = m) := Lib.hid (by omega)
  go_enter Tryd.func8, Tryd.ntmps8
  go_wp2_with fail
  refine (cut_any A n c m bs D _ (hB.alloc _) hn hnc (by omega)).mono ?_
  rintro e w' ⟨rfl, rfl⟩
  generalize min n m = mn at *
  go_wp2_with (at_builtin; refine app_bytes _ rfl (.tmp 6) (.tmp 9) rfl w.heap.size _ 0 0 [] rfl hown0 D A mn c _ rfl hcut hbd hK0.size ?_; intro A1 c1 w1 hown1 hg1 hbk1)
  have hK1 := new_app0 hK0 hown0 hg1
  rw [Nat.zero_add, List.nil_append] at hown1
  clear hown0 hK0 hg1 hbk1 hcut
  go_loopw [5] (fun s5 wx => ∃ (A : Option Addr) (c k mm : Nat), s5 = .slice A mm c ∧ mm = mn + k ∧ mm ≤ m ∧ OwnB wx w.heap.size 5 A mm c (bs.take m ++ List.replicate k 0) ∧ New w wx) (fun s5 _ => m - sliceLen s5)
  case atStart => exact ⟨_, _, 0, _, rfl, rfl, hmin, by simpa using hown1, hK1⟩
  case round =>
    clear hown1 hK1
    obtain ⟨A2, c2, k, mm, rfl, hmm, hle, hown, hK⟩ := hrel
    have HM := Lib.hid hmm
    clear hmm
    by_cases hlt : mm < m
    · have hb2 : mm + 1 ≤ 140737488355328 := by omega
      go_wp2_with (at_builtin; refine app_bytes _ rfl (.tmp 15) (.tmp 16) rfl w.heap.size A2 mm c2 _ rfl (hown.alloc _) (fun g => wr.heap.size ≤ g) _ 1 1 [0] rfl (bs_one wr 5 0 _ rfl) hb2 ((hK.alloc _).size) ?_; intro A3 c3 w3 hown3 hg3 hbk3)
      have hK3 := new_app hK hown hg3
      clear hg3 hbk3 hown hK
      go_roundw
      case rel => exact ⟨_, _, k + 1, _, rfl, by have := HM.out; omega, by omega, by rw [List.replicate_succ', ← List.append_assoc]; exact hown3, hK3⟩
      case measure => simp [sliceLen]; omega
    · obtain rfl : mm = m := by omega
      have hk : k = mm - bs.length := by have h1 := HM.out; have h2 := HS.out; omega
      have HK := Lib.hid hk
      clear hk
      go_wp2_with fail
      go_ret
      exact ⟨⟨_, _, rfl, by unfold sized; rw [← HK.out]; exact hown⟩, hK⟩
end Go.Proofs.YtpbbfbgmpidgnaaDoor
