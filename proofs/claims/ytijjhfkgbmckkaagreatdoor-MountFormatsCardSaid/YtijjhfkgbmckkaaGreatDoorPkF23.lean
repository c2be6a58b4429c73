/-
  PROVED HERE: what the reference's SHA-256 answers: the plain function 'shaSum'; conditions: fewer than 2^40 bytes.
-/
import Derived.Test.YtijjhfkgbmckkaaGreatDoorPkF21
import Derived.Test.YtijjhfkgbmckkaaGreatDoorPkF22
namespace Go.Proofs.YtijjhfkgbmckkaaGreatDoor
open Go.RowKit
set_option maxRecDepth 100000 in
set_option maxHeartbeats 4000000 in
theorem refsum_any (D : Nat → Prop) (A : Option Addr) (n c : Nat) (bs : List UInt8) (w : World) (hB : Bs w D A n bs) (hn : n ≤ 1099511627776) :
  Calls Tryz.prog 65 #[.slice A n c] w fun e w' => (∃ A' c', e = .returned (.slice A' 32 c') ∧ OwnB w' w.heap.size 5 A' 32 c' (shaSum bs)) ∧ New w w' := by
 have hln := hB.len
 have hown0 : OwnB (w.alloc (.cells #[] 5)) w.heap.size 5 (some ⟨w.heap.size, 0, none⟩) 0 0 [] := World.ownsRow_made w #[] 0 (Nat.le_refl _) (by decide) rfl
 have hK0 : New w (w.alloc (.cells #[] 5)) := (New.refl w).alloc _
 have hb0 : 0 + n ≤ 140737488355328 := by omega
 have hb1 : n + 1 ≤ 140737488355328 := by omega
 go_enter Tryz.func65, Tryz.ntmps65
 go_wp2_with (first
  | (at_builtin; refine app_bytes _ rfl (.tmp 22) (.tmp 23) rfl w.heap.size _ 0 0 [] rfl hown0 D A n c bs rfl (hB.alloc _) hb0 hK0.size ?_; intro A1 c1 w1 hown1 hg1 hbk1; rw [Nat.zero_add, List.nil_append] at hown1; have hK1 := new_app0 hK0 hown0 hg1)
  | (at_builtin; refine app_bytes _ rfl (.tmp 24) (.tmp 25) rfl w.heap.size A1 n c1 bs rfl (hown1.alloc _) (fun g => w1.heap.size ≤ g) _ 1 1 [128] rfl (bs_one w1 5 128 _ rfl) hb1 ((hK1.alloc _).size) ?_; intro A2 c2 w2 hown2 hg2 hbk2; have hK2 := new_app hK1 hown1 hg2))
 clear hown0 hK0 hown1 hK1 hg1 hg2 hbk1 hbk2
 go_loopw [3] (fun s3 wx => ∃ A m c k, s3 = .slice A m c ∧ k ≤ padNoughts n ∧ m = n + 1 + k ∧ OwnB wx w.heap.size 5 A m c (bs ++ [128] ++ List.replicate k 0) ∧ New w wx) (fun s3 _ => n + 200 - sliceLen s3)
 case atStart => exact ⟨_, _, _, 0, rfl, Nat.zero_le _, rfl, by simpa using hown2, hK2⟩
 case round =>
  clear hown2 hK2
  obtain ⟨A, m, c, k, rfl, hk, hm, hown, hK⟩ := hrel
  have hpad : padNoughts n < 64 := Nat.mod_lt _ (by decide)
  have hmb : m < n + 200 := by omega
  by_cases hlt : k < padNoughts n
  ·skip
   have ht : ((m : Int) % 64 != 56) = true := by have := noughts_lt hlt; rw [bne_iff_ne]; omega
   have HM := Lib.hid hm
   clear hm
   have hsz := hK.size
   have hbd : m + 1 ≤ 140737488355328 := by omega
   go_wp2_with (at_builtin; refine app_bytes _ rfl (.tmp 31) (.tmp 32) rfl w.heap.size A m c _ rfl (hown.alloc _) (fun g => wr.heap.size ≤ g) _ 1 1 [0] rfl (bs_one wr 5 0 _ rfl) hbd ((hK.alloc _).size) ?_; intro A3 c3 w3 hown3 hg3 hbk3)
   have hK3 := new_app hK hown hg3
   clear hg3 hbk3 hown hK
   go_roundw
   case rel => exact ⟨_, _, _, k + 1, rfl, by omega, by have := HM.out; omega, by rw [List.replicate_succ', ← List.append_assoc]; exact hown3, hK3⟩
   case measure => simp [sliceLen]; omega
  ·have hk' : k = padNoughts n := by omega
   have ht : ((m : Int) % 64 != 56) = false := by
    have := noughts_at n
    have e : m % 64 = 56 := by rw [hm, hk']; exact this
    simp; omega
   have HM := Lib.hid hm
   have HK := Lib.hid hk'
   clear hm hk'
   have hLp : padded bs = bs ++ [128] ++ List.replicate k 0 ++ be8 (n * 8) := by unfold padded; rw [HK.out, hln]
   generalize bs ++ [128] ++ List.replicate k 0 = L at hown hLp
   have HLP := Lib.hid hLp
   clear hLp
   go_wp2_with fail
   go_loopw [3, 5] (fun s3 i wx => ∃ (A : Option Addr) (c' j mm : Nat), s3 = .slice A mm c' ∧ j ≤ 8 ∧ i = .int .i64 (56 - 8 * (j : Int)) ∧ mm = m + j ∧ OwnB wx w.heap.size 5 A mm c' (L ++ (be8 (n * 8)).take j) ∧ New w wx) (fun _ i _ => (intOf i + 8).toNat)
   case atStart => exact ⟨_, _, 0, m, rfl, by omega, rfl, rfl, by simpa using hown, hK⟩
   case round =>
    clear hown hK
    obtain ⟨A', c', j, mm, rfl, hj, rfl, hmm, hown, hK⟩ := hrel
    by_cases hlt : j < 8
    ·skip
     have hb1 := bs_one wr 5 _ _ (be_byte (n * 8) (7 - j) ((n : Int) * 8) (by simp))
     rw [show 8 * (7 - j) = 56 - 8 * j from by omega] at hb1
     have hbd : mm + 1 ≤ 140737488355328 := by omega
     have hmb' : mm < n + 300 := by omega
     have HMM := Lib.hid hmm
     clear hmm
     go_wp2_with (at_builtin; refine app_bytes _ rfl (.tmp 42) (.tmp 48) rfl w.heap.size A' mm c' _ rfl (hown.alloc _) (fun g => wr.heap.size ≤ g) _ 1 1 _ rfl hb1 hbd ((hK.alloc _).size) ?_; intro A3 c3 w3 hown3 hg3 hbk3)
     have hK3 := new_app hK hown hg3
     clear hg3 hbk3 hown hK hb1
     go_roundw
     case rel =>
      have e : (56 : Int) - 8 * ((j + 1 : Nat) : Int) = 56 - 8 * (j : Int) - 8 := by omega
      exact ⟨_, _, j + 1, _, rfl, by omega, by rw [e], by have := HMM.out; omega, by rw [be8_take _ _ hlt, ← List.append_assoc]; exact hown3, hK3⟩
     case measure => simp [intOf]; omega
    ·obtain rfl : j = 8 := by omega
     rw [show (56 - 8 * ((8 : Nat) : Int)) = -8 from rfl]
     rw [List.take_of_length_le (by rw [be8_length]; exact Nat.le_refl _), ← HLP.out] at hown
     have hm64 : mm % 64 = 0 := by
      have h1 := HM.out; have h2 := HK.out; have h3 := noughts_at n
      unfold padNoughts at h2
      rw [← h2, ← h1] at h3
      omega
     have hmb' : mm < n + 300 := by omega
     clear hmm HLP HK HM ht hmb hpad hk
     go_wp2_with (first
      | (refine wpList_build_as rfl 212 _ rfl kArr (by kernel_rfl) ?_)
      | (refine wpList_build_as rfl 211 _ rfl hArr (by kernel_rfl) ?_)
      | (refine wpList_store_at rfl 212 _ _ rfl _ kArr _ rfl rfl ?hg64 (by kernel_rfl) (by kernel_rfl) (by kernel_rfl) ?_; (case hg64 => simp))
      | (refine wpList_store_at rfl 211 _ _ rfl _ hArr _ rfl rfl ?hg8 (by kernel_rfl) (by kernel_rfl) (by kernel_rfl) ?_; (case hg8 => simp)))
     generalize hW9 : World.alloc _ _ = W9
     have hst : W32s W9 wr.heap.size 0 8 (blocks hAt (padded bs) 0) := by
      rw [← hW9]; exact (W32s.vals wr _ hList hArr rfl (by decide) 8 rfl).keep ((New.refl _).alloc _) trivial
     have hks : W32s W9 (wr.heap.size + 1) 0 64 kAt := by
      rw [← hW9]
      have := W32s.vals (wr.alloc (.cells hArr 211)) 212 kList kArr rfl (by decide) 64 rfl
      rwa [show (wr.alloc (.cells hArr 211)).heap.size = wr.heap.size + 1 from by simp] at this
     have hK9 : New w W9 := by rw [← hW9]; exact (hK.alloc _).alloc _
     have hB9 : Bs W9 (fun b => b ≠ wr.heap.size) A' mm (padded bs) := by
      rw [← hW9]; exact ((Row.of_own hown).imp (E := fun b => b ≠ wr.heap.size) (fun b hb _ => Nat.ne_of_lt hb)).new (((New.refl wr).alloc _).alloc _)
     have hge : w.heap.size ≤ wr.heap.size := hK.size
     have hgt : wr.heap.size < W9.heap.size := by rw [← hW9]; simp; omega
     clear hW9 hown hK
     generalize wr.heap.size = h6 at *
     have hmm9 : mm < 1099511629000 := by omega
     have hsl : mm / 64 = (padded bs).length / 64 := by rw [hB9.len]
     refine refL3 hB9 hm64 hmm9 hst hks (by omega) ?_
     iterate 200 (intro _)
     intro w5 hK5 hst5
     rw [hsl] at hst5
     have hN5 : New w w5 := (Keep.trans2 (D := fun b => b < w.heap.size) (Keep.of_new hK9) hK5 (fun i hi _ => by omega)).toNew (fun i hi => hi)
     clear hB9 hst hks hK9 hK5
     go_wp2_with fail
     refine refL7 w.heap.size hN5.size hst5 ?_
     iterate 27 (intro _)
     intro A6 c6 w6 hN6 hown6
     go_wp2_with fail
     go_ret
     exact ⟨⟨_, _, rfl, hown6⟩, hN5.new hN6⟩
end Go.Proofs.YtijjhfkgbmckkaaGreatDoor
