/-
  PROVED HERE: the law ProofNumbers answers true; no condition.
-/
import Derived.Test.YtfegdgaanmcecaaGreatDoorPkN50
namespace Go.Proofs.YtfegdgaanmcecaaGreatDoor
open Go.RowKit
set_option maxRecDepth 100000 in
set_option maxHeartbeats 8000000 in
theorem pnumbers_any (w : World) : Calls Tryz.prog 5 #[] w fun e w' => e = .returned (.bool true) ∧ New w w' := by
 have k0 : New w (w.alloc (.cells #[.int .u8 1] 5)) := (New.refl _).alloc _
 have k1 : New (w.alloc (.cells #[.int .u8 1] 5)) ((w.alloc (.cells #[.int .u8 1] 5)).alloc (.cells #[.int .u8 2] 5)) := (New.refl _).alloc _
 have k2 : New ((w.alloc (.cells #[.int .u8 1] 5)).alloc (.cells #[.int .u8 2] 5)) (((w.alloc (.cells #[.int .u8 1] 5)).alloc (.cells #[.int .u8 2] 5)).alloc (.cells #[.int .u8 3] 5)) := (New.refl _).alloc _
 have k3 : New (((w.alloc (.cells #[.int .u8 1] 5)).alloc (.cells #[.int .u8 2] 5)).alloc (.cells #[.int .u8 3] 5)) ((((w.alloc (.cells #[.int .u8 1] 5)).alloc (.cells #[.int .u8 2] 5)).alloc (.cells #[.int .u8 3] 5)).alloc (.cells #[.slice (some ⟨w.heap.size, 0, none⟩) 1 1, .slice (some ⟨w.heap.size + 1, 0, none⟩) 1 1, .slice (some ⟨w.heap.size + 2, 0, none⟩) 1 1] 31)) := (New.refl _).alloc _
 have k4 : New ((((w.alloc (.cells #[.int .u8 1] 5)).alloc (.cells #[.int .u8 2] 5)).alloc (.cells #[.int .u8 3] 5)).alloc (.cells #[.slice (some ⟨w.heap.size, 0, none⟩) 1 1, .slice (some ⟨w.heap.size + 1, 0, none⟩) 1 1, .slice (some ⟨w.heap.size + 2, 0, none⟩) 1 1] 31)) (((((w.alloc (.cells #[.int .u8 1] 5)).alloc (.cells #[.int .u8 2] 5)).alloc (.cells #[.int .u8 3] 5)).alloc (.cells #[.slice (some ⟨w.heap.size, 0, none⟩) 1 1, .slice (some ⟨w.heap.size + 1, 0, none⟩) 1 1, .slice (some ⟨w.heap.size + 2, 0, none⟩) 1 1] 31)).alloc (.cells #[.int .u8 4] 5)) := (New.refl _).alloc _
 have k5 : New (((((w.alloc (.cells #[.int .u8 1] 5)).alloc (.cells #[.int .u8 2] 5)).alloc (.cells #[.int .u8 3] 5)).alloc (.cells #[.slice (some ⟨w.heap.size, 0, none⟩) 1 1, .slice (some ⟨w.heap.size + 1, 0, none⟩) 1 1, .slice (some ⟨w.heap.size + 2, 0, none⟩) 1 1] 31)).alloc (.cells #[.int .u8 4] 5)) ((((((w.alloc (.cells #[.int .u8 1] 5)).alloc (.cells #[.int .u8 2] 5)).alloc (.cells #[.int .u8 3] 5)).alloc (.cells #[.slice (some ⟨w.heap.size, 0, none⟩) 1 1, .slice (some ⟨w.heap.size + 1, 0, none⟩) 1 1, .slice (some ⟨w.heap.size + 2, 0, none⟩) 1 1] 31)).alloc (.cells #[.int .u8 4] 5)).alloc (.cells #[.int .u8 5] 5)) := (New.refl _).alloc _
 have k6 : New ((((((w.alloc (.cells #[.int .u8 1] 5)).alloc (.cells #[.int .u8 2] 5)).alloc (.cells #[.int .u8 3] 5)).alloc (.cells #[.slice (some ⟨w.heap.size, 0, none⟩) 1 1, .slice (some ⟨w.heap.size + 1, 0, none⟩) 1 1, .slice (some ⟨w.heap.size + 2, 0, none⟩) 1 1] 31)).alloc (.cells #[.int .u8 4] 5)).alloc (.cells #[.int .u8 5] 5)) (((((((w.alloc (.cells #[.int .u8 1] 5)).alloc (.cells #[.int .u8 2] 5)).alloc (.cells #[.int .u8 3] 5)).alloc (.cells #[.slice (some ⟨w.heap.size, 0, none⟩) 1 1, .slice (some ⟨w.heap.size + 1, 0, none⟩) 1 1, .slice (some ⟨w.heap.size + 2, 0, none⟩) 1 1] 31)).alloc (.cells #[.int .u8 4] 5)).alloc (.cells #[.int .u8 5] 5)).alloc (.cells #[.slice (some ⟨w.heap.size + 4, 0, none⟩) 1 1, .slice (some ⟨w.heap.size + 5, 0, none⟩) 1 1] 31)) := (New.refl _).alloc _
 have k7 : New (((((((w.alloc (.cells #[.int .u8 1] 5)).alloc (.cells #[.int .u8 2] 5)).alloc (.cells #[.int .u8 3] 5)).alloc (.cells #[.slice (some ⟨w.heap.size, 0, none⟩) 1 1, .slice (some ⟨w.heap.size + 1, 0, none⟩) 1 1, .slice (some ⟨w.heap.size + 2, 0, none⟩) 1 1] 31)).alloc (.cells #[.int .u8 4] 5)).alloc (.cells #[.int .u8 5] 5)).alloc (.cells #[.slice (some ⟨w.heap.size + 4, 0, none⟩) 1 1, .slice (some ⟨w.heap.size + 5, 0, none⟩) 1 1] 31)) ((((((((w.alloc (.cells #[.int .u8 1] 5)).alloc (.cells #[.int .u8 2] 5)).alloc (.cells #[.int .u8 3] 5)).alloc (.cells #[.slice (some ⟨w.heap.size, 0, none⟩) 1 1, .slice (some ⟨w.heap.size + 1, 0, none⟩) 1 1, .slice (some ⟨w.heap.size + 2, 0, none⟩) 1 1] 31)).alloc (.cells #[.int .u8 4] 5)).alloc (.cells #[.int .u8 5] 5)).alloc (.cells #[.slice (some ⟨w.heap.size + 4, 0, none⟩) 1 1, .slice (some ⟨w.heap.size + 5, 0, none⟩) 1 1] 31)).alloc (.cells #[.slice (some ⟨w.heap.size + 3, 0, none⟩) 3 3, .slice none 0 0, .slice (some ⟨w.heap.size + 6, 0, none⟩) 2 2] 57)) := (New.refl _).alloc _
 have s1 : (w.alloc (.cells #[.int .u8 1] 5)).heap.size = w.heap.size + 1 := by simp
 have s2 : ((w.alloc (.cells #[.int .u8 1] 5)).alloc (.cells #[.int .u8 2] 5)).heap.size = w.heap.size + 2 := by simp
 have s3 : (((w.alloc (.cells #[.int .u8 1] 5)).alloc (.cells #[.int .u8 2] 5)).alloc (.cells #[.int .u8 3] 5)).heap.size = w.heap.size + 3 := by simp
 have s4 : ((((w.alloc (.cells #[.int .u8 1] 5)).alloc (.cells #[.int .u8 2] 5)).alloc (.cells #[.int .u8 3] 5)).alloc (.cells #[.slice (some ⟨w.heap.size, 0, none⟩) 1 1, .slice (some ⟨w.heap.size + 1, 0, none⟩) 1 1, .slice (some ⟨w.heap.size + 2, 0, none⟩) 1 1] 31)).heap.size = w.heap.size + 4 := by simp
 have s5 : (((((w.alloc (.cells #[.int .u8 1] 5)).alloc (.cells #[.int .u8 2] 5)).alloc (.cells #[.int .u8 3] 5)).alloc (.cells #[.slice (some ⟨w.heap.size, 0, none⟩) 1 1, .slice (some ⟨w.heap.size + 1, 0, none⟩) 1 1, .slice (some ⟨w.heap.size + 2, 0, none⟩) 1 1] 31)).alloc (.cells #[.int .u8 4] 5)).heap.size = w.heap.size + 5 := by simp
 have s6 : ((((((w.alloc (.cells #[.int .u8 1] 5)).alloc (.cells #[.int .u8 2] 5)).alloc (.cells #[.int .u8 3] 5)).alloc (.cells #[.slice (some ⟨w.heap.size, 0, none⟩) 1 1, .slice (some ⟨w.heap.size + 1, 0, none⟩) 1 1, .slice (some ⟨w.heap.size + 2, 0, none⟩) 1 1] 31)).alloc (.cells #[.int .u8 4] 5)).alloc (.cells #[.int .u8 5] 5)).heap.size = w.heap.size + 6 := by simp
 have s7 : (((((((w.alloc (.cells #[.int .u8 1] 5)).alloc (.cells #[.int .u8 2] 5)).alloc (.cells #[.int .u8 3] 5)).alloc (.cells #[.slice (some ⟨w.heap.size, 0, none⟩) 1 1, .slice (some ⟨w.heap.size + 1, 0, none⟩) 1 1, .slice (some ⟨w.heap.size + 2, 0, none⟩) 1 1] 31)).alloc (.cells #[.int .u8 4] 5)).alloc (.cells #[.int .u8 5] 5)).alloc (.cells #[.slice (some ⟨w.heap.size + 4, 0, none⟩) 1 1, .slice (some ⟨w.heap.size + 5, 0, none⟩) 1 1] 31)).heap.size = w.heap.size + 7 := by simp
 have b0 : Bs (w.alloc (.cells #[.int .u8 1] 5)) (fun _ => True) (some ⟨w.heap.size, 0, none⟩) 1 [1] := row_cells w 5 #[.int .u8 1] _ 1 rfl rfl
 have b1 : Bs ((w.alloc (.cells #[.int .u8 1] 5)).alloc (.cells #[.int .u8 2] 5)) (fun _ => True) (some ⟨w.heap.size + 1, 0, none⟩) 1 [2] := row_cells (w.alloc (.cells #[.int .u8 1] 5)) 5 #[.int .u8 2] _ 1 s1.symm rfl
 have b2 : Bs (((w.alloc (.cells #[.int .u8 1] 5)).alloc (.cells #[.int .u8 2] 5)).alloc (.cells #[.int .u8 3] 5)) (fun _ => True) (some ⟨w.heap.size + 2, 0, none⟩) 1 [3] := row_cells ((w.alloc (.cells #[.int .u8 1] 5)).alloc (.cells #[.int .u8 2] 5)) 5 #[.int .u8 3] _ 1 s2.symm rfl
 have b4 : Bs (((((w.alloc (.cells #[.int .u8 1] 5)).alloc (.cells #[.int .u8 2] 5)).alloc (.cells #[.int .u8 3] 5)).alloc (.cells #[.slice (some ⟨w.heap.size, 0, none⟩) 1 1, .slice (some ⟨w.heap.size + 1, 0, none⟩) 1 1, .slice (some ⟨w.heap.size + 2, 0, none⟩) 1 1] 31)).alloc (.cells #[.int .u8 4] 5)) (fun _ => True) (some ⟨w.heap.size + 4, 0, none⟩) 1 [4] := row_cells ((((w.alloc (.cells #[.int .u8 1] 5)).alloc (.cells #[.int .u8 2] 5)).alloc (.cells #[.int .u8 3] 5)).alloc (.cells #[.slice (some ⟨w.heap.size, 0, none⟩) 1 1, .slice (some ⟨w.heap.size + 1, 0, none⟩) 1 1, .slice (some ⟨w.heap.size + 2, 0, none⟩) 1 1] 31)) 5 #[.int .u8 4] _ 1 s4.symm rfl
 have b5 : Bs ((((((w.alloc (.cells #[.int .u8 1] 5)).alloc (.cells #[.int .u8 2] 5)).alloc (.cells #[.int .u8 3] 5)).alloc (.cells #[.slice (some ⟨w.heap.size, 0, none⟩) 1 1, .slice (some ⟨w.heap.size + 1, 0, none⟩) 1 1, .slice (some ⟨w.heap.size + 2, 0, none⟩) 1 1] 31)).alloc (.cells #[.int .u8 4] 5)).alloc (.cells #[.int .u8 5] 5)) (fun _ => True) (some ⟨w.heap.size + 5, 0, none⟩) 1 [5] := row_cells (((((w.alloc (.cells #[.int .u8 1] 5)).alloc (.cells #[.int .u8 2] 5)).alloc (.cells #[.int .u8 3] 5)).alloc (.cells #[.slice (some ⟨w.heap.size, 0, none⟩) 1 1, .slice (some ⟨w.heap.size + 1, 0, none⟩) 1 1, .slice (some ⟨w.heap.size + 2, 0, none⟩) 1 1] 31)).alloc (.cells #[.int .u8 4] 5)) 5 #[.int .u8 5] _ 1 s5.symm rfl
 have i3 : Imgs ((((w.alloc (.cells #[.int .u8 1] 5)).alloc (.cells #[.int .u8 2] 5)).alloc (.cells #[.int .u8 3] 5)).alloc (.cells #[.slice (some ⟨w.heap.size, 0, none⟩) 1 1, .slice (some ⟨w.heap.size + 1, 0, none⟩) 1 1, .slice (some ⟨w.heap.size + 2, 0, none⟩) 1 1] 31)) (fun _ => True) (some ⟨w.heap.size + 3, 0, none⟩) 3 [[1], [2], [3]] := by
  refine ⟨_, row_cells (((w.alloc (.cells #[.int .u8 1] 5)).alloc (.cells #[.int .u8 2] 5)).alloc (.cells #[.int .u8 3] 5)) 31 _ _ 3 s3.symm rfl, rfl, fun k hk => ?_⟩
  have hk3 : k = 0 ∨ k = 1 ∨ k = 2 := by simp at hk; omega
  rcases hk3 with rfl | rfl | rfl
  ·exact ⟨_, 1, rfl, Nat.le_refl _, by decide, ((b0.new k1).new k2).new k3⟩
  ·exact ⟨_, 1, rfl, Nat.le_refl _, by decide, (b1.new k2).new k3⟩
  ·exact ⟨_, 1, rfl, Nat.le_refl _, by decide, b2.new k3⟩
 have i6 : Imgs (((((((w.alloc (.cells #[.int .u8 1] 5)).alloc (.cells #[.int .u8 2] 5)).alloc (.cells #[.int .u8 3] 5)).alloc (.cells #[.slice (some ⟨w.heap.size, 0, none⟩) 1 1, .slice (some ⟨w.heap.size + 1, 0, none⟩) 1 1, .slice (some ⟨w.heap.size + 2, 0, none⟩) 1 1] 31)).alloc (.cells #[.int .u8 4] 5)).alloc (.cells #[.int .u8 5] 5)).alloc (.cells #[.slice (some ⟨w.heap.size + 4, 0, none⟩) 1 1, .slice (some ⟨w.heap.size + 5, 0, none⟩) 1 1] 31)) (fun _ => True) (some ⟨w.heap.size + 6, 0, none⟩) 2 [[4], [5]] := by
  refine ⟨_, row_cells ((((((w.alloc (.cells #[.int .u8 1] 5)).alloc (.cells #[.int .u8 2] 5)).alloc (.cells #[.int .u8 3] 5)).alloc (.cells #[.slice (some ⟨w.heap.size, 0, none⟩) 1 1, .slice (some ⟨w.heap.size + 1, 0, none⟩) 1 1, .slice (some ⟨w.heap.size + 2, 0, none⟩) 1 1] 31)).alloc (.cells #[.int .u8 4] 5)).alloc (.cells #[.int .u8 5] 5)) 31 _ _ 2 s6.symm rfl, rfl, fun k hk => ?_⟩
  have hk3 : k = 0 ∨ k = 1 := by simp at hk; omega
  rcases hk3 with rfl | rfl
  ·exact ⟨_, 1, rfl, Nat.le_refl _, by decide, (b4.new k5).new k6⟩
  ·exact ⟨_, 1, rfl, Nat.le_refl _, by decide, b5.new k6⟩
 have hR : Raws8 ((((((((w.alloc (.cells #[.int .u8 1] 5)).alloc (.cells #[.int .u8 2] 5)).alloc (.cells #[.int .u8 3] 5)).alloc (.cells #[.slice (some ⟨w.heap.size, 0, none⟩) 1 1, .slice (some ⟨w.heap.size + 1, 0, none⟩) 1 1, .slice (some ⟨w.heap.size + 2, 0, none⟩) 1 1] 31)).alloc (.cells #[.int .u8 4] 5)).alloc (.cells #[.int .u8 5] 5)).alloc (.cells #[.slice (some ⟨w.heap.size + 4, 0, none⟩) 1 1, .slice (some ⟨w.heap.size + 5, 0, none⟩) 1 1] 31)).alloc (.cells #[.slice (some ⟨w.heap.size + 3, 0, none⟩) 3 3, .slice none 0 0, .slice (some ⟨w.heap.size + 6, 0, none⟩) 2 2] 57)) (fun _ => True) (some ⟨w.heap.size + 7, 0, none⟩) 3 segs3 := by
  refine ⟨_, row_cells (((((((w.alloc (.cells #[.int .u8 1] 5)).alloc (.cells #[.int .u8 2] 5)).alloc (.cells #[.int .u8 3] 5)).alloc (.cells #[.slice (some ⟨w.heap.size, 0, none⟩) 1 1, .slice (some ⟨w.heap.size + 1, 0, none⟩) 1 1, .slice (some ⟨w.heap.size + 2, 0, none⟩) 1 1] 31)).alloc (.cells #[.int .u8 4] 5)).alloc (.cells #[.int .u8 5] 5)).alloc (.cells #[.slice (some ⟨w.heap.size + 4, 0, none⟩) 1 1, .slice (some ⟨w.heap.size + 5, 0, none⟩) 1 1] 31)) 57 _ _ 3 s7.symm rfl, rfl, fun k hk => ?_⟩
  have hk3 : k = 0 ∨ k = 1 ∨ k = 2 := by have h3 : segs3.length = 3 := rfl; omega
  rcases hk3 with rfl | rfl | rfl
  ·exact ⟨_, 3, rfl, Nat.le_refl _, by decide, (((i3.new k4).new k5).new k6).new k7⟩
  ·exact ⟨none, 0, rfl, Nat.le_refl _, by decide, imgs_sl.2 (Sl.nil _ _ _ _)⟩
  ·exact ⟨_, 2, rfl, Nat.le_refl _, by decide, i6.new k7⟩
 have hK8 := ((((((k0.new k1).new k2).new k3).new k4).new k5).new k6).new k7
 have HCH := Lib.hid (chain24_any _ _ 3 3 segs3 ((((((((w.alloc (.cells #[.int .u8 1] 5)).alloc (.cells #[.int .u8 2] 5)).alloc (.cells #[.int .u8 3] 5)).alloc (.cells #[.slice (some ⟨w.heap.size, 0, none⟩) 1 1, .slice (some ⟨w.heap.size + 1, 0, none⟩) 1 1, .slice (some ⟨w.heap.size + 2, 0, none⟩) 1 1] 31)).alloc (.cells #[.int .u8 4] 5)).alloc (.cells #[.int .u8 5] 5)).alloc (.cells #[.slice (some ⟨w.heap.size + 4, 0, none⟩) 1 1, .slice (some ⟨w.heap.size + 5, 0, none⟩) 1 1] 31)).alloc (.cells #[.slice (some ⟨w.heap.size + 3, 0, none⟩) 3 3, .slice none 0 0, .slice (some ⟨w.heap.size + 6, 0, none⟩) 2 2] 57)) hR (by decide))
 rw [show min 3 6 = 3 from rfl] at HCH
 have HK := Lib.hid hK8
 clear k0 k1 k2 k3 k4 k5 k6 k7 s1 s2 s3 s4 s5 s6 s7 b0 b1 b2 b4 b5 i3 i6 hR hK8
 have hok := chain_ok id24 segs3 3 (by decide)
 have HID := Lib.hid id24_any
 have HKN := Lib.hid known24_any
 have hil := hok.images
 have hhl := hok.heads
 have hr36 : (chainTo id24 segs3 3).recs.length ≤ 36 := by have h1 := hok.recs; have h2 := hok.next1; omega
 have HMK := Lib.hid (fun s => chain_any id24 segs3 (n := 3) (by decide) s)
 have him := imgs3
 have HM1 := Lib.hid make_swap
 have HM2 := Lib.hid make_short
 clear hok
 generalize img3 0 = t0 at *
 generalize img3 1 = t1 at *
 generalize img3 2 = t2 at *
 generalize chainTo id24 segs3 3 = st at *
 generalize id24 = idv at *
 obtain ⟨im, he, al, pv, nxt⟩ := st
 dsimp only at hil hhl hr36 him HMK
 subst him
 have HHL := Lib.hid hhl
 clear hhl hil
 go_enter Tryz.func5, Tryz.ntmps5
 go_wp2_with fail
 generalize (((((((w.alloc (.cells #[.int .u8 1] 5)).alloc (.cells #[.int .u8 2] 5)).alloc (.cells #[.int .u8 3] 5)).alloc (.cells #[.slice (some ⟨w.heap.size, 0, none⟩) 1 1, .slice (some ⟨w.heap.size + 1, 0, none⟩) 1 1, .slice (some ⟨w.heap.size + 2, 0, none⟩) 1 1] 31)).alloc (.cells #[.int .u8 4] 5)).alloc (.cells #[.int .u8 5] 5)).alloc (.cells #[.slice (some ⟨w.heap.size + 4, 0, none⟩) 1 1, .slice (some ⟨w.heap.size + 5, 0, none⟩) 1 1] 31)).alloc (.cells #[.slice (some ⟨w.heap.size + 3, 0, none⟩) 3 3, .slice none 0 0, .slice (some ⟨w.heap.size + 6, 0, none⟩) 2 2] 57) = w0 at *
 refine HCH.out.mono ?_
 rintro e w1 ⟨⟨O, oc, H, hc, R, rc, rfl, ht⟩, k1⟩
 dsimp only at ht ⊢
 rw [HHL.out] at ht ⊢
 have HI := Lib.hid (ht.imgs.imgs.imp (E := fun _ => True) fun _ _ _ => trivial)
 have HE := Lib.hid (ht.heads.heads.imp (E := fun _ => True) fun _ _ _ => trivial)
 have HK := Lib.hid (HK.out.new k1)
 clear ht k1 HCH
 have him3 : ([t0, t1, t2] : List (List UInt8)).length = 3 := rfl
 try rw [him3] at HI
 try rw [him3]
 clear him3
 generalize hml : al.length = m at *
 clear hml
 go_wp2_with fail
 refine (HID.out w1).mono ?_
 rintro e w2 ⟨⟨Ai, rfl, hid⟩, k2⟩
 have HI := Lib.hid (HI.out.new k2)
 have HE := Lib.hid (HE.out.new k2)
 have HK := Lib.hid (HK.out.new k2)
 have HIB := Lib.hid hid
 clear hid k2
 go_wp2_with fail
 refine (head18_any _ _ Ai H 16 16 3 hc idv he w2 HIB.out (by decide) HE.out (by decide)).mono ?_
 rintro e w3 ⟨⟨T, tc, rfl, oT⟩, k3⟩
 have HI := Lib.hid (HI.out.new k3)
 have HK := Lib.hid (HK.out.new k3)
 have HT := Lib.hid ((Row.of_own oT).imp (E := fun _ => True) fun _ _ _ => trivial)
 clear oT k3 HIB HE HID
 go_wp2_with fail
 go_loopw [5] (fun i wx => ∃ i0 : Nat, i0 ≤ m + 2 ∧ i = .int .i64 (i0 : Int) ∧ New w3 wx) (fun i _ => m + 2 - (intOf i).toNat)
 case atStart => exact ⟨0, Nat.zero_le _, rfl, New.refl _⟩
 case round =>
  obtain ⟨i0, hi0, rfl, hK3⟩ := hrel
  have HK3 := Lib.hid hK3
  clear hK3
  by_cases hlt : i0 < m + 2
  ·have hle : (i0 : Int) ≤ (m : Int) + 1 := by omega
   have hw1 : IntKind.i64.wrap ((m : Int) + 1) = (m : Int) + 1 := IntWalk.i64_in _ (by omega)
   have hw2 : IntKind.u64.wrap (i0 : Int) = (i0 : Int) := by rw [IntKind.wrap_u64]; omega
   obtain ⟨p, why, hmk, hlater, hcase⟩ := HMK.out (i0 : Int)
   have HLT := Lib.hid hlater
   have HCA := Lib.hid hcase
   have hM := make_any _ O 3 oc [t0, t1, t2] (i0 : Int) wr (HI.out.new HK3.out) (by decide)
   rw [hmk] at hM
   have HM := Lib.hid hM
   have hN := fun W (hW : New wr W) => make24_any _ O 3 oc [t0, t1, t2] (i0 : Int) W ((HI.out.new HK3.out).new hW) (by decide)
   rw [hmk] at hN
   have HMB := Lib.hid hN
   clear hM hN hmk hlater hcase
   go_wp2_with fail
   refine HM.out.mono ?_
   rintro e w5 ⟨⟨P1, R1, L1, Pa1, La1, p1, r1, lc1, pc1, lac1, rfl, hp, ho⟩, kk⟩
   dsimp only at hp ho ⊢
   have kX := kk.alloc (.cells #[.int .i64 p.head.index, .int .u64 p.head.first, .int .i64 p.head.count, .int .i64 p.head.bytes, .slice P1 p.head.prev.length p1, .slice R1 p.head.root.length r1, .int .i64 p.place, .slice L1 p.leaf.length lc1, .slice Pa1 p.path.length pc1, .slice La1 p.later.length lac1] 36)
   have kA := (New.refl w5).alloc (.cells #[.int .i64 p.head.index, .int .u64 p.head.first, .int .i64 p.head.count, .int .i64 p.head.bytes, .slice P1 p.head.prev.length p1, .slice R1 p.head.root.length r1, .int .i64 p.place, .slice L1 p.leaf.length lc1, .slice Pa1 p.path.length pc1, .slice La1 p.later.length lac1] 36)
   have hXX := heap_alloc_new w5 (.cells #[.int .i64 p.head.index, .int .u64 p.head.first, .int .i64 p.head.count, .int .i64 p.head.bytes, .slice P1 p.head.prev.length p1, .slice R1 p.head.root.length r1, .int .i64 p.place, .slice L1 p.leaf.length lc1, .slice Pa1 p.path.length pc1, .slice La1 p.later.length lac1] 36)
   have HP1 := Lib.hid ((hp.imp (E := fun _ => True) fun _ _ _ => trivial).new kA)
   have HO1 := Lib.hid ((ho.heads.imp (E := fun _ => True) fun _ _ _ => trivial).new kA)
   have HX1 := Lib.hid hXX
   have HMB := Lib.hid (HMB.out _ kX)
   have HKR := Lib.hid kX
   clear hp ho kk kX kA hXX HM
   go_upto_region 7 with fail
   generalize w5.alloc (.cells #[.int .i64 p.head.index, .int .u64 p.head.first, .int .i64 p.head.count, .int .i64 p.head.bytes, .slice P1 p.head.prev.length p1, .slice R1 p.head.root.length r1, .int .i64 p.place, .slice L1 p.leaf.length lc1, .slice Pa1 p.path.length pc1, .slice La1 p.later.length lac1] 36) = w6 at *
   generalize w5.heap.size = g1 at *
   go_wp2_with fail
   refine HMB.out.mono ?_
   rintro e w7 ⟨⟨P2, R2, L2, Pa2, La2, p2, r2, lc2, pc2, lac2, rfl, hp, ho⟩, kk⟩
   dsimp only at hp ho ⊢
   have kX := kk.alloc (.cells #[.int .i64 p.head.index, .int .u64 p.head.first, .int .i64 p.head.count, .int .i64 p.head.bytes, .slice P2 p.head.prev.length p2, .slice R2 p.head.root.length r2, .int .i64 p.place, .slice L2 p.leaf.length lc2, .slice Pa2 p.path.length pc2, .slice La2 p.later.length lac2] 50)
   have kA := (New.refl w7).alloc (.cells #[.int .i64 p.head.index, .int .u64 p.head.first, .int .i64 p.head.count, .int .i64 p.head.bytes, .slice P2 p.head.prev.length p2, .slice R2 p.head.root.length r2, .int .i64 p.place, .slice L2 p.leaf.length lc2, .slice Pa2 p.path.length pc2, .slice La2 p.later.length lac2] 50)
   have hXX := heap_alloc_new w7 (.cells #[.int .i64 p.head.index, .int .u64 p.head.first, .int .i64 p.head.count, .int .i64 p.head.bytes, .slice P2 p.head.prev.length p2, .slice R2 p.head.root.length r2, .int .i64 p.place, .slice L2 p.leaf.length lc2, .slice Pa2 p.path.length pc2, .slice La2 p.later.length lac2] 50)
   have HP2 := Lib.hid (hp.new kA)
   have HO2 := Lib.hid (ho.new kA)
   have HP1 := Lib.hid (HP1.out.new kX)
   have HO1 := Lib.hid (HO1.out.new kX)
   have HKR := Lib.hid (HKR.out.new kX)
   have HX1 := Lib.hid (kX.blockAt HX1.out trivial)
   have HX2 := Lib.hid hXX
   clear hp ho kk kX kA hXX HMB
   go_upto_region 8 with fail
   generalize w7.alloc (.cells #[.int .i64 p.head.index, .int .u64 p.head.first, .int .i64 p.head.count, .int .i64 p.head.bytes, .slice P2 p.head.prev.length p2, .slice R2 p.head.root.length r2, .int .i64 p.place, .slice L2 p.leaf.length lc2, .slice Pa2 p.path.length pc2, .slice La2 p.later.length lac2] 50) = w8 at *
   generalize w7.heap.size = g2 at *
   have HAL := Lib.hid (alike24_any _ _ _ _ P1 R1 L1 Pa1 La1 P2 R2 L2 Pa2 La2 p1 r1 lc1 pc1 lac1 p2 r2 lc2 pc2 lac2 p.later.length p w8 HP1.out HO1.out HP2.out HO2.out HLT.out)
   obtain ⟨x0, x1, x2, x3, x4, x5, x6, x7, x8, x9⟩ := cs10 HX1.out
   obtain ⟨z0, z1, z2, z3, z4, z5, z6, z7, z8, z9⟩ := cs10 HX2.out
   clear HP1 HO1 HX1
   have hwy : (why != why) = false := by simp
   go_wp2_with fail
   clear x0 x1 x2 x3 x4 x5 x6 x7 x8 x9
   clear z0 z1 z2 z3 z4 z5 z6 z7 z8 z9
   refine HAL.out.mono ?_
   rintro e w9 ⟨rfl, k9⟩
   have HP2 := Lib.hid (HP2.out.new k9)
   have HO2 := Lib.hid (HO2.out.new k9)
   have HKR := Lib.hid (HKR.out.new k9)
   have HX2 := Lib.hid (k9.blockAt HX2.out trivial)
   clear k9 HAL
   go_upto_region 10 with fail
   clear hwy
   have hi36 : i0 ≤ 37 := by omega
   by_cases hy : why = 0
   rotate_left
   ·have hy0 : (why != 0) = true := by simpa using hy
    clear HP2 HO2 HX2 hy
    go_wp2_with fail
    go_roundw
    case rel => exact ⟨i0 + 1, by omega, by go_num, HK3.out.new HKR.out⟩
    case measure => simp [intOf]; omega
   ·subst hy
    obtain ⟨hgd, hri, -⟩ := HCA.out rfl
    have HRI := Lib.hid hri
    clear hgd hri HCA
    have HK9 := Lib.hid (HK3.out.new HKR.out)
    go_wp2_with fail
    refine pn_inner HP2.out HO2.out HX2.out HRI.out HLT.out (Row.new HT.out HK9.out) (fun _ _ _ _ _ h => h) ?_
    iterate 152 (intro _)
    intro wI hkI
    go_wp2_with fail
    go_roundw
    case rel => exact ⟨i0 + 1, by omega, by go_num, HK9.out.new hkI⟩
    case measure => simp [intOf]; omega
  ·obtain rfl : i0 = m + 2 := by omega
   have hnle : ¬ ((m + 2 : Nat) : Int) ≤ (m : Int) + 1 := by omega
   have hw1 : IntKind.i64.wrap ((m : Int) + 1) = (m : Int) + 1 := IntWalk.i64_in _ (by omega)
   go_upto_region 45 with fail
   have HIW := Lib.hid (HI.out.new HK3.out)
   obtain ⟨b, off, J0, c0, hO, _, u0, hc0, hc09, hb0⟩ := HIW.out.at_ (k := 0) (by simp)
   obtain ⟨b2, off2, J1, c1, hO2, _, u1, hc1, hc19, hb1⟩ := HIW.out.at_ (k := 1) (by simp)
   subst hO
   obtain ⟨rfl, rfl⟩ : b2 = b ∧ off2 = off := by injection hO2 with h; injection h with h1 h2; exact ⟨h1.symm, h2.symm⟩
   clear hO2
   have u0 : wr.cell? ⟨b2, off2, none⟩ = some (.slice J0 t0.length c0) := u0
   have u1 : wr.cell? ⟨b2, off2 + 1, none⟩ = some (.slice J1 t1.length c1) := u1
   have hb0 : Bs wr _ J0 t0.length t0 := hb0
   have hb1 : Bs wr _ J1 t1.length t1 := hb1
   have hc0 : t0.length ≤ c0 := hc0
   have hc1 : t1.length ≤ c1 := hc1
   have HB0 := Lib.hid hb0
   have HB1 := Lib.hid hb1
   have HC0 := Lib.hid (And.intro hc0 hc09)
   have HC1 := Lib.hid (And.intro hc1 hc19)
   clear hb0 hb1 hc0 hc1 hc09 hc19 HIW
   have HMS : Hid (∀ W g, New wr W → W.heap[g]? = some (.cells #[.slice J1 t1.length c1, .slice J0 t0.length c0] 31 (0, 0)) → Calls Tryz.prog 12 #[.slice (some ⟨g, 0, none⟩) 2 2, .int .u64 1] W fun e w' => (∃ (x0 x1 x2 x3 x6 : Int) (Q1 Q2 Q3 Q4 Q5 : Option Addr) (m1 q1 m2 q2 m3 q3 m4 q4 m5 q5 : Nat), e = .returned (.tuple #[.agg #[.int .i64 x0, .int .u64 x1, .int .i64 x2, .int .i64 x3, .slice Q1 m1 q1, .slice Q2 m2 q2, .int .i64 x6, .slice Q3 m3 q3, .slice Q4 m4 q4, .slice Q5 m5 q5], .int .i64 40])) ∧ New W w') := Lib.hid fun W g hW hg => by
    have hm := make_any (fun _ => True) (some ⟨g, 0, none⟩) 2 2 [t1, t0] 1 W ⟨[.slice J1 t1.length c1, .slice J0 t0.length c0], ⟨rfl, fun _ => ⟨g, 0, rfl, trivial, (Array.getElem?_eq_some_iff.1 hg).1, fun k u hu => by rw [cell_of_row W g (0 + k) _ _ (0, 0) hg, Nat.zero_add]; simpa using hu⟩⟩, rfl, fun k hk => by
     have hk2 : k = 0 ∨ k = 1 := by simp at hk; omega
     rcases hk2 with rfl | rfl
     ·exact ⟨J1, c1, rfl, HC1.out.1, HC1.out.2, (Row.new HB1.out hW).imp fun _ _ _ => trivial⟩
     ·exact ⟨J0, c0, rfl, HC0.out.1, HC0.out.2, (Row.new HB0.out hW).imp fun _ _ _ => trivial⟩⟩ (by decide)
    rw [HM1.out] at hm
    exact hm.mono fun e w' ⟨⟨_, _, _, _, _, _, _, _, _, _, he, _⟩, hk⟩ => ⟨⟨_, _, _, _, _, _, _, _, _, _, _, _, _, _, _, _, _, _, _, _, he⟩, hk⟩
   go_cut [15] (fun s15 wx => s15 = .int .i64 40 ∧ New wr wx)
   case first =>
    have hb2 : (1 : Int) < 3 := by decide
    refine hold_beginS (New wr.drew) (by kernel_rfl) ?_
    have kd := (New.refl wr).drew
    generalize hwd : wr.drew = wd at *
    have n0 : New wd wd := New.refl _
    have v0 : ∀ W, New wd W → W.cell? ⟨b2, off2, none⟩ = some (.slice J0 t0.length c0) := fun W h => h.cell_some (a := wd) (hwd ▸ u0) trivial
    have v1 : ∀ W, New wd W → W.cell? ⟨b2, off2 + 1, none⟩ = some (.slice J1 t1.length c1) := fun W h => h.cell_some (a := wd) (hwd ▸ u1) trivial
    clear u0 u1 hwd
    refine take0 0 n0 ?_
    refine take0 1 n0 ?_
    refine take0 2 n0 ?_
    refine take0 3 n0 ?_
    refine take0 4 n0 ?_
    refine take0 5 n0 ?_
    refine hold_fork0 (i := 6) (j := 11) (by kernel_rfl) rfl rfl rfl rfl (fun K hK => ?_) (fun K hK => ?_)
    ·skip
     go_simp
     go_wp2_with fail
     have n1 : New wd (wd.alloc (.cells #[.slice J1 t1.length c1, .slice J0 t0.length c0] 31)) := n0.alloc _
     have hGn1 := heap_alloc_new wd (.cells #[.slice J1 t1.length c1, .slice J0 t0.length c0] 31)
     refine hK.out _ _ n1 ?_
     clear hK K
     try simp only [Act.put, ly1, ly2, ly3, ly4, ly5, ly6]
     refine hold_fork0 (i := 7) (j := 11) (by kernel_rfl) rfl rfl rfl rfl (fun K hK => ?_) (fun K hK => ?_)
     ·skip
      go_simp
      refine (HMS.out _ _ (kd.new n1) hGn1).mono ?_
      rintro e w5 ⟨⟨x0, x1, x2, x3, x6, Q1, Q2, Q3, Q4, Q5, m1, q1, m2, q2, m3, q3, m4, q4, m5, q5, rfl⟩, k5⟩
      go_wp2_with fail
      have n5 : New wd w5 := n1.new k5
      refine hK.out _ _ n5 ?_
      clear hK K
      try simp only [Act.put, ly1, ly2, ly3, ly4, ly5, ly6]
      refine take0 8 n5 ?_
      refine take0 9 n5 ?_
      refine take0 10 n5 ?_
      refine hold_step0 (i := 11) (by kernel_rfl) rfl rfl (fun K hK => ?_)
      go_simp
      go_wp2_with fail
      have n6 : New wd (w5.alloc (.cells #[.int .i64 0, .int .u64 0, .int .i64 0, .int .i64 0, .slice none 0 0, .slice none 0 0, .int .i64 0, .slice none 0 0, .slice none 0 0, .slice none 0 0] 36)) := n5.alloc _
      have hZn6 := heap_alloc_new w5 (.cells #[.int .i64 0, .int .u64 0, .int .i64 0, .int .i64 0, .slice none 0 0, .slice none 0 0, .int .i64 0, .slice none 0 0, .slice none 0 0, .slice none 0 0] 36)
      refine hK.out _ _ n6 ?_
      clear hK K
      try simp only [Act.put, ly1, ly2, ly3, ly4, ly5, ly6]
      have hgq : wd.heap.size ≤ w5.heap.size := n5.size
      generalize w5.alloc (.cells #[.int .i64 0, .int .u64 0, .int .i64 0, .int .i64 0, .slice none 0 0, .slice none 0 0, .int .i64 0, .slice none 0 0, .slice none 0 0, .slice none 0 0] 36) = w6 at *
      generalize w5.heap.size = g6 at *
      have hgl : wd.heap.size ≤ g6 := by first | assumption | exact Nat.le_refl _ | omega
      obtain ⟨d0, d1, d2, d3, d4, d5, d6, d7, d8, d9⟩ := cs10 hZn6
      obtain ⟨z0, z1, z2, z3, z4, z5, z6, z7, z8, z9⟩ := fz10 hZn6
      refine hold_step0 (i := 12) (by kernel_rfl) rfl rfl (fun K hK => ?_)
      go_simp
      have n7 := new_ten (g := g6) n6 hgl (.int .i64 x0) (.int .u64 x1) (.int .i64 x2) (.int .i64 x3) (.slice Q1 m1 q1) (.slice Q2 m2 q2) (.int .i64 x6) (.slice Q3 m3 q3) (.slice Q4 m4 q4) (.slice Q5 m5 q5)
      refine hK.out _ _ n7 ?_
      clear hK K d0 z0 d1 z1 d2 z2 d3 z3 d4 z4 d5 z5 d6 z6 d7 z7 d8 z8 d9 z9
      try simp only [Act.put, ly1, ly2, ly3, ly4, ly5, ly6]
      refine take0 13 n7 ?_
      refine wpAnyH_done (by kernel_rfl) ?_ _
      go_wp2_with fail
      go_meet
      exact ⟨rfl, kd.new n7⟩
     ·skip
      go_simp
      go_wp2_with fail
      have n2 : New wd ((wd.alloc (.cells #[.slice J1 t1.length c1, .slice J0 t0.length c0] 31)).alloc (.cells #[.int .i64 0, .int .u64 0, .int .i64 0, .int .i64 0, .slice none 0 0, .slice none 0 0, .int .i64 0, .slice none 0 0, .slice none 0 0, .slice none 0 0] 36)) := n1.alloc _
      have hZn2 := heap_alloc_new (wd.alloc (.cells #[.slice J1 t1.length c1, .slice J0 t0.length c0] 31)) (.cells #[.int .i64 0, .int .u64 0, .int .i64 0, .int .i64 0, .slice none 0 0, .slice none 0 0, .int .i64 0, .slice none 0 0, .slice none 0 0, .slice none 0 0] 36)
      refine hK.out _ _ n2 ?_
      clear hK K
      try simp only [Act.put, ly1, ly2, ly3, ly4, ly5, ly6]
      have hgA := ((New.refl (wd.alloc (.cells #[.slice J1 t1.length c1, .slice J0 t0.length c0] 31))).alloc (.cells #[.int .i64 0, .int .u64 0, .int .i64 0, .int .i64 0, .slice none 0 0, .slice none 0 0, .int .i64 0, .slice none 0 0, .slice none 0 0, .slice none 0 0] 36)).blockAt hGn1 trivial
      have hsA : wd.heap.size ≤ (wd.alloc (.cells #[.slice J1 t1.length c1, .slice J0 t0.length c0] 31)).heap.size := n1.size
      clear hGn1 n1
      have hszA : (wd.alloc (.cells #[.slice J1 t1.length c1, .slice J0 t0.length c0] 31)).heap.size = wd.heap.size + 1 := by simp
      rw [hszA] at hZn2 hsA
      clear hszA
      generalize wd.heap.size + 1 = ga at *
      generalize (wd.alloc (.cells #[.slice J1 t1.length c1, .slice J0 t0.length c0] 31)).alloc (.cells #[.int .i64 0, .int .u64 0, .int .i64 0, .int .i64 0, .slice none 0 0, .slice none 0 0, .int .i64 0, .slice none 0 0, .slice none 0 0, .slice none 0 0] 36) = w2 at *
      refine hold_step0 (i := 7) (by kernel_rfl) rfl rfl (fun K hK => ?_)
      go_simp
      refine (HMS.out _ _ (kd.new n2) hgA).mono ?_
      rintro e w5 ⟨⟨x0, x1, x2, x3, x6, Q1, Q2, Q3, Q4, Q5, m1, q1, m2, q2, m3, q3, m4, q4, m5, q5, rfl⟩, k5⟩
      go_wp2_with fail
      have n5 : New wd w5 := n2.new k5
      refine hK.out _ _ n5 ?_
      clear hK K
      try simp only [Act.put, ly1, ly2, ly3, ly4, ly5, ly6]
      refine take0 8 n5 ?_
      refine take0 9 n5 ?_
      refine take0 10 n5 ?_
      have hz5 := k5.blockAt hZn2 trivial
      have hgl : wd.heap.size ≤ ga := by first | assumption | exact Nat.le_refl _ | omega
      obtain ⟨d0, d1, d2, d3, d4, d5, d6, d7, d8, d9⟩ := cs10 hz5
      obtain ⟨z0, z1, z2, z3, z4, z5, z6, z7, z8, z9⟩ := fz10 hz5
      refine hold_step0 (i := 12) (by kernel_rfl) rfl rfl (fun K hK => ?_)
      go_simp
      have n7 := new_ten (g := ga) n5 hgl (.int .i64 x0) (.int .u64 x1) (.int .i64 x2) (.int .i64 x3) (.slice Q1 m1 q1) (.slice Q2 m2 q2) (.int .i64 x6) (.slice Q3 m3 q3) (.slice Q4 m4 q4) (.slice Q5 m5 q5)
      refine hK.out _ _ n7 ?_
      clear hK K d0 z0 d1 z1 d2 z2 d3 z3 d4 z4 d5 z5 d6 z6 d7 z7 d8 z8 d9 z9
      try simp only [Act.put, ly1, ly2, ly3, ly4, ly5, ly6]
      refine take0 13 n7 ?_
      refine wpAnyH_done (by kernel_rfl) ?_ _
      go_wp2_with fail
      go_meet
      exact ⟨rfl, kd.new n7⟩
    ·skip
     go_simp
     go_wp2_with fail
     have n1 : New wd (wd.alloc (.cells #[.int .i64 0, .int .u64 0, .int .i64 0, .int .i64 0, .slice none 0 0, .slice none 0 0, .int .i64 0, .slice none 0 0, .slice none 0 0, .slice none 0 0] 36)) := n0.alloc _
     have hZn1 := heap_alloc_new wd (.cells #[.int .i64 0, .int .u64 0, .int .i64 0, .int .i64 0, .slice none 0 0, .slice none 0 0, .int .i64 0, .slice none 0 0, .slice none 0 0, .slice none 0 0] 36)
     refine hK.out _ _ n1 ?_
     clear hK K
     try simp only [Act.put, ly1, ly2, ly3, ly4, ly5, ly6]
     generalize wd.alloc (.cells #[.int .i64 0, .int .u64 0, .int .i64 0, .int .i64 0, .slice none 0 0, .slice none 0 0, .int .i64 0, .slice none 0 0, .slice none 0 0, .slice none 0 0] 36) = wz at *
     refine hold_step0 (i := 6) (by kernel_rfl) rfl rfl (fun K hK => ?_)
     go_simp
     go_wp2_with fail
     have n2 : New wd (wz.alloc (.cells #[.slice J1 t1.length c1, .slice J0 t0.length c0] 31)) := n1.alloc _
     have hGn2 := heap_alloc_new wz (.cells #[.slice J1 t1.length c1, .slice J0 t0.length c0] 31)
     refine hK.out _ _ n2 ?_
     clear hK K
     try simp only [Act.put, ly1, ly2, ly3, ly4, ly5, ly6]
     have hzA := ((New.refl wz).alloc (.cells #[.slice J1 t1.length c1, .slice J0 t0.length c0] 31)).blockAt hZn1 trivial
     generalize wz.alloc (.cells #[.slice J1 t1.length c1, .slice J0 t0.length c0] 31) = w2 at *
     generalize wz.heap.size = gz at *
     refine hold_step0 (i := 7) (by kernel_rfl) rfl rfl (fun K hK => ?_)
     go_simp
     refine (HMS.out _ _ (kd.new n2) hGn2).mono ?_
     rintro e w5 ⟨⟨x0, x1, x2, x3, x6, Q1, Q2, Q3, Q4, Q5, m1, q1, m2, q2, m3, q3, m4, q4, m5, q5, rfl⟩, k5⟩
     go_wp2_with fail
     have n5 : New wd w5 := n2.new k5
     refine hK.out _ _ n5 ?_
     clear hK K
     try simp only [Act.put, ly1, ly2, ly3, ly4, ly5, ly6]
     refine take0 8 n5 ?_
     refine take0 9 n5 ?_
     refine take0 10 n5 ?_
     have hz5 := k5.blockAt hzA trivial
     generalize hgw : wd.heap.size = gw at *
     have hgl : wd.heap.size ≤ gw := by first | assumption | exact Nat.le_refl _ | omega
     obtain ⟨d0, d1, d2, d3, d4, d5, d6, d7, d8, d9⟩ := cs10 hz5
     obtain ⟨z0, z1, z2, z3, z4, z5, z6, z7, z8, z9⟩ := fz10 hz5
     refine hold_step0 (i := 12) (by kernel_rfl) rfl rfl (fun K hK => ?_)
     go_simp
     have n7 := new_ten (g := gw) n5 hgl (.int .i64 x0) (.int .u64 x1) (.int .i64 x2) (.int .i64 x3) (.slice Q1 m1 q1) (.slice Q2 m2 q2) (.int .i64 x6) (.slice Q3 m3 q3) (.slice Q4 m4 q4) (.slice Q5 m5 q5)
     refine hK.out _ _ n7 ?_
     clear hK K d0 z0 d1 z1 d2 z2 d3 z3 d4 z4 d5 z5 d6 z6 d7 z7 d8 z8 d9 z9
     try simp only [Act.put, ly1, ly2, ly3, ly4, ly5, ly6]
     refine take0 13 n7 ?_
     refine wpAnyH_done (by kernel_rfl) ?_ _
     go_wp2_with fail
     go_meet
     exact ⟨rfl, kd.new n7⟩
   case rest =>
    obtain ⟨rfl, kx⟩ := hcut
    have hj0 := kx.cell_some u0 trivial
    have HKX := Lib.hid kx
    have HMT : Hid (∀ W g, New wr W → W.heap[g]? = some (.cells #[.slice J0 t0.length c0, .slice none 0 0] 31 (0, 0)) → Calls Tryz.prog 12 #[.slice (some ⟨g, 0, none⟩) 2 2, .int .u64 1] W fun e w' => (∃ (x0 x1 x2 x3 x6 : Int) (Q1 Q2 Q3 Q4 Q5 : Option Addr) (m1 q1 m2 q2 m3 q3 m4 q4 m5 q5 : Nat), e = .returned (.tuple #[.agg #[.int .i64 x0, .int .u64 x1, .int .i64 x2, .int .i64 x3, .slice Q1 m1 q1, .slice Q2 m2 q2, .int .i64 x6, .slice Q3 m3 q3, .slice Q4 m4 q4, .slice Q5 m5 q5], .int .i64 40])) ∧ New W w') := Lib.hid fun W g hW hg => by
     have hm := make_any (fun _ => True) (some ⟨g, 0, none⟩) 2 2 [t0, []] 1 W ⟨[.slice J0 t0.length c0, .slice none 0 0], ⟨rfl, fun _ => ⟨g, 0, rfl, trivial, (Array.getElem?_eq_some_iff.1 hg).1, fun k u hu => by rw [cell_of_row W g (0 + k) _ _ (0, 0) hg, Nat.zero_add]; simpa using hu⟩⟩, rfl, fun k hk => by
      have hk2 : k = 0 ∨ k = 1 := by simp at hk; omega
      rcases hk2 with rfl | rfl
      ·exact ⟨J0, c0, rfl, HC0.out.1, HC0.out.2, (Row.new HB0.out hW).imp fun _ _ _ => trivial⟩
      ·exact ⟨none, 0, rfl, Nat.le_refl _, by decide, Row.nil _ _ _ _⟩⟩ (by decide)
     rw [HM2.out] at hm
     exact hm.mono fun e w' ⟨⟨_, _, _, _, _, _, _, _, _, _, he, _⟩, hk⟩ => ⟨⟨_, _, _, _, _, _, _, _, _, _, _, _, _, _, _, _, _, _, _, _, he⟩, hk⟩
    have HMN : Hid (∀ W, New wr W → Calls Tryz.prog 12 #[.slice none 0 0, .int .u64 1] W fun e w' => (∃ (x0 x1 x2 x3 x6 : Int) (Q1 Q2 Q3 Q4 Q5 : Option Addr) (m1 q1 m2 q2 m3 q3 m4 q4 m5 q5 : Nat), e = .returned (.tuple #[.agg #[.int .i64 x0, .int .u64 x1, .int .i64 x2, .int .i64 x3, .slice Q1 m1 q1, .slice Q2 m2 q2, .int .i64 x6, .slice Q3 m3 q3, .slice Q4 m4 q4, .slice Q5 m5 q5], .int .i64 20])) ∧ New W w') := Lib.hid fun W hW => by
     have hm := make_any (fun _ => True) none 0 0 [] 1 W ⟨[], ⟨rfl, fun h => absurd h (by decide)⟩, rfl, fun k hk => absurd hk (Nat.not_lt_zero k)⟩ (by decide)
     rw [make_nil] at hm
     exact hm.mono fun e w' ⟨⟨_, _, _, _, _, _, _, _, _, _, he, _⟩, hk⟩ => ⟨⟨_, _, _, _, _, _, _, _, _, _, _, _, _, _, _, _, _, _, _, _, he⟩, hk⟩
    clear u0 u1 kx HMS HM1 HM2 HB0 HB1 HC0 HC1
    go_wp2_with fail
    refine (HMT.out _ _ (HKX.out.alloc (.cells #[.slice J0 t0.length c0, .slice none 0 0] 31)) (heap_alloc_new _ _)).mono ?_
    rintro e w5 ⟨⟨x0, x1, x2, x3, x6, Q1, Q2, Q3, Q4, Q5, m1, q1, m2, q2, m3, q3, m4, q4, m5, q5, rfl⟩, k5⟩
    have HKX := Lib.hid ((HKX.out.alloc (.cells #[.slice J0 t0.length c0, .slice none 0 0] 31)).new k5)
    clear hj0 k5
    go_wp2_with fail
    have hk6 := HKX.out.alloc (.cells #[.int .i64 x0, .int .u64 x1, .int .i64 x2, .int .i64 x3, .slice Q1 m1 q1, .slice Q2 m2 q2, .int .i64 x6, .slice Q3 m3 q3, .slice Q4 m4 q4, .slice Q5 m5 q5] 36)
    refine (HMN.out _ hk6).mono ?_
    rintro e w6 ⟨⟨y0, y1, y2, y3, y6, R1, R2, R3, R4, R5, m1', q1', m2', q2', m3', q3', m4', q4', m5', q5', rfl⟩, k6⟩
    have HKX := Lib.hid (hk6.new k6)
    clear hk6 k6
    have HRN := Lib.hid (fun W => read24_any (fun _ => True) none 0 0 [] W (Row.nil _ _ _ _) (by decide) (by decide) (by decide))
    go_upto_region 48 with fail
    go_wp2_with fail
    refine (HRN.out _).mono ?_
    rintro e w7 ⟨rfl, k7⟩
    go_wp2_with fail
    refine (HKN.out _).mono ?_
    rintro e w8 ⟨rfl, k8⟩
    go_wp2_with fail
    go_ret
    exact ⟨rfl, (((HK.out.new HK3.out).new (HKX.out.alloc _)).new k7).new k8⟩
end Go.Proofs.YtfegdgaanmcecaaGreatDoor
