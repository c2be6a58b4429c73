/-
  PROVED HERE: what law21.same answers where all is the same; conditions: the world is as listed.
-/
import Derived.Test.YtajnkbfcnmajoaaGreatDoorPkB34
namespace Go.Proofs.YtajnkbfcnmajoaaGreatDoor
open Go.RowKit
set_option maxRecDepth 100000 in
set_option maxHeartbeats 4000000 in
theorem same_any {w : World} {D D2 : Nat → Prop} {base bw : Nat} {v : W21V} {lv : LogV} {A : Option Addr} {c : Nat} {hs : List HeadP} (h : W21At w bw v) (hl : LogAt w D base v.bl v.bd lv A c) (hh : Sl headElt w D2 v.Ah v.nh hs)
  (h1 : lv.next + (lv.waits.length : Int) = v.m.next) (h2 : lv.sealed = v.nh) (h3 : v.m.sealed = (v.nh : Int)) (h4 : lv.waits.length = v.nw) (h5 : lv.g = v.g) (h6 : lv.head = headSeal id21 hs) :
  Calls Tryz.prog 27 #[.pointer (some ⟨bw, 0, none⟩)] w fun e w' => e = .returned (.bool true) ∧ New w w' := by
 have c3 : ∀ W, New w W → W.cell? ⟨bw, 3, none⟩ = some (.int .i64 v.g) := fun W hW => (h.new hW).cell rfl
 have c6 : ∀ W, New w W → W.cell? ⟨bw, 6, none⟩ = some (.int .i64 v.g) := fun W hW => (h.new hW).cell rfl
 have c7 : ∀ W, New w W → W.cell? ⟨bw, 7, none⟩ = some (.pointer (some ⟨v.bl, 0, none⟩)) := fun W hW => (h.new hW).cell rfl
 have c9 : ∀ W, New w W → W.cell? ⟨bw, 9, none⟩ = some (.int .i64 v.m.sealed) := fun W hW => (h.new hW).cell rfl
 have c12 : ∀ W, New w W → W.cell? ⟨bw, 12, none⟩ = some (.int .u64 v.m.next) := fun W hW => (h.new hW).cell rfl
 have c13 : ∀ W, New w W → W.cell? ⟨bw, 13, none⟩ = some (.slice v.Aw v.nw v.cw) := fun W hW => (h.new hW).cell rfl
 have c14 : ∀ W, New w W → W.cell? ⟨bw, 14, none⟩ = some (.slice v.Ah v.nh v.ch) := fun W hW => (h.new hW).cell rfl
 rw [h3] at c9
 have HN := fun W (hW : New w W) => next21_any (hl.new hW)
 rw [h1] at HN
 have HS := fun W (hW : New w W) => sealed21_any (hl.new hW)
 rw [h2] at HS
 have HP := fun W (hW : New w W) => pending21_any (hl.new hW)
 rw [h4] at HP
 have HR := fun W (hW : New w W) => room21_any (hl.new hW)
 rw [h5, h2] at HR
 have HD := fun W (hW : New w W) => head21_any (hl.new hW)
 rw [h6] at HD
 have hnh : v.nh ≤ 1000 ∧ v.g ≤ 1000 := by obtain ⟨_, g1, g2⟩ := hl.few; rw [← h2, ← h5]; omega
 have hnw : v.nw ≤ 100 := by rw [← h4]; exact hl.few.1
 have HH := fun (W : World) (I : Option Addr) (ci : Nat) (D3 : Nat → Prop) (hW : New w W) (hI : Bs W D3 I 16 id21) => head18_any D3 D2 I v.Ah 16 ci v.nh v.ch id21 hs W hI (by decide) (heads_sl.2 (hh.new hW)) (by omega)
 have HNh := Lib.hid HN
 have HSh := Lib.hid HS
 have HPh := Lib.hid HP
 have HRh := Lib.hid HR
 have HDh := Lib.hid HD
 have HHh := Lib.hid HH
 clear h hl hh h1 h2 h3 h4 h5 h6 HN HS HP HR HD HH
 generalize headSeal id21 hs = hd at *
 have heq : (hd == hd) = true := by simp
 have e1 : ((v.nh : Int) == (v.nh : Int)) = true := by simp
 have e2 : ((v.nw : Int) == (v.nw : Int)) = true := by simp
 have e3 : (v.m.next == v.m.next) = true := by simp
 have hw : IntKind.i64.wrap ((v.g : Int) - (v.nh : Int)) = (v.g : Int) - (v.nh : Int) := IntWalk.i64_in _ (by omega)
 have e4 : (((v.g : Int) - (v.nh : Int)) == ((v.g : Int) - (v.nh : Int))) = true := by simp
 go_enter Tryz.func27, Tryz.ntmps27
 go_upto_region 1 with fail
 simp only [List.append]
 refine hold_begin (by kernel_rfl) ?_
 have n0 : New w w.drew := (New.refl w).drew
 replace c6 := fun W (hW : New w.drew W) => c6 W (Keep.new n0 hW)
 replace c7 := fun W (hW : New w.drew W) => c7 W (Keep.new n0 hW)
 replace c9 := fun W (hW : New w.drew W) => c9 W (Keep.new n0 hW)
 replace c12 := fun W (hW : New w.drew W) => c12 W (Keep.new n0 hW)
 replace c13 := fun W (hW : New w.drew W) => c13 W (Keep.new n0 hW)
 replace c14 := fun W (hW : New w.drew W) => c14 W (Keep.new n0 hW)
 refine take1 0 ?_
 refine take1 1 ?_
 refine take1 2 ?_
 refine take1 3 ?_
 refine take1 5 ?_
 refine take1 6 ?_
 refine take1 7 ?_
 refine take1 8 ?_
 refine take1 9 ?_
 refine hold_step (i := 4) (by kernel_rfl) rfl rfl (fun K hK => ?_)
 go_simp
 refine (HNh.out _ n0).mono ?_
 rintro e w1 ⟨rfl, k1⟩
 go_wp2_with fail
 refine hK.out _ _ k1 ?_
 clear hK K
 try simp only [Act.put, ly1, ly2, ly3, ly4, ly5, ly6]
 replace n0 := Keep.new n0 k1
 replace c6 := fun W (hW : New w1 W) => c6 W (Keep.new k1 hW)
 replace c7 := fun W (hW : New w1 W) => c7 W (Keep.new k1 hW)
 replace c9 := fun W (hW : New w1 W) => c9 W (Keep.new k1 hW)
 replace c12 := fun W (hW : New w1 W) => c12 W (Keep.new k1 hW)
 replace c13 := fun W (hW : New w1 W) => c13 W (Keep.new k1 hW)
 replace c14 := fun W (hW : New w1 W) => c14 W (Keep.new k1 hW)
 refine take1 10 ?_
 refine take1 11 ?_
 refine take1 12 ?_
 refine take1 13 ?_
 refine take1 14 ?_
 refine take1 15 ?_
 refine take1 17 ?_
 refine take1 18 ?_
 refine take1 19 ?_
 refine take1 20 ?_
 refine take1 21 ?_
 refine hold_step (i := 16) (by kernel_rfl) rfl rfl (fun K hK => ?_)
 go_simp
 refine (HSh.out _ n0).mono ?_
 rintro e w2 ⟨rfl, k2⟩
 go_wp2_with fail
 refine hK.out _ _ k2 ?_
 clear hK K
 try simp only [Act.put, ly1, ly2, ly3, ly4, ly5, ly6]
 replace n0 := Keep.new n0 k2
 replace c6 := fun W (hW : New w2 W) => c6 W (Keep.new k2 hW)
 replace c7 := fun W (hW : New w2 W) => c7 W (Keep.new k2 hW)
 replace c9 := fun W (hW : New w2 W) => c9 W (Keep.new k2 hW)
 replace c12 := fun W (hW : New w2 W) => c12 W (Keep.new k2 hW)
 replace c13 := fun W (hW : New w2 W) => c13 W (Keep.new k2 hW)
 replace c14 := fun W (hW : New w2 W) => c14 W (Keep.new k2 hW)
 refine take1 22 ?_
 refine take1 23 ?_
 refine take1 24 ?_
 refine take1 25 ?_
 refine take1 26 ?_
 refine take1 27 ?_
 refine take1 28 ?_
 refine take1 29 ?_
 refine take1 30 ?_
 refine take1 31 ?_
 refine take1 32 ?_
 refine take1 33 ?_
 refine take1 34 ?_
 refine take1 35 ?_
 refine take1 36 ?_
 refine take1 37 ?_
 refine take1 38 ?_
 refine take1 39 ?_
 refine take1 40 ?_
 refine take1 41 ?_
 refine take1 43 ?_
 refine take1 44 ?_
 refine take1 45 ?_
 refine take1 46 ?_
 refine take1 47 ?_
 refine hold_step (i := 42) (by kernel_rfl) rfl rfl (fun K hK => ?_)
 go_simp
 refine (HPh.out _ n0).mono ?_
 rintro e w3 ⟨rfl, k3⟩
 go_wp2_with fail
 refine hK.out _ _ k3 ?_
 clear hK K
 try simp only [Act.put, ly1, ly2, ly3, ly4, ly5, ly6]
 replace n0 := Keep.new n0 k3
 replace c6 := fun W (hW : New w3 W) => c6 W (Keep.new k3 hW)
 replace c7 := fun W (hW : New w3 W) => c7 W (Keep.new k3 hW)
 replace c9 := fun W (hW : New w3 W) => c9 W (Keep.new k3 hW)
 replace c12 := fun W (hW : New w3 W) => c12 W (Keep.new k3 hW)
 replace c13 := fun W (hW : New w3 W) => c13 W (Keep.new k3 hW)
 replace c14 := fun W (hW : New w3 W) => c14 W (Keep.new k3 hW)
 refine take1 48 ?_
 refine take1 49 ?_
 refine take1 50 ?_
 refine take1 51 ?_
 refine take1 52 ?_
 refine take1 53 ?_
 refine take1 54 ?_
 refine take1 56 ?_
 refine take1 57 ?_
 refine take1 58 ?_
 refine take1 59 ?_
 refine take1 60 ?_
 refine take1 61 ?_
 refine take1 62 ?_
 refine take1 63 ?_
 refine take1 64 ?_
 refine take1 65 ?_
 refine take1 66 ?_
 refine hold_step (i := 55) (by kernel_rfl) rfl rfl (fun K hK => ?_)
 go_simp
 refine (HRh.out _ n0).mono ?_
 rintro e w4 ⟨rfl, k4⟩
 go_wp2_with fail
 refine hK.out _ _ k4 ?_
 clear hK K
 try simp only [Act.put, ly1, ly2, ly3, ly4, ly5, ly6]
 replace n0 := Keep.new n0 k4
 replace c6 := fun W (hW : New w4 W) => c6 W (Keep.new k4 hW)
 replace c7 := fun W (hW : New w4 W) => c7 W (Keep.new k4 hW)
 replace c9 := fun W (hW : New w4 W) => c9 W (Keep.new k4 hW)
 replace c12 := fun W (hW : New w4 W) => c12 W (Keep.new k4 hW)
 replace c13 := fun W (hW : New w4 W) => c13 W (Keep.new k4 hW)
 replace c14 := fun W (hW : New w4 W) => c14 W (Keep.new k4 hW)
 refine take1 67 ?_
 refine take1 68 ?_
 refine take1 69 ?_
 refine take1 70 ?_
 refine take1 71 ?_
 refine take1 72 ?_
 refine take1 73 ?_
 refine take1 77 ?_
 refine take1 78 ?_
 refine take1 79 ?_
 refine take1 80 ?_
 refine hold_step (i := 74) (by kernel_rfl) rfl rfl (fun K hK => ?_)
 go_simp
 refine (HDh.out _ n0).mono ?_
 rintro e w5 ⟨⟨A5, c5, rfl, o5⟩, k5⟩; have q5 := fun W (hW : New w5 W) => run_str (c := c5) (Row.new (Row.of_own o5) hW); replace o5 := Lib.hid o5
 go_wp2_with fail
 refine hK.out _ _ k5 ?_
 clear hK K
 try simp only [Act.put, ly1, ly2, ly3, ly4, ly5, ly6]
 replace n0 := Keep.new n0 k5
 replace c6 := fun W (hW : New w5 W) => c6 W (Keep.new k5 hW)
 replace c7 := fun W (hW : New w5 W) => c7 W (Keep.new k5 hW)
 replace c9 := fun W (hW : New w5 W) => c9 W (Keep.new k5 hW)
 replace c12 := fun W (hW : New w5 W) => c12 W (Keep.new k5 hW)
 replace c13 := fun W (hW : New w5 W) => c13 W (Keep.new k5 hW)
 replace c14 := fun W (hW : New w5 W) => c14 W (Keep.new k5 hW)
 refine take1 75 ?_
 refine hold_step (i := 76) (by kernel_rfl) rfl rfl (fun K hK => ?_)
 go_simp
 refine (id21_any _).mono ?_
 rintro e w6 ⟨⟨A6, rfl, hb6⟩, k6⟩; have HI := fun W (hW : New w6 W) => HHh.out W A6 16 _ (n0.new (Keep.new k6 hW)) (hb6.new hW); replace hb6 := Lib.hid hb6; replace HI := Lib.hid HI
 go_wp2_with fail
 refine hK.out _ _ k6 ?_
 clear hK K
 try simp only [Act.put, ly1, ly2, ly3, ly4, ly5, ly6]
 replace n0 := Keep.new n0 k6
 replace c6 := fun W (hW : New w6 W) => c6 W (Keep.new k6 hW)
 replace c7 := fun W (hW : New w6 W) => c7 W (Keep.new k6 hW)
 replace c9 := fun W (hW : New w6 W) => c9 W (Keep.new k6 hW)
 replace c12 := fun W (hW : New w6 W) => c12 W (Keep.new k6 hW)
 replace c13 := fun W (hW : New w6 W) => c13 W (Keep.new k6 hW)
 replace c14 := fun W (hW : New w6 W) => c14 W (Keep.new k6 hW)
 replace q5 := fun W (hW : New w6 W) => q5 W (Keep.new k6 hW)
 refine hold_step (i := 81) (by kernel_rfl) rfl rfl (fun K hK => ?_)
 go_simp
 refine (HI.out _ (New.refl _)).mono ?_
 rintro e w7 ⟨⟨A7, c7', rfl, o7⟩, k7⟩; have q7 := fun W (hW : New w7 W) => run_str (c := c7') (Row.new (Row.of_own o7) hW); replace o7 := Lib.hid o7
 go_wp2_with fail
 refine hK.out _ _ k7 ?_
 clear hK K
 try simp only [Act.put, ly1, ly2, ly3, ly4, ly5, ly6]
 replace n0 := Keep.new n0 k7
 replace c6 := fun W (hW : New w7 W) => c6 W (Keep.new k7 hW)
 replace c7 := fun W (hW : New w7 W) => c7 W (Keep.new k7 hW)
 replace c9 := fun W (hW : New w7 W) => c9 W (Keep.new k7 hW)
 replace c12 := fun W (hW : New w7 W) => c12 W (Keep.new k7 hW)
 replace c13 := fun W (hW : New w7 W) => c13 W (Keep.new k7 hW)
 replace c14 := fun W (hW : New w7 W) => c14 W (Keep.new k7 hW)
 replace q5 := fun W (hW : New w7 W) => q5 W (Keep.new k7 hW)
 refine take1 82 ?_
 refine take1 83 ?_
 refine take1 84 ?_
 refine take1 85 ?_
 refine wpAnyH_done (by kernel_rfl) ?_ _
 go_wp2_with fail
 go_ret
 exact ⟨rfl, n0⟩
end Go.Proofs.YtajnkbfcnmajoaaGreatDoor
