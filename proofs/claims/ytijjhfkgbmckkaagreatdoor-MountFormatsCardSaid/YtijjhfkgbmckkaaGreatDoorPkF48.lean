/-
  PROVED HERE: texts that belong together, one behind the other; what each proves, and under which conditions, its own opening remark says: Known22, Plan19, Super19, Sized22.
-/
import Derived.SizedLaws
import Derived.Test.YtijjhfkgbmckkaaGreatDoorPkF47
/-
  PROVED HERE: law22.known answers true.
-/
namespace Go.Proofs.YtijjhfkgbmckkaaGreatDoor
open Go.RowKit
set_option maxRecDepth 100000 in
set_option maxHeartbeats 2000000 in
theorem known22_any (w : World) : Calls Tryz.prog 22 #[] w fun e w' => e = .returned (.bool true) ∧ New w w' := by
 have hok : Cols.Ok ⟨1, 2, 3⟩ := ⟨⟨by decide, by decide, by decide⟩, by decide, by decide, by decide⟩
 have HOK := Lib.hid hok
 have HBG := Lib.hid (fun W => begin22_any 64 (by decide) (by decide) ⟨1, 2, 3⟩ ⟨1, 2, 3⟩ ⟨1, 2, 3⟩ hok hok hok W)
 have HDN := Lib.hid (fun W => dnew_any 64 (by decide) (by decide) W)
 clear hok
 go_enter Tryz.func22, Tryz.ntmps22
 go_wp2_with fail
 refine (HBG.out _).mono ?_
 rintro e w1 ⟨k1, bw, q1, bs, B, c, bl, br, kb, br2, I, ci, H, hc, rfl, hbw, hx, -, hst, -⟩
 have H1 := Lib.hid (And.intro k1 (And.intro hbw (And.intro hx hst)))
 clear HBG k1 hbw hx hst
 go_wp2_with fail
 refine (HDN.out _).mono ?_
 rintro e w2 ⟨⟨q, rfl, hq, hd1⟩, k2⟩
 have HC2 := Lib.hid (Clean.of hd1)
 have H2 := Lib.hid k2
 clear hq hd1 k2 HDN
 have HMB := Lib.hid (mmount_bad (k := 64) HC2.out (by rw [List.length_replicate]) (by rw [List.take_replicate]; exact superOf_nought))
 go_wp2_with fail
 refine HMB.out.mono ?_
 rintro e w3 ⟨rfl, k3⟩
 have N3 := H1.out.1.new (H2.out.new k3)
 have k4 := (H2.out.new k3).alloc (.cells foundZero 59)
 have X4 := k4.blockAt H1.out.2.2.1 trivial
 have S4 := H1.out.2.2.2.new k4
 have N4 := H1.out.1.new k4
 clear k3 HMB
 go_upto_region 6 with fail
 change Code.wp _ _ _ _ (w3.alloc (.cells foundZero 59))
 generalize w3.alloc (.cells foundZero 59) = w4 at *
 have HN4 := Lib.hid N4
 have x1 : ∀ W, New w4 W → W.cell? ⟨bw, 1, none⟩ = some (.pointer (some ⟨bs, 0, none⟩)) := fun W h => h.cell_some (cellOf X4 (k := 1) rfl) trivial
 have x7 : ∀ W, New w4 W → W.cell? ⟨bw, 7, none⟩ = some (.int .u64 2) := fun W h => h.cell_some (cellOf X4 (k := 7) rfl) trivial
 have x10 : ∀ W, New w4 W → W.cell? ⟨bw, 10, none⟩ = some (.int .i64 0) := fun W h => h.cell_some (cellOf X4 (k := 10) rfl) trivial
 have S4' : StateAt w4 c ⟨1, 2, 3⟩ bs B stateNew := S4
 have HSV : Hid (∀ W, New w4 W → Calls Tryz.prog 33 #[.pointer (some ⟨bs, 0, none⟩)] W fun e w' => (∃ A' c', e = .returned (.slice A' 51 c') ∧ OwnB w' W.heap.size 5 A' 51 c' (stBytes stateNew)) ∧ New W w') := Lib.hid fun W h => by
  have := stsave_any (S4'.new h) stateNew_ok
  rw [stNew_length] at this
  exact this
 have HRS : Hid (∀ W b c', RStateAt W c' ⟨1, 2, 3⟩ b rstateNew → Calls Tryz.prog 19 #[.pointer (some ⟨b, 0, none⟩)] W fun e w' => (∃ A' c', e = .returned (.slice A' 51 c') ∧ OwnB w' W.heap.size 5 A' 51 c' (stBytes stateNew)) ∧ New W w') := Lib.hid fun W b c' h => by
  have := rstsave_new h
  unfold BytesRet at this
  rw [stNew_length] at this
  exact this
 obtain ⟨sb, hsb⟩ : ∃ sb, sb = stBytes stateNew := ⟨_, rfl⟩
 rw [← hsb] at HSV HRS
 have HV : Hid (∀ W b A9 c9, OwnB W b 5 A9 51 c9 sb → ∀ W', New W W' → (convert 22 9 (.slice A9 51 c9)).run Tryz.prog W' = .ok (.string (strOf sb)) W') :=
  Lib.hid fun W b A9 c9 ho W' h => run_str (Row.of_own (Own.keepNew ho h))
 have hss : (sb == sb) = true := by simp
 clear S4 S4' X4 k4 N3 N4 hsb HC2 H1 H2
 refine hold_begin (by kernel_rfl) ?_
 have n0 : New w4 w4.drew := (New.refl w4).drew
 replace x1 := fun W (hW : New w4.drew W) => x1 W (Keep.new n0 hW)
 replace x7 := fun W (hW : New w4.drew W) => x7 W (Keep.new n0 hW)
 replace x10 := fun W (hW : New w4.drew W) => x10 W (Keep.new n0 hW)
 refine take1 0 ?_
 refine take1 1 ?_
 refine take1 2 ?_
 refine take1 3 ?_
 refine take1 4 ?_
 refine take1 5 ?_
 refine take1 6 ?_
 refine take1 7 ?_
 refine take1 8 ?_
 refine take1 9 ?_
 refine take1 10 ?_
 refine take1 11 ?_
 refine take1 12 ?_
 refine take1 13 ?_
 refine take1 14 ?_
 refine take1 15 ?_
 refine take1 16 ?_
 refine take1 17 ?_
 refine take1 18 ?_
 refine take1 19 ?_
 refine take1 20 ?_
 refine take1 21 ?_
 refine take1 22 ?_
 refine hold_step (i := 23) (by kernel_rfl) rfl rfl (fun K hK => ?_)
 go_simp
 refine (HSV.out _ n0).mono ?_
 rintro e w5 ⟨⟨A5, c5, rfl, o5⟩, k5⟩; have v5 := HV.out w5 _ A5 c5 o5; clear o5
 go_wp2_with fail
 refine hK.out _ _ k5 ?_
 clear hK K
 try simp only [Act.put, ly1, ly2, ly3, ly4, ly5, ly6]
 replace n0 := Keep.new n0 k5
 replace x1 := fun W (hW : New w5 W) => x1 W (Keep.new k5 hW)
 replace x7 := fun W (hW : New w5 W) => x7 W (Keep.new k5 hW)
 replace x10 := fun W (hW : New w5 W) => x10 W (Keep.new k5 hW)
 refine take1 24 ?_
 refine hold_step (i := 25) (by kernel_rfl) rfl rfl (fun K hK => ?_)
 go_simp
 refine (rstnew_any (fun _ => 0) ⟨1, 2, 3⟩ HOK.out _).mono ?_
 rintro e w6 ⟨b6, c6, rfl, k6, z6, x6, s6⟩; have H6 := Lib.hid s6; clear z6 x6 s6
 go_wp2_with fail
 refine hK.out _ _ k6 ?_
 clear hK K
 try simp only [Act.put, ly1, ly2, ly3, ly4, ly5, ly6]
 replace n0 := Keep.new n0 k6
 replace x1 := fun W (hW : New w6 W) => x1 W (Keep.new k6 hW)
 replace x7 := fun W (hW : New w6 W) => x7 W (Keep.new k6 hW)
 replace x10 := fun W (hW : New w6 W) => x10 W (Keep.new k6 hW)
 replace v5 := fun W (hW : New w6 W) => v5 W (Keep.new k6 hW)
 refine hold_step (i := 26) (by kernel_rfl) rfl rfl (fun K hK => ?_)
 go_simp
 refine (HRS.out _ _ _ H6.out).mono ?_
 rintro e w7 ⟨⟨A7, c7, rfl, o7⟩, k7⟩; have v7 := HV.out w7 _ A7 c7 o7; clear o7
 go_wp2_with fail
 refine hK.out _ _ k7 ?_
 clear hK K
 try simp only [Act.put, ly1, ly2, ly3, ly4, ly5, ly6]
 replace n0 := Keep.new n0 k7
 replace x1 := fun W (hW : New w7 W) => x1 W (Keep.new k7 hW)
 replace x7 := fun W (hW : New w7 W) => x7 W (Keep.new k7 hW)
 replace x10 := fun W (hW : New w7 W) => x10 W (Keep.new k7 hW)
 replace v5 := fun W (hW : New w7 W) => v5 W (Keep.new k7 hW)
 refine take1 27 ?_
 refine take1 28 ?_
 refine take1 29 ?_
 refine take1 30 ?_
 refine wpAnyH_done (by kernel_rfl) ?_ _
 go_wp2_with fail
 go_ret
 exact ⟨rfl, HN4.out.new n0⟩
/-
  PROVED HERE: what the document's Right and Room answer of a plan that is right; condition: the plan is right.
-/
set_option maxRecDepth 100000 in
theorem right19_any {s p g : Int} (h : planRight s p g = true) (w : World) :
  Calls Tryz.prog 60 #[.agg #[.int .i64 s, .int .i64 p, .int .i64 g]] w fun e w' => e = .returned (.bool true) ∧ New w w' := by
 have hb := heap_alloc_new w (.cells #[.int .i64 s, .int .i64 p, .int .i64 g] 36)
 have kA : New w (w.alloc (.cells #[.int .i64 s, .int .i64 p, .int .i64 g] 36)) := (New.refl w).alloc _
 have hi := planRight_iff.1 h
 have HO := fun W => Lib.hid (of19_any s (by omega) W)
 rw [planOf_mid hi.1 hi.2.1, ← hi.2.2.1] at HO
 dsimp only at HO
 rw [show (s - 1 - 2 * p) / 8 = g from by omega] at HO
 clear h hi
 go_enter Tryz.func60, Tryz.ntmps60
 go_upto_region 1 with fail
 generalize w.alloc _ = w1 at *
 have c0 := cellOf hb (k := 0) rfl
 have HBB := Lib.hid hb
 clear hb
 go_wp2_with fail
 refine (HO _).out.mono ?_
 rintro e w' ⟨rfl, k1⟩
 go_upto_region 2 with fail
 have k2 := k1.alloc (.cells #[.int .i64 s, .int .i64 p, .int .i64 g] 36)
 have hb1 := k2.blockAt HBB.out trivial
 have hb2 := heap_alloc_new w' (.cells #[.int .i64 s, .int .i64 p, .int .i64 g] 36)
 generalize w'.alloc _ = w2 at *
 generalize w'.heap.size = g2 at *
 obtain ⟨y0, y1, y2⟩ := cs3 hb1
 obtain ⟨d0, d1, d2⟩ := cs3 hb2
 have HK := Lib.hid (kA.new k2)
 clear hb1 hb2 kA k1 k2 HO c0
 go_wp2_with fail
 all_goals go_ret
 all_goals refine ⟨?_, HK.out⟩
 all_goals simp_all
set_option maxRecDepth 100000 in
theorem room20_any {s p g : Int} (h : planRight s p g = true) (w : World) :
  Calls Tryz.prog 64 #[.agg #[.int .i64 s, .int .i64 p, .int .i64 g]] w fun e w' => e = .returned (.int .i64 (128 * p - 94)) ∧ New w w' := by
 have hb := heap_alloc_new w (.cells #[.int .i64 s, .int .i64 p, .int .i64 g] 36)
 have kA : New w (w.alloc (.cells #[.int .i64 s, .int .i64 p, .int .i64 g] 36)) := (New.refl w).alloc _
 obtain ⟨hs0, hs1, hp0, hp1, _, _, _⟩ := planRight_bounds h
 have HR := fun W => Lib.hid (right19_any h W)
 have q0 : IntKind.i64.wrap (128 * p) = 128 * p := IntWalk.i64_in _ (by omega)
 have q1 : IntKind.i64.wrap (128 * p - 94) = 128 * p - 94 := IntWalk.i64_in _ (by omega)
 have q2 : decide (128 * p < 94) = false := decide_eq_false (by omega)
 clear h hs0 hs1 hp0 hp1
 go_enter Tryz.func64, Tryz.ntmps64
 go_upto_region 1 with fail
 generalize w.alloc _ = w1 at *
 obtain ⟨y0, y1, y2⟩ := cs3 hb
 have HBB := Lib.hid hb
 clear hb
 go_wp2_with fail
 refine (HR _).out.mono ?_
 rintro e w' ⟨rfl, k1⟩
 have c1 := cellOf (k1.blockAt HBB.out trivial) (k := 1) rfl
 have HK := Lib.hid (kA.new k1)
 clear k1 kA HR
 go_wp2_with fail
 go_ret
 exact ⟨rfl, HK.out⟩
/-
  PROVED HERE: what the document's Super answers; condition: sectors as they may be, an id of 16 bytes.
-/
set_option maxRecDepth 100000 in
set_option maxHeartbeats 1000000 in
theorem super19_any {n : Int} (h0 : 64 ≤ n) (h1 : n ≤ 4096) {D : Nat → Prop} {A : Option Addr} {c : Nat} {id : List UInt8} {w : World} (hB : Bs w D A 16 id) :
  Calls Tryz.prog 15 #[.int .i64 n, .slice A 16 c] w fun e w' => (∃ A' c', e = .returned (.tuple #[.slice A' 128 c', .int .i64 0]) ∧ OwnB w' w.heap.size 5 A' 128 c' (superBytes n id)) ∧ New w w' := by
 have HO := Lib.hid (of19_any n (by omega) w)
 rw [planOf_mid h0 h1] at HO
 dsimp only at HO
 generalize n / 4 = p at *
 generalize (n - 1 - 2 * p) / 8 = g at *
 have hil := hB.len
 have HBB := Lib.hid hB
 have HSL := Lib.hid (sup24_length (n := n) hil)
 have HLN := Lib.hid (superBytes_length (n := n) hil)
 have HS : Hid (superBytes n id = sup24 n id ++ be4 (crcSum (sup24 n id)) ++ List.replicate 100 0) := Lib.hid rfl
 have HS24 : Hid (sup24 n id = [87, 79, 82, 77] ++ beI 2 1 ++ beI 2 n ++ id) := Lib.hid rfl
 clear hB h0 h1 hil
 go_enter Tryz.func15, Tryz.ntmps15
 go_wp2_with fail
 refine HO.out.mono ?_
 rintro e w1 ⟨rfl, k1⟩
 go_upto_region 4 with fail
 have k2 := k1.alloc (.cells #[.int .i64 n, .int .i64 p, .int .i64 g] 36)
 generalize w1.alloc (.cells #[.int .i64 n, .int .i64 p, .int .i64 g] 36) = w2 at *
 have HK2 := Lib.hid k2
 clear k1 k2 HO
 obtain ⟨w3, e0, hlit, n00⟩ := worm_conv w2
 have HK3 := Lib.hid (HK2.out.new n00)
 clear n00
 go_wp2_with fail
 refine (short4_any _ _ 4 4 _ 1 w3 hlit (by decide)).mono ?_
 rintro e w4 ⟨⟨A4, c4, rfl, o4⟩, k4⟩
 rw [show ([87, 79, 82, 77] ++ beI 2 1 : List UInt8).length = 6 from rfl] at o4 ⊢
 have HK4 := Lib.hid (HK3.out.new k4)
 clear k4 hlit
 go_wp2_with fail
 refine (short4_any _ A4 6 c4 _ n w4 (Row.of_own o4) (by decide)).mono ?_
 rintro e w5 ⟨⟨A5, c5, rfl, o5⟩, k5⟩
 have l5 : ([87, 79, 82, 77] ++ beI 2 1 ++ beI 2 n : List UInt8).length = 8 := by rw [List.length_append, beI_length]; rfl
 rw [l5] at o5 ⊢
 have HK5 := Lib.hid (HK4.out.new k5)
 have hbp := HBB.out.new HK5.out
 have ob5 := own_base (base := w4.heap.size) o5 (Nat.le_refl _)
 have hs5 : w4.heap.size ≤ w5.heap.size := k5.size
 have hk5 := Lib.hid (Keep.of_new (D := fun b => b < w4.heap.size) k5)
 clear o4 o5 k5 l5
 go_wp2_with (at_builtin; refine app_bytes _ rfl _ _ rfl w4.heap.size A5 8 c5 _ rfl ob5 _ A 16 c id rfl hbp (by decide) hs5 ?_; intro A6 c6 w6 o6 hg6 hbk6)
 have HK6 := Lib.hid (((hk5.out.grown hg6 (fun j hj hd => absurd hd (by have := (own_lt ob5 j hj).1; show ¬ j < w4.heap.size; omega)))))
 rw [← HS24.out] at o6
 have hsl := HSL.out
 generalize hbs : sup24 n id = bs at *
 have HBS := Lib.hid hbs
 clear ob5 hbp hg6 hbk6 hk5 hbs e0
 refine (sum3_any _ A6 (8 + 16) c6 bs w6 (Row.of_own o6) (by decide)).mono ?_
 rintro e w' ⟨rfl, rfl⟩
 generalize crcSum bs = cs at *
 go_wp2_with fail
 refine (sum4_any _ A6 (8 + 16) c6 bs cs w6 (Row.of_own o6) (by decide)).mono ?_
 rintro e w7 ⟨⟨A7, c7, rfl, o7⟩, k7⟩
 have l7 : (bs ++ be4 cs).length = 28 := by rw [List.length_append, hsl]; rfl
 rw [l7] at o7 ⊢
 have HK7 := Lib.hid (HK6.out.new k7)
 have ob7 := own_base (base := w4.heap.size) o7 HK6.out.size
 have hs7 : w4.heap.size ≤ w7.heap.size := HK7.out.size
 clear o6 o7 k7 HK6
 go_wp2_with (at_builtin; refine app_zeros _ rfl _ _ rfl w4.heap.size A7 28 c7 100 _ rfl ob7 rfl (by decide) hs7 ?_; intro A8 c8 w8 o8 hg8 hbk8)
 have hfin := HK7.out.grown hg8 (fun j hj hd => absurd hd (by have := (own_lt ob7 j hj).1; show ¬ j < w4.heap.size; omega))
 have hz : w.heap.size ≤ w4.heap.size := HK4.out.size
 have hK : New w w8 := (Keep.trans2 (D := fun b => b < w.heap.size) (Keep.of_new HK4.out) hfin (fun i hi _ => Nat.lt_of_lt_of_le hi hz)).toNew (fun i hi => hi)
 have ho := own_base (base := w.heap.size) o8 hz
 rw [← HS.out] at ho
 refine bodyPost_ret (v := .tuple #[.slice A8 128 c8, .int .i64 0]) (by simp [results, Tryz.results15, go_sem]) rfl ?_
 exact ⟨⟨A8, c8, rfl, ho⟩, hK⟩
end Go.Proofs.YtijjhfkgbmckkaaGreatDoor
/-
  PROVED HERE: what an argument's size in bytes tells of a slice of bytes; no condition; no program is in sight but for numbers of types.
-/
namespace Go.Proofs.YtijjhfkgbmckkaaGreatDoor
open Go.RowKit Go.Deep
section
variable {H : Type} {enc : TypeId × Value → H} {W : World} {base : Nat} {sp : Nat → Bool} {held : Bool} {fuel : Nat} {x : DataW H × List MemPlace}
theorem slice_weight22 {P : Program} {t e : TypeId} {A : Option Addr} {n c : Nat} (ht : P.underlying t = some (.slice e)) (h : DataW.trod enc P W base sp held fuel t [.slice A n c] = some x) (hw : ∀ k ∈ x.1.weights P t, k ≤ reachBytes) : n * P.bytesOf e ≤ reachBytes := by
 rcases open_slice ht h with ⟨hc, _⟩ | ⟨a, len, cap, m, nn, D, Pl, hc, _, hl, hm, hmm, hx, _⟩
 ·injection hc with hc
  injection hc with _ h2
  rw [h2]; simp [reachBytes]
 ·injection hc with hc
  injection hc with _ h2
  subst hx
  subst h2
  have := hw ((n + (m - n)) * P.bytesOf e) (by simp [DataW.weights, ht])
  exact Nat.le_trans (Nat.mul_le_mul_right _ (by omega)) this
theorem bytes_small {A : Option Addr} {n c : Nat} (h : DataW.trod enc Tryz.prog W base sp held fuel 22 [.slice A n c] = some x) (hw : ∀ k ∈ x.1.weights Tryz.prog 22, k ≤ reachBytes) : n ≤ 140737488351232 := by
 have hb : Tryz.prog.bytesOf 5 = 1 := by kernel_rfl
 have hs := slice_weight22 Tryz.underlying22 h hw
 rw [hb, Nat.mul_one] at hs
 exact hs
end
end Go.Proofs.YtijjhfkgbmckkaaGreatDoor
