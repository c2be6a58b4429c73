/-
  PROVED HERE: what permafrostref20.Decode answers of a point's bytes; condition: a mark that may be, and that fits.
-/
import Derived.Test.YtijjhfkgbmckkaaGreatDoorPkF48
namespace Go.Proofs.YtijjhfkgbmckkaaGreatDoor
open Go.RowKit
set_option maxRecDepth 100000 in
set_option maxHeartbeats 4000000 in
theorem rdecode_any {s p g : Int} {m : MarkP} (hr : planRight s p g = true) (hm : MarkOk p g m) (hfit : (m.data.length : Int) ≤ 128 * p - 94) {D : Nat → Prop} {A : Option Addr} {n c : Nat} {w : World} (hB : Bs w D A n (pointBytes p m)) (hn : (n : Int) = 128 * p) (hc : n ≤ c) (hc9 : c ≤ 9223372036854775807) :
  Calls Tryz.prog 20 #[.agg #[.int .i64 s, .int .i64 p, .int .i64 g], .slice A n c] w fun e w' => (∃ v, e = .returned (.tuple #[v, .int .i64 0]) ∧ MarkAt w w' m v) ∧ New w w' := by
 have hpb := planRight_bounds hr
 obtain ⟨g', q', s', a', b', r1, r2, r3, r4, r5, r6, r7, r8, r9, hP⟩ := point_parts hm (by omega) (by omega)
 obtain ⟨z, hz⟩ : ∃ z, z = (128 * p).toNat - 94 - m.data.length := ⟨_, rfl⟩
 rw [← hz] at hP
 have HR := fun W => Lib.hid (right19_any hr W)
 have HO := fun W => Lib.hid (room20_any hr W)
 obtain ⟨bs, hbs⟩ : ∃ bs, bs = pointBytes p m := ⟨_, rfl⟩
 rw [← hbs] at hB hP
 obtain ⟨hg1, hg2⟩ := hm.gen
 obtain ⟨hq1, hq2⟩ := hm.seq
 obtain ⟨hs1, hs2⟩ := hm.segs
 have hhd := hm.head
 obtain ⟨gen, seq, segs, head, data⟩ := m
 dsimp only at *
 obtain ⟨dn, hdn⟩ : ∃ dn, dn = data.length := ⟨_, rfl⟩
 have eg := hP.hg
 have eq := hP.hq
 have es := hP.hs
 have e4s := hP.sum4
 have ehs := hP.hash
 have ebd := hP.body
 dsimp only at eg eq es ehs ebd
 obtain ⟨cs, hcs⟩ : ∃ cs, cs = crcSum (bs.take 58) := ⟨_, rfl⟩
 rw [← hcs] at e4s
 have hlow : 94 + dn ≤ n := by omega
 have hdl : dn ≤ 200000 := by omega
 have hzn : n - (94 + dn) = z := by omega
 have hn2 : n ≤ 200000 := by omega
 have hn94 : 94 ≤ n := by omega
 have hl := hB.len
 have HCT := Lib.hid (hB.cutTo (hi := 58) (by omega))
 have HCK := Lib.hid (show Bs w D (Option.map (fun x => x.add 58) A) 4 (be4 cs) by rw [← e4s]; exact (hB.from_ (l := 58) (by omega)).cutTo (hi := 4) (by omega))
 have HHK := Lib.hid (show Bs w D (Option.map (fun x => x.add 62) A) 32 (shaSum data) by rw [← ehs]; exact (hB.from_ (l := 62) (by omega)).cutTo (hi := 32) (by omega))
 have HBD := Lib.hid (show Bs w D (Option.map (fun x => x.add 94) A) dn data by rw [hdn, ← ebd]; rw [show (List.take data.length (List.drop 94 bs)).length = data.length from by rw [ebd]]; exact (hB.from_ (l := 94) (by omega)).cutTo (hi := data.length) (by omega))
 have HZC : Hid (∀ j, 94 + dn ≤ j → (hj : j < bs.length) → bs[j] = 0) := Lib.hid fun j h1 hj => by
  have htl := hP.tail
  dsimp only at htl
  rw [← hdn] at htl
  have h2 : bs[j]? = (bs.drop (94 + dn))[j - (94 + dn)]? := by rw [List.getElem?_drop, show 94 + dn + (j - (94 + dn)) = j from by omega]
  rw [htl, List.getElem?_replicate, if_pos (by omega), List.getElem?_eq_getElem hj] at h2
  injection h2
 have HP := Lib.hid hP
 have HBB := Lib.hid hB
 have HCS := Lib.hid hcs
 have HDN := Lib.hid hdn
 have HHD := Lib.hid hhd
 have HEQ := Lib.hid (And.intro eg (And.intro eq es))
 have HL := Lib.hid hl
 have i1 : (58 : Int) ≤ c := by omega
 have i2 : (62 : Int) ≤ c := by omega
 have i3 : ¬ c = 58 := by omega
 have i4 : (94 : Int) ≤ c := by omega
 have i5 : ¬ c = 62 := by omega
 have i6 : ¬ c = 94 := by omega
 have i7 : (94 : Int) + (dn : Int) ≤ c := by omega
 have q1 : IntKind.i64.wrap (128 * p) = 128 * p := IntWalk.i64_in _ (by omega)
 have q2 : IntKind.u64.wrap (128 * p - 94) = 128 * p - 94 := by rw [IntKind.wrap_u64]; omega
 have q3 : IntKind.i64.wrap (dn : Int) = (dn : Int) := IntWalk.i64_in _ (by omega)
 have q4 : IntKind.i64.wrap (94 + (dn : Int)) = 94 + (dn : Int) := IntWalk.i64_in _ (by omega)
 have d0 : ((n : Int) != 128 * p) = false := by simp [hn]
 have d1 : decide (128 * p - 94 < (dn : Int)) = false := decide_eq_false (by omega)
 have d2 : decide (gen < 1) = false := decide_eq_false (by omega)
 have d3 : decide (1099511627776 < gen) = false := decide_eq_false (by omega)
 have d4 : decide (1099511627776 < seq) = false := decide_eq_false (by omega)
 have d5 : decide (g < segs) = false := decide_eq_false (by omega)
 clear hr hm hP hB hbs hhd hpb hz hcs hdn eg eq es e4s ehs ebd hl hg1 hg2 hq1 hq2 hs1 hs2
 have kA := ((New.refl w).alloc (.cells #[.int .i64 s, .int .i64 p, .int .i64 g] 36)).alloc (.cells #[.int .u64 0, .int .u64 0, .int .i64 0, .slice none 0 0, .slice none 0 0] 44)
 have x1 := ((New.refl (w.alloc (.cells #[.int .i64 s, .int .i64 p, .int .i64 g] 36))).alloc (.cells #[.int .u64 0, .int .u64 0, .int .i64 0, .slice none 0 0, .slice none 0 0] 44)).blockAt (heap_alloc_new w (.cells #[.int .i64 s, .int .i64 p, .int .i64 g] 36)) trivial
 have x2 := heap_alloc_new (w.alloc (.cells #[.int .i64 s, .int .i64 p, .int .i64 g] 36)) (.cells #[.int .u64 0, .int .u64 0, .int .i64 0, .slice none 0 0, .slice none 0 0] 44)
 rw [show (w.alloc (.cells #[.int .i64 s, .int .i64 p, .int .i64 g] 36)).heap.size = w.heap.size + 1 from by simp] at x2
 go_enter Tryz.func20, Tryz.ntmps20
 go_upto_region 1 with fail
 generalize hgp : w.heap.size = gp at *
 generalize (w.alloc (.cells #[.int .i64 s, .int .i64 p, .int .i64 g] 36)).alloc (.cells #[.int .u64 0, .int .u64 0, .int .i64 0, .slice none 0 0, .slice none 0 0] 44) = w1 at *
 have HG := Lib.hid hgp
 obtain ⟨p0, p1, p2⟩ := cs3 x1
 have HX := Lib.hid (And.intro x1 x2)
 have HKA := Lib.hid kA
 clear x1 x2 kA hgp
 go_wp2_with fail
 refine (HR _).out.mono ?_
 rintro e w2 ⟨rfl, k2⟩
 replace HX := Lib.hid (And.intro (k2.blockAt HX.out.1 trivial) (k2.blockAt HX.out.2 trivial))
 replace HKA := Lib.hid (HKA.out.new k2)
 clear p0 p1 p2 k2 HR
 have p1 := cellOf HX.out.1 (k := 1) rfl
 go_upto_region 3 with fail
 clear p1
 have HSM : Hid (∀ W, New w2 W → Calls Tryz.prog 54 #[.slice A 58 c] W fun e w' => e = .returned (.int .u32 (wv cs)) ∧ New W w') :=
  Lib.hid fun W h => (sum3_any D A 58 c _ W (HCT.out.new (HKA.out.new h)) (by decide)).mono fun e w' ⟨h1, h2⟩ => ⟨by rw [HCS.out]; exact h1, h2 ▸ New.refl _⟩
 have HV : Hid (∀ W b A9 c9, OwnB W b 5 A9 ([] ++ be4 cs).length c9 ([] ++ be4 cs) → ∀ W', New W W' → (convert 22 9 (.slice A9 (be4 cs).length c9)).run Tryz.prog W' = .ok (.string (strOf (be4 cs))) W') :=
  Lib.hid fun W b A9 c9 ho W' h => run_str (Row.of_own (Own.keepNew ho h))
 have x0 : ∀ W, New w2 W → (convert 22 9 (.slice (Option.map (fun x => ({ block := x.block, off := x.off + 58 } : Addr)) A) 4 (c - 58))).run Tryz.prog W = .ok (.string (strOf (be4 cs))) W := fun W h => run_str (Row.new HCK.out (HKA.out.new h))
 have hss : (be4 cs == be4 cs) = true := by simp
 refine hold_begin (by kernel_rfl) ?_
 have n0 : New w2 w2.drew := (New.refl w2).drew
 replace x0 := fun W (hW : New w2.drew W) => x0 W (Keep.new n0 hW)
 refine take1 0 ?_
 refine take1 1 ?_
 refine take1 2 ?_
 refine take1 3 ?_
 refine take1 4 ?_
 refine hold_step (i := 5) (by kernel_rfl) rfl rfl (fun K hK => ?_)
 go_simp
 refine (HSM.out _ n0).mono ?_
 rintro e w3 ⟨rfl, k3⟩
 go_wp2_with fail
 refine hK.out _ _ k3 ?_
 clear hK K
 try simp only [Act.put, ly1, ly2, ly3, ly4, ly5, ly6]
 replace n0 := Keep.new n0 k3
 replace x0 := fun W (hW : New w3 W) => x0 W (Keep.new k3 hW)
 refine hold_step (i := 6) (by kernel_rfl) rfl rfl (fun K hK => ?_)
 go_simp
 refine (sum4_any (fun _ => True) none 0 0 [] _ _ (Row.nil _ _ _ _) (by decide)).mono ?_
 rintro e w4 ⟨⟨A2, c2, rfl, o2⟩, k4⟩; have v2 := HV.out w4 _ A2 c2 o2
 go_wp2_with fail
 refine hK.out _ _ k4 ?_
 clear hK K
 try simp only [Act.put, ly1, ly2, ly3, ly4, ly5, ly6]
 replace n0 := Keep.new n0 k4
 replace x0 := fun W (hW : New w4 W) => x0 W (Keep.new k4 hW)
 refine take1 7 ?_
 refine take1 8 ?_
 refine wpAnyH_done (by kernel_rfl) ?_ _
 have HX4 := Lib.hid (And.intro (n0.blockAt HX.out.1 trivial) (n0.blockAt HX.out.2 trivial))
 have HKA4 := Lib.hid (HKA.out.new n0)
 clear hss x0 v2 HV HSM o2 k3 k4 n0 HX HKA
 have hR5 := Rd4.made (HBB.out.new HKA4.out) hc hc9 (by omega)
 have hN5 : New w4 (w4.alloc (.cells #[.slice A n c, .int .i64 0, .int .i64 0] 118)) := (New.refl w4).alloc _
 go_upto_region 6 with fail
 generalize w4.alloc (.cells #[.slice A n c, .int .i64 0, .int .i64 0] 118) = w5 at *
 generalize hrpe : w4.heap.size = rp at *
 have hgr : gp + 1 < rp := by rw [← hrpe]; exact (Array.getElem?_eq_some_iff.1 HX4.out.2).1
 have HX5 := Lib.hid (And.intro (hN5.blockAt HX4.out.1 trivial) (hN5.blockAt HX4.out.2 trivial))
 have HKA5 := Lib.hid (HKA4.out.new hN5)
 have hwrp : w.heap.size ≤ rp := by rw [← hrpe]; exact HKA4.out.size
 have HR1 := Lib.hid (r4long_any rp bs ⟨bs, 0⟩ w5 hR5)
 rw [HP.out.e1] at HR1
 dsimp only at HR1
 rw [HEQ.out.1] at HR1
 have HE := Lib.hid (Keep.refl (fun b => b ≠ rp) w5)
 clear hR5 hN5 hrpe HX4 HKA4
 go_wp2_with fail
 refine HR1.out.mono ?_
 rintro e w6 ⟨rfl, hR, k6⟩
 replace HE := Lib.hid (HE.out.trans k6)
 have HR2 := Lib.hid (r4long_any rp bs ⟨r1, 0⟩ w6 hR)
 rw [HP.out.e2] at HR2
 dsimp only at HR2
 rw [HEQ.out.2.1] at HR2
 clear HR1 k6 hR
 go_wp2_with fail
 refine HR2.out.mono ?_
 rintro e w7 ⟨rfl, hR, k7⟩
 replace HE := Lib.hid (HE.out.trans k7)
 have HR3 := Lib.hid (r4short_any rp bs ⟨r2, 0⟩ w7 hR)
 rw [HP.out.e3] at HR3
 dsimp only at HR3
 rw [HEQ.out.2.2] at HR3
 clear HR2 k7 hR
 go_wp2_with fail
 refine HR3.out.mono ?_
 rintro e w8 ⟨rfl, hR, k8⟩
 replace HE := Lib.hid (HE.out.trans k8)
 have HR4 := Lib.hid (r4raw_any rp bs ⟨r3, 0⟩ 32 w8 hR (by decide) (by decide))
 have e4 := HP.out.e4
 dsimp only at e4
 rw [e4] at HR4
 dsimp only at HR4
 rw [HHD.out] at HR4
 have hr8 := hR.lt
 clear HR3 k8 hR e4
 go_wp2_with fail
 refine HR4.out.mono ?_
 rintro e w9 ⟨⟨A4, c4, rfl, o4⟩, hR, k9⟩
 replace HE := Lib.hid (HE.out.trans k9)
 have HO4 := Lib.hid o4
 have HRD := Lib.hid hR
 clear HR4 k9 hR o4
 go_upto_region 7 with fail
 have kM := (New.refl w9).alloc (.cells #[.int .u64 gen, .int .u64 seq, .int .i64 segs, .slice A4 32 c4, .slice none 0 0] 44)
 have xM := heap_alloc_new w9 (.cells #[.int .u64 gen, .int .u64 seq, .int .i64 segs, .slice A4 32 c4, .slice none 0 0] 44)
 have hgm : rp < w9.heap.size := HRD.out.lt
 generalize w9.alloc (.cells #[.int .u64 gen, .int .u64 seq, .int .i64 segs, .slice A4 32 c4, .slice none 0 0] 44) = w10 at *
 generalize hgm0 : w9.heap.size = gm at *
 have HXM := Lib.hid xM
 replace HE := Lib.hid (HE.out.new kM)
 have HO4' : Hid (Bs w10 (fun b => w8.heap.size ≤ b ∧ b < gm) A4 32 head) := Lib.hid (((Row.of_own HO4.out).imp (E := fun b => w8.heap.size ≤ b ∧ b < gm) fun b hb hd => ⟨hd, by rw [← hgm0]; exact hb⟩).new kM)
 have HC4 := Lib.hid (And.intro (own_cap HO4.out) (own_capMax HO4.out))
 have HR5 := Lib.hid (r4long_any rp bs ⟨r4, 0⟩ w10 (HRD.out.keep kM))
 have e5 := HP.out.e5
 dsimp only at e5
 rw [e5] at HR5
 dsimp only at HR5
 rw [← HDN.out] at HR5
 clear HO4 HRD kM xM e5
 go_wp2_with fail
 refine HR5.out.mono ?_
 rintro e w11 ⟨rfl, hR, k11⟩
 replace HE := Lib.hid (HE.out.trans k11)
 replace HXM := Lib.hid ((k11.block gm (Array.getElem?_eq_some_iff.1 HXM.out).1 (by show gm ≠ rp; omega)).trans HXM.out)
 replace HO4' := Lib.hid (HO4'.out.keep k11 fun b _ hb => by show b ≠ rp; omega)
 have HXP : Hid (w11.heap[gp]? = some (.cells #[.int .i64 s, .int .i64 p, .int .i64 g] 36 (0, 0)) ∧ w11.heap[gp + 1]? = some (.cells #[.int .u64 0, .int .u64 0, .int .i64 0, .slice none 0 0, .slice none 0 0] 44 (0, 0)) ∧ New w w11) := Lib.hid ⟨(HE.out.block gp (Array.getElem?_eq_some_iff.1 HX5.out.1).1 (by show gp ≠ rp; omega)).trans HX5.out.1, (HE.out.block (gp + 1) (Array.getElem?_eq_some_iff.1 HX5.out.2).1 (by show gp + 1 ≠ rp; omega)).trans HX5.out.2, HKA5.out.trans2 HE.out fun b hb _ => by show b ≠ rp; omega⟩
 have HO11 := HO w11
 obtain ⟨p0, p1, p2⟩ := cs3 HXP.out.1
 obtain ⟨m0, m1, m2⟩ := cs3 HXM.out
 clear HR5 k11 hR HX5 HKA5 HE HO
 go_wp2_with fail
 refine HO11.out.mono ?_
 rintro e w12 ⟨rfl, k12⟩
 replace HXM := Lib.hid (k12.blockAt HXM.out trivial)
 replace HO4' := Lib.hid (HO4'.out.new k12)
 replace HXP := Lib.hid (And.intro (k12.blockAt HXP.out.1 trivial) (And.intro (k12.blockAt HXP.out.2.1 trivial) (HXP.out.2.2.new k12)))
 clear HO11 k12 p0 p1 p2 m0 m1 m2
 go_upto_region 10 with fail
 have kE := (New.refl w12).alloc (.cells #[] 5)
 obtain ⟨gg, hgg, ho⟩ := emp_made w12 (base := w12.heap.size) (Nat.le_refl _) 5 (size := 1) (by decide)
 injection hgg with hgg
 injection hgg with hgg
 injection hgg with hgg
 subst hgg
 have hoo : OwnB (w12.alloc (.cells #[] 5)) w12.heap.size 5 (some ⟨w12.heap.size, 0, none⟩) 0 0 [] := ho
 have hrw : Bs (w12.alloc (.cells #[] 5)) D (Option.map (fun x => ({ block := x.block, off := x.off + 94 } : Addr)) A) (94 + dn - 94) data := by
  rw [show 94 + dn - 94 = dn from by omega]
  exact Row.new HBD.out (HXP.out.2.2.new kE)
 have hb12 : 0 + (94 + dn - 94) ≤ 140737488355328 := by omega
 have hz12 : w12.heap.size ≤ (w12.alloc (.cells #[] 5)).heap.size := kE.size
 clear ho
 go_wp2_with (at_builtin; refine app_bytes _ rfl _ _ rfl w12.heap.size (some ⟨w12.heap.size, 0, none⟩) 0 0 [] rfl hoo D _ (94 + dn - 94) (c - 94) data rfl hrw hb12 hz12 ?_; intro A14 c14 w14 o14 hg14 hbk14; simp only [show 0 + (94 + dn - 94) = dn from by omega] at o14 ⊢; have kG := kE.grown hg14 (fun j hj _ => (Option.some.inj (show some w12.heap.size = some j from hj)) ▸ Nat.le_refl _); have hX14 := kG.blockAt HXM.out trivial; have m4 := cellOf hX14 (k := 4) rfl; have z4 := frozenOf hX14 4; clear hrw hb12 hg14 hbk14 hoo kE)
 have xS := setCell_block hX14 4 (.slice A14 dn c14)
 have kS := (Keep.refl (fun b => b ≠ gm) w14).setCell (p := ⟨gm, 4, none⟩) (fun hd => absurd rfl hd) (.slice A14 dn c14)
 have hgm12 : gm < w12.heap.size := (Array.getElem?_eq_some_iff.1 HXM.out).1
 have HO14 : Hid (Bs (w14.setCell ⟨gm, 4, none⟩ (.slice A14 dn c14)) (fun b => gm < b) A14 dn data) := Lib.hid (by
  have h1 := (Row.of_own o14).imp (E := fun b => gm < b) fun b hb _ => by omega
  exact h1.keep kS fun b _ hb => by show b ≠ gm; omega)
 have HC14 := Lib.hid (And.intro (own_cap o14) (own_capMax o14))
 have HXP15 : Hid ((w14.setCell ⟨gm, 4, none⟩ (.slice A14 dn c14)).heap[gp + 1]? = some (.cells #[.int .u64 0, .int .u64 0, .int .i64 0, .slice none 0 0, .slice none 0 0] 44 (0, 0)) ∧ New w (w14.setCell ⟨gm, 4, none⟩ (.slice A14 dn c14))) := Lib.hid (by
  have h1 := kG.blockAt HXP.out.2.1 trivial
  have h2 := (kS.block (gp + 1) (Array.getElem?_eq_some_iff.1 h1).1 (by show gp + 1 ≠ gm; omega)).trans h1
  exact ⟨h2, (HXP.out.2.2.new kG).trans2 kS fun b hb _ => by show b ≠ gm; omega⟩)
 have HO4S : Hid (Bs (w14.setCell ⟨gm, 4, none⟩ (.slice A14 dn c14)) (fun b => rp < b ∧ b < gm) A4 32 head) := Lib.hid (((HO4'.out.new kG).imp (E := fun b => rp < b ∧ b < gm) fun b _ hb => ⟨by omega, hb.2⟩).keep kS fun b _ hb => by show b ≠ gm; omega)
 generalize w14.setCell ⟨gm, 4, none⟩ (.slice A14 dn c14) = w15 at *
 have HX15 : Hid (w15.heap[gm]? = some (.cells #[.int .u64 gen, .int .u64 seq, .int .i64 segs, .slice A4 32 c4, .slice A14 dn c14] 44 (0, 0))) := Lib.hid xS
 have HB15 := Lib.hid (HBB.out.new HXP15.out.2)
 clear xS kS kG hX14 m4 z4 o14 HXM HXP HO4'
 go_loopw [5, 9] (fun s5 i wx => ∃ k : Nat, s5 = .int .i64 0 ∧ k ≤ n ∧ 94 + dn ≤ k ∧ i = .int .i64 (k : Int) ∧ New w15 wx) (fun _ i _ => n - (intOf i).toNat)
 case atStart => exact ⟨94 + dn, rfl, hlow, Nat.le_refl _, by simp, New.refl _⟩
 case round =>
  obtain ⟨k, rfl, hk, hk2, rfl, hK⟩ := hrel
  have HK := Lib.hid hK
  clear hK
  by_cases hlt : k < n
  ·have h1 : k < bs.length := by have := HL.out; omega
   have hzk := HZC.out k hk2 h1
   obtain ⟨g1, o1, eA, -, -, x1⟩ := Bs.cellAt HB15.out (by omega)
   subst eA
   have y0 := x1 k h1
   rw [hzk] at y0
   have y1 : wr.cell? ⟨g1, o1 + k, none⟩ = some (.int .u8 0) := HK.out.cell_some y0 trivial
   clear x1 y0 hzk h1
   go_wp2_with fail
   go_roundw
   case rel => exact ⟨k + 1, rfl, by omega, by omega, by go_num, HK.out⟩
   case measure => simp [intOf]; omega
  ·obtain rfl : k = n := by omega
   obtain ⟨sh, hsh⟩ : ∃ sh, sh = shaSum data := ⟨_, rfl⟩
   have hss : (sh == sh) = true := by simp
   have HSM : Hid (∀ W, New wr W → Calls Tryz.prog 65 #[.slice A14 dn c14] W fun e w' => (∃ A' c', e = .returned (.slice A' 32 c') ∧ OwnB w' W.heap.size 5 A' 32 c' sh) ∧ New W w') := Lib.hid fun W h => by
    rw [hsh]
    exact refsum_any _ A14 dn c14 data W (Row.new HO14.out (HK.out.new h)) (by omega)
   have HV : Hid (∀ W b A9 c9, OwnB W b 5 A9 32 c9 sh → ∀ W', New W W' → (convert 22 9 (.slice A9 32 c9)).run Tryz.prog W' = .ok (.string (strOf sh)) W') :=
    Lib.hid fun W b A9 c9 ho W' h => run_str (Row.of_own (Own.keepNew ho h))
   have x0 : ∀ W, New wr W → (convert 22 9 (.slice (Option.map (fun x => ({ block := x.block, off := x.off + 62 } : Addr)) A) 32 (c - 62))).run Tryz.prog W = .ok (.string (strOf sh)) W := fun W h => run_str (by rw [hsh]; exact Row.new HHK.out (HXP15.out.2.new (HK.out.new h)))
   have y4 : ∀ W, New wr W → W.cell? ⟨gm, 4, none⟩ = some (.slice A14 dn c14) := fun W h => (HK.out.new h).cell_some (cellOf HX15.out (k := 4) rfl) trivial
   have HSH := Lib.hid hsh
   clear hsh hlt hk hk2
   go_upto_region 16 with fail
   refine hold_begin (by kernel_rfl) ?_
   have n0 : New wr wr.drew := (New.refl wr).drew
   replace x0 := fun W (hW : New wr.drew W) => x0 W (Keep.new n0 hW)
   replace y4 := fun W (hW : New wr.drew W) => y4 W (Keep.new n0 hW)
   refine take1 0 ?_
   refine take1 1 ?_
   refine take1 2 ?_
   refine take1 3 ?_
   refine take1 4 ?_
   refine hold_step (i := 5) (by kernel_rfl) rfl rfl (fun K hK => ?_)
   go_simp
   refine (HSM.out _ n0).mono ?_
   rintro e w3 ⟨⟨A2, c2, rfl, o2⟩, k3⟩; have v2 := HV.out w3 _ A2 c2 o2
   go_wp2_with fail
   refine hK.out _ _ k3 ?_
   clear hK K
   try simp only [Act.put, ly1, ly2, ly3, ly4, ly5, ly6]
   replace n0 := Keep.new n0 k3
   replace x0 := fun W (hW : New w3 W) => x0 W (Keep.new k3 hW)
   replace y4 := fun W (hW : New w3 W) => y4 W (Keep.new k3 hW)
   refine take1 6 ?_
   refine take1 7 ?_
   refine wpAnyH_done (by kernel_rfl) ?_ _
   have HXF : Hid (w3.heap[gm]? = some (.cells #[.int .u64 gen, .int .u64 seq, .int .i64 segs, .slice A4 32 c4, .slice A14 dn c14] 44 (0, 0)) ∧ w3.heap[gp + 1]? = some (.cells #[.int .u64 0, .int .u64 0, .int .i64 0, .slice none 0 0, .slice none 0 0] 44 (0, 0)) ∧ New w15 w3) := Lib.hid ⟨(HK.out.new n0).blockAt HX15.out trivial, (HK.out.new n0).blockAt HXP15.out.1 trivial, HK.out.new n0⟩
   clear x0 y4 k3 o2 v2 HSM HV n0
   obtain ⟨m0, m1, m2, m3, m4⟩ := cs5 HXF.out.1
   have d0' := cellOf HXF.out.2.1 (k := 0) rfl
   have d1' := cellOf HXF.out.2.1 (k := 1) rfl
   have d2' := cellOf HXF.out.2.1 (k := 2) rfl
   have d3' := cellOf HXF.out.2.1 (k := 3) rfl
   have d4' := cellOf HXF.out.2.1 (k := 4) rfl
   obtain ⟨z0, z1, z2, z3, z4⟩ := fz5 HXF.out.2.1
   go_wp2_with fail
   clear d0' d1' d2' d3' d4' z0 z1 z2 z3 z4 m0 m1 m2 m3 m4
   obtain ⟨hE, hKE⟩ := five_cells HXF.out.2.1 (.int .u64 gen) (.int .u64 seq) (.int .i64 segs) (.slice A4 32 c4) (.slice A14 dn c14)
   generalize hwE : World.setCell _ _ _ = wE at *
   have f0 : wE.cell? ⟨gp + 1, 0, none⟩ = some (.int .u64 gen) := cellOf hE rfl
   have f1 : wE.cell? ⟨gp + 1, 1, none⟩ = some (.int .u64 seq) := cellOf hE rfl
   have f2 : wE.cell? ⟨gp + 1, 2, none⟩ = some (.int .i64 segs) := cellOf hE rfl
   have f3 : wE.cell? ⟨gp + 1, 3, none⟩ = some (.slice A4 32 c4) := cellOf hE rfl
   have f4 : wE.cell? ⟨gp + 1, 4, none⟩ = some (.slice A14 dn c14) := cellOf hE rfl
   have hGx := HG.out
   refine bodyPost_ret (v := .tuple #[.agg #[.int .u64 gen, .int .u64 seq, .int .i64 segs, .slice A4 32 c4, .slice A14 dn c14], .int .i64 0]) (by simp [results, Tryz.results20, go_sem, f0, f1, f2, f3, f4]) rfl ?_
   refine ⟨⟨_, rfl, A4, c4, A14, c14, by rw [HDN.out], ⟨((HO4S.out.new HXF.out.2.2).keep hKE fun b _ hb => by show b ≠ gp + 1; omega).imp fun b _ hb => by omega, HC4.out⟩, ?_⟩, (HXP15.out.2.new HXF.out.2.2).trans2 hKE fun b hb _ => by show b ≠ gp + 1; omega⟩
   dsimp only
   rw [← HDN.out]
   exact ⟨((HO14.out.new HXF.out.2.2).keep hKE fun b _ hb => by show b ≠ gp + 1; omega).imp fun b _ hb => by omega, HC14.out⟩
end Go.Proofs.YtijjhfkgbmckkaaGreatDoor
