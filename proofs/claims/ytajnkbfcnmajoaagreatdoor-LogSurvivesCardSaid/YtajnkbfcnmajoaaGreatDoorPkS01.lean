/-
  PROVED HERE: the law LogSurvives answers true; conditions: arguments as they may come in, no body larger than a machine can hold.
-/
import Derived.Test.YtajnkbfcnmajoaaGreatDoorPkB00
import Derived.Test.YtajnkbfcnmajoaaGreatDoorPkH03
import Derived.Test.YtajnkbfcnmajoaaGreatDoorPkH07
import Derived.Test.YtajnkbfcnmajoaaGreatDoorPkS00
namespace Go.Proofs.YtajnkbfcnmajoaaGreatDoor
open Go.RowKit
theorem WAt.crashed {w w' : World} {D DL : Nat → Prop} {base bw : Nat} {q : DiskB} {v : W21V} {s : LogS} {A : Option Addr} {c : Nat} {S S' : List UInt8} {J : Prop} (h : WAt J w D DL base bw q v s A c S) (hk : Keep (DiskOf q) w w') (hd : Clean w' q S') (hS : S'.length = S.length) : WAt True w' D DL base bw q v s A c S' := by
 have a := h.mid.apart
 have hl := h.mid.on
 exact ⟨⟨h.mid.doc.keep hk a.wd a.d.1 a.d.2.1 a.d.2.2.1 a.d.2.2.2 (fun b hb => (h.mid.cross2 b hb).2.1), ⟨hl.log.keep hk hl.apart hl.row hl.data, hd, by rw [hS]; exact hl.size, hl.plan, hl.apart, hl.row, hl.data⟩, h.mid.bd, h.mid.cross1, h.mid.cross2, h.mid.low, Nat.le_trans h.mid.size hk.size⟩, h.st, h.m, .inl trivial⟩
def OnesAt (G : Prop) (f : Nat) (M : Dirt) : Prop := ∀ (k : Int) b, M k = some b → G ∧ ∃ j : Nat, j < 8 ∧ k = ((f + j : Nat) : Int) ∧ b[0]? = some 1
theorem OnesAt.no (G : Prop) (f : Nat) : OnesAt G f Dirt.no := fun k b h => by cases h
theorem OnesAt.put {G : Prop} {f : Nat} {M : Dirt} (h : OnesAt G f M) (hG : G) {j : Nat} (hj : j < 8) {b : List UInt8} (hb : b[0]? = some 1) : OnesAt G f (M.put ((f + j : Nat) : Int) b) := fun k b' hk => by
 unfold Dirt.put at hk
 split at hk
 ·rename_i e
  injection hk with hk
  subst hk
  exact ⟨hG, j, hj, e, hb⟩
 ·exact h k b' hk
theorem WAt.sector {w : World} {D DL : Nat → Prop} {base bw : Nat} {q : DiskB} {v : W21V} {s : LogS} {A : Option Addr} {c : Nat} {S : List UInt8} {J : Prop} (h : WAt J w D DL base bw q v s A c S) (hlt : s.segs.length < v.g) {j : Nat} (hj : j < 8) : 1 + 2 * v.p + s.segs.length * 8 + j < v.k ∧ (1 + 2 * v.p + s.segs.length * 8 + j) * 128 + 128 ≤ S.length := by
 have h1 := h.fit _ hlt
 have h2 : S.length = v.k * 128 := h.mid.on.size
 unfold placeAt at h1
 omega
theorem sized_one (l : List UInt8) : (sizedK (1 :: l) 128)[0]? = some 1 := rfl
theorem sized_len (l : List UInt8) : (sizedK l 128).length = 128 := by
 unfold sizedK
 rw [List.length_append, List.length_take, List.length_replicate]
 omega
theorem WAt.torn {w : World} {D DL : Nat → Prop} {base bw : Nat} {q : DiskB} {v : W21V} {s : LogS} {A : Option Addr} {c : Nat} {S S' : List UInt8} (h : WAt False w D DL base bw q v s A c S) {M : Dirt} {G : Prop} (hM : OnesAt G (1 + 2 * v.p + s.segs.length * 8) M) (hT : Torn S M S') :
  (∀ i, i < s.segs.length → placeOf S' v.p i = (logOf id21 s.segs).images.getD i []) ∧ (s.segs.length < v.g → (segRead (placeOf S' v.p s.segs.length)).2.2 ≠ 0 ∨ (segRead (placeOf S' v.p s.segs.length)).1.index ≠ (s.segs.length : Int)) := by
 have hfit := h.fit
 have hroom := h.st.room
 have hfew := h.st.few
 have hg := h.segs
 refine ⟨fun i hi => ?_, fun hlt => ?_⟩
 ·rw [hT.place (hfit i (by omega)) (fun j hj => ?_)]
  ·exact h.found.1 i hi
  ·rcases hm : M ((1 + 2 * v.p + i * 8 + j : Nat) : Int) with _ | b
   ·rfl
   ·obtain ⟨_, j', h1, h2, _⟩ := hM _ b hm
    omega
 ·refine hT.none (hfit _ hlt) ?_ (fun b hb => ?_) (by unfold segsOf at hg; omega)
  ·have h1 := (h.laid.resolve_left id) _ hlt
   rw [List.getD_eq_getElem?_getD, List.getElem?_eq_none (by rw [h.st.fine.ok.images]; exact Nat.le_refl _)] at h1
   exact h1
  ·obtain ⟨_, _, _, _, h3⟩ := hM _ b hb
   exact h3
set_option maxRecDepth 100000 in
set_option maxHeartbeats 8000000 in
theorem survives21_any (A0 A1 A2 : Option Addr) (n0 c0 n1 c1 n2 c2 : Nat) (ls ms : List AskP) (ks : List Bool) (z y : Int) (w : World) (hB : Sl askElt w (fun _ => True) A0 n0 ls) (hB1 : Sl askElt w (fun _ => True) A1 n1 ms) (hB2 : Sl boolElt w (fun _ => True) A2 n2 ks) (_hz : -9223372036854775808 ≤ z ∧ z ≤ 9223372036854775807) (_hy : -9223372036854775808 ≤ y ∧ y ≤ 9223372036854775807) (hbig : ∀ r ∈ ms, r.body.length ≤ 140737488351232) (hn2 : n2 ≤ 9223372036854775807) : Calls Tryz.prog 8 #[.slice A0 n0 c0, .slice A1 n1 c1, .slice A2 n2 c2, .int .i64 z, .int .i64 y] w fun e w' => e = .returned (.bool true) ∧ New w w' := by
 have hln := hB.len
 have hln1 := hB1.len
 have HBE := Lib.hid (begin21_st 100 (by decide) (by decide) w)
 have HKN := Lib.hid (fun W => known21_any W)
 have HB := Lib.hid hB.old
 have HB1 := Lib.hid hB1.old
 have HB2 := Lib.hid hB2.old
 have HBG := Lib.hid hbig
 clear hB hB1 hB2 hbig
 go_enter Tryz.func8, Tryz.ntmps8
 go_wp2_with fail
 refine HBE.out.mono ?_
 rintro e w1 ⟨k1, bw, rfl, h1⟩
 have HK1 := Lib.hid k1
 have H1 := Lib.hid h1
 clear k1 h1 HBE
 go_wp2_with fail
 go_loopw [12] (fun i wx => ∃ (i0 : Nat) (s : LogS), i0 ≤ n0 ∧ i0 ≤ 20 ∧ i = .int .i64 (i0 : Int) ∧ s.nxt ≤ 1 + (i0 : Int) ∧ W21 wx (fun b => b < w.heap.size) bw 100 s ∧ Keep (fun b => b < w.heap.size) w1 wx) (fun i _ => 20 - (intOf i).toNat)
 case atStart => exact ⟨0, ⟨[], []⟩, Nat.zero_le _, Nat.zero_le _, rfl, by decide +kernel, H1.out, Keep.refl _ _⟩
 case round =>
  obtain ⟨i0, s, hin, hi5, rfl, hnx, hs, hkb⟩ := hrel
  have HS := Lib.hid hs
  have HKB := Lib.hid hkb
  have HNX := Lib.hid hnx
  clear hs hkb hnx
  by_cases hlt : i0 < n0 ∧ i0 < 20
  ·obtain ⟨hl1, hl2⟩ := hlt
   have hx : i0 < ls.length := by omega
   have HBR := Lib.hid (HB.out.keep ((Keep.of_new (D := fun b => b < w.heap.size) HK1.out).trans HKB.out) fun b hb _ => hb)
   obtain ⟨b, off, us, hA, _, _, ⟨Ab, cb, e0, e1, e2, e3, hcb, hcm, hbb, hfi⟩, _, hcell⟩ := HBR.out.at_ (k := i0) hx
   obtain ⟨x, hxx⟩ : ∃ x, x = ls[i0] := ⟨_, rfl⟩
   rw [← hxx] at e0 e1 e2 e3 hcb hbb hfi
   subst hA
   have HDO := Lib.hid (HS.out.act x hfi Ab cb hbb hcb hcm (by have := HNX.out; omega))
   have c0c : wr.cell? ⟨b, off + i0 * 4, none⟩ = some (.int .i64 x.kind) := hcell 0 _ e0
   have c1c : wr.cell? ⟨b, off + i0 * 4 + 1, none⟩ = some (.int .i64 x.turn) := hcell 1 _ e1
   have c2c : wr.cell? ⟨b, off + i0 * 4 + 2, none⟩ = some (.bool x.mark) := hcell 2 _ e2
   have c3c : wr.cell? ⟨b, off + i0 * 4 + 3, none⟩ = some (.slice Ab x.body.length cb) := hcell 3 _ e3
   have hl3 : (i0 : Int) < (n0 : Int) := by omega
   have hl4 : (i0 : Int) < 20 := by omega
   clear hxx e0 e1 e2 e3 hcb hcm hbb hfi hcell hx
   have hd3 : decide ((i0 : Int) < (n0 : Int)) = true := decide_eq_true hl3
   have hd4 : decide ((i0 : Int) < 20) = true := decide_eq_true hl4
   by_cases hk3 : x.kind < 3
   ·have hd5 : decide (x.kind < 3) = true := decide_eq_true hk3
    go_wp2_with fail
    refine HDO.out.mono ?_
    rintro e w2 ⟨rfl, b2, h2⟩
    have HF := Lib.hid (And.intro b2 h2)
    clear b2 h2 HDO c0c c1c c2c c3c
    go_wp2_with fail
    go_roundw
    case rel => exact ⟨i0 + 1, _, by omega, by omega, by go_num, by have h1 := step_nxt (segsOf 100) s x; have h2 := HNX.out; omega, HF.out.2, HKB.out.trans HF.out.1⟩
    case measure => simp [intOf]; omega
   ·have hd5 : decide (x.kind < 3) = false := decide_eq_false hk3
    go_wp2_with fail
    go_roundw
    case rel => exact ⟨i0 + 1, s, by omega, by omega, by go_num, by have h2 := HNX.out; omega, HS.out, HKB.out⟩
    case measure => simp [intOf]; omega
  ·skip
   have hor : ¬ (i0 : Int) < (n0 : Int) ∨ ((i0 : Int) < (n0 : Int) ∧ ¬ (i0 : Int) < 20) := by omega
   clear hlt
   rcases hor with hl3 | ⟨hl3, hl4⟩
   ·have hd3 : decide ((i0 : Int) < (n0 : Int)) = false := decide_eq_false hl3
    obtain ⟨s1, hs1⟩ : ∃ s1, s.step (segsOf 100) ⟨2, 0, false, []⟩ = s1 := ⟨_, rfl⟩
    have hn1 := step_nxt (segsOf 100) s ⟨2, 0, false, []⟩
    have hn0 := HNX.out
    rw [hs1] at hn1
    have HN := Lib.hid (show s.nxt < 1000000 ∧ s1.nxt < 100000 by omega)
    clear hn0 hn1
    have HD1 := Lib.hid (HS.out.actNil 2 0 false (by decide) (by decide) HN.out.1 hs1)
    clear hs1
    go_wp2_with fail
    refine HD1.out.mono ?_
    rintro e wa ⟨rfl, ba, ha⟩
    have HBA := Lib.hid (HKB.out.trans ba)
    obtain ⟨base, q, v, D, DL, A, c, S, hW, hvk, hF⟩ := ha
    have HW := Lib.hid hW
    have HF := Lib.hid hF
    have hbd := hW.mid.bd
    have hcc := hW.mid.doc.cells
    have hnh : v.nh = s1.segs.length := hW.mid.doc.nh
    obtain ⟨hg1, hg2⟩ := hW.segs
    have hgl : v.g ≤ 1000 := by unfold segsOf at hg1; omega
    have hroom := hW.st.room
    have hpr := planRight_iff.1 (show planRight (v.k : Int) (v.p : Int) (v.g : Int) = true from hW.mid.on.plan)
    have hpl : v.p ≤ 1024 := by have := hpr.2.2.1; omega
    have c14 : wa.cell? ⟨bw, 14, none⟩ = some (.slice v.Ah v.nh v.ch) := hcc.cell rfl
    have c5 : wa.cell? ⟨bw, 5, none⟩ = some (.int .i64 v.p) := hcc.cell rfl
    obtain ⟨f, hf⟩ : ∃ f : Nat, f = 1 + 2 * v.p + v.nh * 8 := ⟨_, rfl⟩
    have hw1 : IntKind.i64.wrap (2 * (v.p : Int)) = 2 * (v.p : Int) := IntWalk.i64_in _ (by omega)
    have hw2 : IntKind.i64.wrap (1 + 2 * (v.p : Int)) = 1 + 2 * (v.p : Int) := IntWalk.i64_in _ (by omega)
    have hw3 : IntKind.i64.wrap ((v.nh : Int) * 8) = (v.nh : Int) * 8 := IntWalk.i64_in _ (by omega)
    have hw4 : IntKind.i64.wrap (1 + 2 * (v.p : Int) + (v.nh : Int) * 8) = (f : Int) := by rw [IntWalk.i64_in _ (by omega)]; omega
    replace hf := Lib.hid hf
    have HP := Lib.hid (And.intro hg1 (And.intro hg2 (And.intro hroom (And.intro hpr (And.intro hnh (And.intro hvk hbd))))))
    have HCC := Lib.hid hcc
    clear ba hW hF hbd hcc hg1 hg2 hroom hpr hnh hvk HD1
    go_wp2_with fail
    generalize wa = w5 at *
    clear c14 c5 hw1 hw2 hw3 hw4
    have HDK : Hid (∃ wr0, DiskAt w5 (DiskOf q) q S Dirt.no 0 wr0) := Lib.hid HW.out.mid.on.disk
    go_loopw [15] (fun i wx => ∃ (i0 nn : Nat) (M : Dirt) (wr0 : Int), i0 ≤ 8 ∧ nn ≤ i0 ∧ i = .int .i64 (i0 : Int) ∧ Keep (fun b => b ≠ q.bd ∧ b ≠ q.bm) w5 wx ∧ DiskAt wx (DiskOf q) q S M nn wr0 ∧ OnesAt (v.nh < v.g) f M) (fun i _ => 8 - (intOf i).toNat)
    case atStart =>
     obtain ⟨wr0, hd⟩ := HDK.out
     exact ⟨0, 0, Dirt.no, wr0, by decide, by decide, rfl, Keep.refl _ _, hd, OnesAt.no _ f⟩
    case round =>
     obtain ⟨i0, nn, M, wr0, hi8, hni, rfl, hK, hD, hO⟩ := hrel
     have HKR := Lib.hid hK
     have HDR := Lib.hid hD
     have HOR := Lib.hid hO
     have HWK : Hid (∀ b, b < w.heap.size → b ≠ q.bd ∧ b ≠ q.bm ∧ b ≠ q.bs ∧ b < w5.heap.size) := Lib.hid fun b hb => ⟨(HF.out b hb).2.2.2.1.1, (HF.out b hb).2.2.2.1.2.2, (HF.out b hb).2.2.2.1.2.1, (HF.out b hb).1⟩
     have c6 : wr.cell? ⟨bw, 6, none⟩ = some (.int .i64 v.g) := (HCC.out.keep hK (by have := HW.out.mid.apart.wd; exact ⟨this.1, this.2.2⟩)).cell rfl
     have c0 : wr.cell? ⟨bw, 0, none⟩ = some (.pointer (some ⟨q.bd, 0, none⟩)) := by rw [← HP.out.2.2.2.2.2.2]; exact (HCC.out.keep hK (by have := HW.out.mid.apart.wd; exact ⟨this.1, this.2.2⟩)).cell rfl
     have hbelow : Keep (fun b => b < w.heap.size) w wr := ((Keep.of_new (D := fun b => b < w.heap.size) HK1.out).trans HBA.out).trans2 hK fun b hb h2 => ⟨(HWK.out b h2).1, (HWK.out b h2).2.1⟩
     have HBW := Lib.hid hbelow
     clear hK hD hO hbelow
     by_cases hgo : i0 < n1 ∧ i0 < 8 ∧ v.nh < v.g
     ·obtain ⟨hl1, hl2, hl3⟩ := hgo
      have hx : i0 < ms.length := by omega
      obtain ⟨b, off, us, hA, hbl, _, ⟨Ab, cb, e0, e1, e2, e3, hcb, hcm, hbb, hfi⟩, _, hcell⟩ := (HB1.out.keep HBW.out fun b hb _ => hb).at_ (k := i0) hx
      obtain ⟨x, hxx⟩ : ∃ x, x = ms[i0] := ⟨_, rfl⟩
      have hbg := HBG.out ms[i0] (List.getElem_mem hx)
      rw [← hxx] at e0 e1 e2 e3 hcb hbb hfi hbg
      subst hA
      obtain ⟨nb, hnb⟩ : ∃ nb, nb = x.body.length := ⟨_, rfl⟩
      rw [← hnb] at e3 hbb hbg hcb
      have y0 : ∀ W, Keep (fun b => b ≠ q.bd ∧ b ≠ q.bm) wr.drew W → W.cell? ⟨bw, 0, none⟩ = some (.pointer (some ⟨q.bd, 0, none⟩)) := fun W hW => (((Keep.refl _ wr).drew.trans hW).cell_some c0 (by have := HW.out.mid.apart.wd; exact ⟨this.1, this.2.2⟩))
      have y3 : ∀ W, Keep (fun b => b ≠ q.bd ∧ b ≠ q.bm) wr.drew W → W.cell? ⟨b, off + i0 * 4 + 3, none⟩ = some (.slice Ab nb cb) := fun W hW => (((Keep.refl _ wr).drew.trans hW).cell_some (hcell 3 _ e3) ⟨(HWK.out b hbl).1, (HWK.out b hbl).2.1⟩)
      have hl4 : (i0 : Int) < (n1 : Int) := by omega
      have hl5 : (i0 : Int) < 8 := by omega
      have hl6 : (v.nh : Int) < (v.g : Int) := by omega
      have hd4 : decide ((i0 : Int) < (n1 : Int)) = true := decide_eq_true hl4
      have hd5 : decide ((i0 : Int) < 8) = true := decide_eq_true hl5
      have hd6 : decide ((v.nh : Int) < (v.g : Int)) = true := decide_eq_true hl6
      have hbo : 1 + nb ≤ 140737488355328 := by omega
      have hw5 : IntKind.i64.wrap ((f : Int) + (i0 : Int)) = ((f + i0 : Nat) : Int) := by have hf2 := hf.out; rw [IntWalk.i64_in _ (by have := HP.out; omega)]; omega
      have HBB := Lib.hid hbb
      have HXX := Lib.hid (And.intro hnb (And.intro hcb hcm))
      clear e0 e1 e2 e3 hcell hbb hcb hcm hfi hxx hbg hnb
      go_wp2_with fail
      refine hold_beginS (Keep (fun b => b ≠ q.bd ∧ b ≠ q.bm) wr.drew) (by kernel_rfl) ?_
      have n0 : Keep (fun b => b ≠ q.bd ∧ b ≠ q.bm) wr.drew wr.drew := Keep.refl _ _
      refine take0 0 n0 ?_
      refine take0 1 n0 ?_
      refine take0 2 n0 ?_
      refine take0 3 n0 ?_
      refine take0 4 n0 ?_
      refine take0 5 n0 ?_
      refine take0 6 n0 ?_
      refine take0 8 n0 ?_
      refine take0 9 n0 ?_
      refine take0 10 n0 ?_
      refine take0 11 n0 ?_
      refine take0 12 n0 ?_
      refine hold_step0 (i := 7) (by kernel_rfl) rfl rfl (fun K hK => ?_)
      go_simp
      go_wp2_with fail
      have k7 := (New.refl wr.drew).alloc (.cells #[.int .u8 1] 5)
      have own7 : OwnB (wr.drew.alloc (.cells #[.int .u8 1] 5)) wr.drew.heap.size 5 (some ⟨wr.drew.heap.size, 0, none⟩) 1 1 [1] := World.ownsRow_lit wr.drew #[.int .u8 1] 1 (Nat.le_refl _) (by decide) rfl
      have n1 := Keep.new n0 k7
      refine hK.out _ _ n1 ?_
      clear hK K n0
      try simp only [Act.put, ly1, ly2, ly3, ly4, ly5, ly6]
      refine hold_step0 (i := 13) (by kernel_rfl) rfl rfl (fun K hK => ?_)
      refine wp_bytes _ _ _ rfl wr.drew.heap.size _ 1 1 [1] rfl own7 _ Ab nb cb _ rfl ((HBB.out.imp fun b hb hd => hd).new ((New.refl wr).drew.new k7)) hbo k7.size ?_
      intro A8 c8 w8 own8 hg8 hbk8
      have k8 := new_app0 k7 own7 hg8
      have n2 : Keep (fun b => b ≠ q.bd ∧ b ≠ q.bm) wr.drew w8 := Keep.of_new k8
      refine hK.out _ _ n2 ?_
      clear hK K n1
      try simp only [Act.put, ly1, ly2, ly3, ly4, ly5, ly6]
      have hlb : nb = x.body.length := HXX.out.1
      have hc8 := own_cap own8
      have hm8 := own_capMax own8
      have hb8 : Bs w8 (fun b => wr.drew.heap.size ≤ b) A8 (1 + nb) (1 :: x.body) := Row.of_own own8
      have HSZ := Lib.hid (sizedK_any A8 (1 + nb) c8 128 (1 :: x.body) _ w8 hb8 (by omega) hc8 (by decide))
      have HK8 := Lib.hid k8
      clear hlb hc8 hm8 hb8 own8 hg8 hbk8 own7 k7 k8
      refine hold_step0 (i := 14) (by kernel_rfl) rfl rfl (fun K hK => ?_)
      go_simp
      refine HSZ.out.mono ?_
      rintro e w9 ⟨⟨A9, c9, rfl, o9⟩, k9⟩
      have k09 := HK8.out.new k9
      have HDI := Lib.hid (dwrite_any (HDR.out.new ((New.refl wr).drew.new k09)) HW.out.mid.on.size (fun b hb => HW.out.mid.on.disk.beyond b (by have h1 := HKR.out.size; have h2 := k09.size; have h3 : wr.drew.heap.size = wr.heap.size := rfl; omega)) (by omega) (f + i0) (by rw [hf.out, HP.out.2.2.2.2.1]; exact (HW.out.sector (by rw [← HP.out.2.2.2.2.1]; exact hl3) hl2).1) A9 c9 _ (Row.of_own o9))
      have n3 := Keep.new n2 k9
      have HK9 := Lib.hid k09
      clear o9 k9 k09 HSZ
      go_wp2_with fail
      refine hK.out _ _ n3 ?_
      clear hK K n2
      try simp only [Act.put, ly1, ly2, ly3, ly4, ly5, ly6]
      refine hold_step0 (i := 15) (by kernel_rfl) rfl rfl (fun K hK => ?_)
      go_simp
      refine HDI.out.mono ?_
      rintro e wz ⟨rfl, kz, wr1, hdz⟩
      have n4 := n3.trans kz
      have HZ := Lib.hid (And.intro n4 hdz)
      go_wp2_with fail
      refine hK.out _ _ n4 ?_
      clear hK K n3 n4 kz hdz HDI y0 y3
      try simp only [Act.put, ly1, ly2, ly3, ly4, ly5, ly6]
      refine wpAnyH_done (by kernel_rfl) ?_ _
      go_wp2_with fail
      go_roundw
      case rel => exact ⟨i0 + 1, nn + 1, _, wr1, by omega, by omega, by go_num, (HKR.out.drew).trans HZ.out.1, HZ.out.2, HOR.out.put hl3 hl2 (sized_one _)⟩
      case measure => simp [intOf]; omega
     ·skip
      have hor : ¬ (i0 : Int) < (n1 : Int) ∨ ((i0 : Int) < (n1 : Int) ∧ ¬ (i0 : Int) < 8) ∨ ((i0 : Int) < (n1 : Int) ∧ (i0 : Int) < 8 ∧ ¬ (v.nh : Int) < (v.g : Int)) := by omega
      clear hgo
      have HCR := Lib.hid (crash_any HDR.out (by omega) (fun i b hb => by
       obtain ⟨hG, j, hj, hk, _⟩ := HOR.out i b hb
       rw [HP.out.2.2.2.2.1] at hG
       have hf2 := hf.out
       rw [HP.out.2.2.2.2.1] at hf2
       have h1 := (HW.out.sector hG hj).2
       rw [← hf2] at h1
       omega) A2 n2 c2 ks ((HB2.out.keep HBW.out fun b hb _ => hb).imp fun b _ hb => ⟨(HWK.out b hb).2.2.1, (HWK.out b hb).2.1⟩) hn2 z y)
      have HGO : Hid (∀ wx (S' : List UInt8), Keep (fun b => b ≠ q.bs ∧ b ≠ q.bm) wr wx → Torn S M S' → DiskAt wx (DiskOf q) q S' Dirt.no 0 wr0 → Keep (DiskOf q) w5 wx ∧ WAt True wx D DL base bw q v s1 A c S' ∧ (∀ i, i < s1.segs.length → placeOf S' v.p i = (logOf id21 s1.segs).images.getD i []) ∧ (s1.segs.length < v.g → (segRead (placeOf S' v.p s1.segs.length)).2.2 ≠ 0 ∨ (segRead (placeOf S' v.p s1.segs.length)).1.index ≠ (s1.segs.length : Int))) := Lib.hid fun wx S' hk hT hd => by
       have hkd : Keep (DiskOf q) w5 wx := (HKR.out.imp fun b _ hb => ⟨hb.1, hb.2.2⟩).trans (hk.imp fun b _ hb => ⟨hb.2.1, hb.2.2⟩)
       have hO := HOR.out
       have hf2 := hf.out
       rw [HP.out.2.2.2.2.1] at hf2
       rw [hf2] at hO
       exact ⟨hkd, HW.out.crashed hkd ⟨_, hd⟩ hT.1, HW.out.torn hO hT⟩
      have hnx1 : v.m.next < 1000000 := by rw [HW.out.next]; have := HN.out.2; omega
      have HNX2 := Lib.hid hnx1
      have HBB2 := Lib.hid (And.intro HKR.out HDR.out)
      clear hnx1
      rcases hor with hl4 | ⟨hl4, hl5⟩ | ⟨hl4, hl5, hl6⟩
      ·have hd4 : decide ((i0 : Int) < (n1 : Int)) = false := decide_eq_false hl4
       go_wp2_with fail
       refine HCR.out.mono ?_
       rintro e w6 ⟨rfl, k6, S', hT, hd6⟩
       obtain ⟨hkd, hWT, hfo1, hfo2⟩ := HGO.out _ _ k6 hT hd6
       have HAG := Lib.hid (again_any hWT 0 (Nat.zero_le _) hfo1 hfo2)
       have HWT := Lib.hid hWT
       have HB6 := Lib.hid (HBA.out.trans (hkd.imp (E := fun b => b < w.heap.size) fun b _ hb => (HF.out b hb).2.2.2.1))
       have HK6 := Lib.hid hkd
       have c0 : w6.cell? ⟨bw, 0, none⟩ = some (.pointer (some ⟨q.bd, 0, none⟩)) := by rw [← HP.out.2.2.2.2.2.2]; exact (HCC.out.keep hkd HW.out.mid.apart.wd).cell rfl
       clear hkd hWT hfo1 hfo2 k6 hT hd6 HCR
       go_wp2_with fail
       refine HAG.out.mono ?_
       rintro e w7 ⟨rfl, k7, v7, D7, DL7, A7, c7, S7, hW7, hvk7, hvp7, hvg7, hf7, -⟩
       have HFW : Hid (∀ b, b < w.heap.size → b < w6.heap.size ∧ FarOf bw q v A b) := Lib.hid fun b hb => ⟨Nat.lt_of_lt_of_le (HF.out b hb).1 HK6.out.size, (HF.out b hb).2⟩
       have HB7 := Lib.hid (HB6.out.trans (k7.imp (E := fun b => b < w.heap.size) fun b _ hb => HFW.out b hb))
       have HFX : Hid (∀ b, b < w.heap.size → b < w7.heap.size ∧ FarOf bw q v7 A7 b) := Lib.hid fun b hb => ⟨Nat.lt_of_lt_of_le (HFW.out b hb).1 k7.size, hf7 b (HFW.out b hb).1 (HFW.out b hb).2⟩
       have hnx7 : v7.m.next < 1000000 := by rw [hW7.next]; have h1 := HN.out.2; have h2 : (⟨s1.segs, []⟩ : LogS).nxt ≤ s1.nxt := (by unfold LogS.nxt; simp only [List.length_nil]; omega); omega
       have HD1 := Lib.hid (do1_far hW7 0 (by decide) (by decide) true none 0 0 [] (Row.nil _ _ _ _) (Nat.le_refl _) (by decide) hnx7)
       clear hW7 hvk7 hvp7 hvg7 hf7 hnx7 k7 HAG
       go_wp2_with fail
       refine HD1.out.mono ?_
       rintro e w8 ⟨rfl, k8, -⟩
       have HB8 := Lib.hid (HB7.out.trans (k8.imp (E := fun b => b < w.heap.size) fun b _ hb => HFX.out b hb))
       clear k8 HD1
       go_wp2_with fail
       refine (HKN.out _).mono ?_
       rintro e w9 ⟨rfl, k9⟩
       go_wp2_with fail
       go_ret
       exact ⟨rfl, (((Keep.of_new (D := fun b => b < w.heap.size) HK1.out).trans (HB8.out.new k9)).toNew fun b hb => hb)⟩
      ·have hd4 : decide ((i0 : Int) < (n1 : Int)) = true := decide_eq_true hl4
       have hd5 : decide ((i0 : Int) < 8) = false := decide_eq_false hl5
       go_wp2_with fail
       refine HCR.out.mono ?_
       rintro e w6 ⟨rfl, k6, S', hT, hd6⟩
       obtain ⟨hkd, hWT, hfo1, hfo2⟩ := HGO.out _ _ k6 hT hd6
       have HAG := Lib.hid (again_any hWT 0 (Nat.zero_le _) hfo1 hfo2)
       have HWT := Lib.hid hWT
       have HB6 := Lib.hid (HBA.out.trans (hkd.imp (E := fun b => b < w.heap.size) fun b _ hb => (HF.out b hb).2.2.2.1))
       have HK6 := Lib.hid hkd
       have c0 : w6.cell? ⟨bw, 0, none⟩ = some (.pointer (some ⟨q.bd, 0, none⟩)) := by rw [← HP.out.2.2.2.2.2.2]; exact (HCC.out.keep hkd HW.out.mid.apart.wd).cell rfl
       clear hkd hWT hfo1 hfo2 k6 hT hd6 HCR
       go_wp2_with fail
       refine HAG.out.mono ?_
       rintro e w7 ⟨rfl, k7, v7, D7, DL7, A7, c7, S7, hW7, hvk7, hvp7, hvg7, hf7, -⟩
       have HFW : Hid (∀ b, b < w.heap.size → b < w6.heap.size ∧ FarOf bw q v A b) := Lib.hid fun b hb => ⟨Nat.lt_of_lt_of_le (HF.out b hb).1 HK6.out.size, (HF.out b hb).2⟩
       have HB7 := Lib.hid (HB6.out.trans (k7.imp (E := fun b => b < w.heap.size) fun b _ hb => HFW.out b hb))
       have HFX : Hid (∀ b, b < w.heap.size → b < w7.heap.size ∧ FarOf bw q v7 A7 b) := Lib.hid fun b hb => ⟨Nat.lt_of_lt_of_le (HFW.out b hb).1 k7.size, hf7 b (HFW.out b hb).1 (HFW.out b hb).2⟩
       have hnx7 : v7.m.next < 1000000 := by rw [hW7.next]; have h1 := HN.out.2; have h2 : (⟨s1.segs, []⟩ : LogS).nxt ≤ s1.nxt := (by unfold LogS.nxt; simp only [List.length_nil]; omega); omega
       have HD1 := Lib.hid (do1_far hW7 0 (by decide) (by decide) true none 0 0 [] (Row.nil _ _ _ _) (Nat.le_refl _) (by decide) hnx7)
       clear hW7 hvk7 hvp7 hvg7 hf7 hnx7 k7 HAG
       go_wp2_with fail
       refine HD1.out.mono ?_
       rintro e w8 ⟨rfl, k8, -⟩
       have HB8 := Lib.hid (HB7.out.trans (k8.imp (E := fun b => b < w.heap.size) fun b _ hb => HFX.out b hb))
       clear k8 HD1
       go_wp2_with fail
       refine (HKN.out _).mono ?_
       rintro e w9 ⟨rfl, k9⟩
       go_wp2_with fail
       go_ret
       exact ⟨rfl, (((Keep.of_new (D := fun b => b < w.heap.size) HK1.out).trans (HB8.out.new k9)).toNew fun b hb => hb)⟩
      ·have hd4 : decide ((i0 : Int) < (n1 : Int)) = true := decide_eq_true hl4
       have hd5 : decide ((i0 : Int) < 8) = true := decide_eq_true hl5
       have hd6 : decide ((v.nh : Int) < (v.g : Int)) = false := decide_eq_false hl6
       go_wp2_with fail
       refine HCR.out.mono ?_
       rintro e w6 ⟨rfl, k6, S', hT, hd6⟩
       obtain ⟨hkd, hWT, hfo1, hfo2⟩ := HGO.out _ _ k6 hT hd6
       have HAG := Lib.hid (again_any hWT 0 (Nat.zero_le _) hfo1 hfo2)
       have HWT := Lib.hid hWT
       have HB6 := Lib.hid (HBA.out.trans (hkd.imp (E := fun b => b < w.heap.size) fun b _ hb => (HF.out b hb).2.2.2.1))
       have HK6 := Lib.hid hkd
       have c0 : w6.cell? ⟨bw, 0, none⟩ = some (.pointer (some ⟨q.bd, 0, none⟩)) := by rw [← HP.out.2.2.2.2.2.2]; exact (HCC.out.keep hkd HW.out.mid.apart.wd).cell rfl
       clear hkd hWT hfo1 hfo2 k6 hT hd6 HCR
       go_wp2_with fail
       refine HAG.out.mono ?_
       rintro e w7 ⟨rfl, k7, v7, D7, DL7, A7, c7, S7, hW7, hvk7, hvp7, hvg7, hf7, -⟩
       have HFW : Hid (∀ b, b < w.heap.size → b < w6.heap.size ∧ FarOf bw q v A b) := Lib.hid fun b hb => ⟨Nat.lt_of_lt_of_le (HF.out b hb).1 HK6.out.size, (HF.out b hb).2⟩
       have HB7 := Lib.hid (HB6.out.trans (k7.imp (E := fun b => b < w.heap.size) fun b _ hb => HFW.out b hb))
       have HFX : Hid (∀ b, b < w.heap.size → b < w7.heap.size ∧ FarOf bw q v7 A7 b) := Lib.hid fun b hb => ⟨Nat.lt_of_lt_of_le (HFW.out b hb).1 k7.size, hf7 b (HFW.out b hb).1 (HFW.out b hb).2⟩
       have hnx7 : v7.m.next < 1000000 := by rw [hW7.next]; have h1 := HN.out.2; have h2 : (⟨s1.segs, []⟩ : LogS).nxt ≤ s1.nxt := (by unfold LogS.nxt; simp only [List.length_nil]; omega); omega
       have HD1 := Lib.hid (do1_far hW7 0 (by decide) (by decide) true none 0 0 [] (Row.nil _ _ _ _) (Nat.le_refl _) (by decide) hnx7)
       clear hW7 hvk7 hvp7 hvg7 hf7 hnx7 k7 HAG
       go_wp2_with fail
       refine HD1.out.mono ?_
       rintro e w8 ⟨rfl, k8, -⟩
       have HB8 := Lib.hid (HB7.out.trans (k8.imp (E := fun b => b < w.heap.size) fun b _ hb => HFX.out b hb))
       clear k8 HD1
       go_wp2_with fail
       refine (HKN.out _).mono ?_
       rintro e w9 ⟨rfl, k9⟩
       go_wp2_with fail
       go_ret
       exact ⟨rfl, (((Keep.of_new (D := fun b => b < w.heap.size) HK1.out).trans (HB8.out.new k9)).toNew fun b hb => hb)⟩
   ·have hd3 : decide ((i0 : Int) < (n0 : Int)) = true := decide_eq_true hl3
    have hd4 : decide ((i0 : Int) < 20) = false := decide_eq_false hl4
    obtain ⟨s1, hs1⟩ : ∃ s1, s.step (segsOf 100) ⟨2, 0, false, []⟩ = s1 := ⟨_, rfl⟩
    have hn1 := step_nxt (segsOf 100) s ⟨2, 0, false, []⟩
    have hn0 := HNX.out
    rw [hs1] at hn1
    have HN := Lib.hid (show s.nxt < 1000000 ∧ s1.nxt < 100000 by omega)
    clear hn0 hn1
    have HD1 := Lib.hid (HS.out.actNil 2 0 false (by decide) (by decide) HN.out.1 hs1)
    clear hs1
    go_wp2_with fail
    refine HD1.out.mono ?_
    rintro e wa ⟨rfl, ba, ha⟩
    have HBA := Lib.hid (HKB.out.trans ba)
    obtain ⟨base, q, v, D, DL, A, c, S, hW, hvk, hF⟩ := ha
    have HW := Lib.hid hW
    have HF := Lib.hid hF
    have hbd := hW.mid.bd
    have hcc := hW.mid.doc.cells
    have hnh : v.nh = s1.segs.length := hW.mid.doc.nh
    obtain ⟨hg1, hg2⟩ := hW.segs
    have hgl : v.g ≤ 1000 := by unfold segsOf at hg1; omega
    have hroom := hW.st.room
    have hpr := planRight_iff.1 (show planRight (v.k : Int) (v.p : Int) (v.g : Int) = true from hW.mid.on.plan)
    have hpl : v.p ≤ 1024 := by have := hpr.2.2.1; omega
    have c14 : wa.cell? ⟨bw, 14, none⟩ = some (.slice v.Ah v.nh v.ch) := hcc.cell rfl
    have c5 : wa.cell? ⟨bw, 5, none⟩ = some (.int .i64 v.p) := hcc.cell rfl
    obtain ⟨f, hf⟩ : ∃ f : Nat, f = 1 + 2 * v.p + v.nh * 8 := ⟨_, rfl⟩
    have hw1 : IntKind.i64.wrap (2 * (v.p : Int)) = 2 * (v.p : Int) := IntWalk.i64_in _ (by omega)
    have hw2 : IntKind.i64.wrap (1 + 2 * (v.p : Int)) = 1 + 2 * (v.p : Int) := IntWalk.i64_in _ (by omega)
    have hw3 : IntKind.i64.wrap ((v.nh : Int) * 8) = (v.nh : Int) * 8 := IntWalk.i64_in _ (by omega)
    have hw4 : IntKind.i64.wrap (1 + 2 * (v.p : Int) + (v.nh : Int) * 8) = (f : Int) := by rw [IntWalk.i64_in _ (by omega)]; omega
    replace hf := Lib.hid hf
    have HP := Lib.hid (And.intro hg1 (And.intro hg2 (And.intro hroom (And.intro hpr (And.intro hnh (And.intro hvk hbd))))))
    have HCC := Lib.hid hcc
    clear ba hW hF hbd hcc hg1 hg2 hroom hpr hnh hvk HD1
    go_wp2_with fail
    generalize wa = w5 at *
    clear c14 c5 hw1 hw2 hw3 hw4
    have HDK : Hid (∃ wr0, DiskAt w5 (DiskOf q) q S Dirt.no 0 wr0) := Lib.hid HW.out.mid.on.disk
    go_loopw [15] (fun i wx => ∃ (i0 nn : Nat) (M : Dirt) (wr0 : Int), i0 ≤ 8 ∧ nn ≤ i0 ∧ i = .int .i64 (i0 : Int) ∧ Keep (fun b => b ≠ q.bd ∧ b ≠ q.bm) w5 wx ∧ DiskAt wx (DiskOf q) q S M nn wr0 ∧ OnesAt (v.nh < v.g) f M) (fun i _ => 8 - (intOf i).toNat)
    case atStart =>
     obtain ⟨wr0, hd⟩ := HDK.out
     exact ⟨0, 0, Dirt.no, wr0, by decide, by decide, rfl, Keep.refl _ _, hd, OnesAt.no _ f⟩
    case round =>
     obtain ⟨i0, nn, M, wr0, hi8, hni, rfl, hK, hD, hO⟩ := hrel
     have HKR := Lib.hid hK
     have HDR := Lib.hid hD
     have HOR := Lib.hid hO
     have HWK : Hid (∀ b, b < w.heap.size → b ≠ q.bd ∧ b ≠ q.bm ∧ b ≠ q.bs ∧ b < w5.heap.size) := Lib.hid fun b hb => ⟨(HF.out b hb).2.2.2.1.1, (HF.out b hb).2.2.2.1.2.2, (HF.out b hb).2.2.2.1.2.1, (HF.out b hb).1⟩
     have c6 : wr.cell? ⟨bw, 6, none⟩ = some (.int .i64 v.g) := (HCC.out.keep hK (by have := HW.out.mid.apart.wd; exact ⟨this.1, this.2.2⟩)).cell rfl
     have c0 : wr.cell? ⟨bw, 0, none⟩ = some (.pointer (some ⟨q.bd, 0, none⟩)) := by rw [← HP.out.2.2.2.2.2.2]; exact (HCC.out.keep hK (by have := HW.out.mid.apart.wd; exact ⟨this.1, this.2.2⟩)).cell rfl
     have hbelow : Keep (fun b => b < w.heap.size) w wr := ((Keep.of_new (D := fun b => b < w.heap.size) HK1.out).trans HBA.out).trans2 hK fun b hb h2 => ⟨(HWK.out b h2).1, (HWK.out b h2).2.1⟩
     have HBW := Lib.hid hbelow
     clear hK hD hO hbelow
     by_cases hgo : i0 < n1 ∧ i0 < 8 ∧ v.nh < v.g
     ·obtain ⟨hl1, hl2, hl3⟩ := hgo
      have hx : i0 < ms.length := by omega
      obtain ⟨b, off, us, hA, hbl, _, ⟨Ab, cb, e0, e1, e2, e3, hcb, hcm, hbb, hfi⟩, _, hcell⟩ := (HB1.out.keep HBW.out fun b hb _ => hb).at_ (k := i0) hx
      obtain ⟨x, hxx⟩ : ∃ x, x = ms[i0] := ⟨_, rfl⟩
      have hbg := HBG.out ms[i0] (List.getElem_mem hx)
      rw [← hxx] at e0 e1 e2 e3 hcb hbb hfi hbg
      subst hA
      obtain ⟨nb, hnb⟩ : ∃ nb, nb = x.body.length := ⟨_, rfl⟩
      rw [← hnb] at e3 hbb hbg hcb
      have y0 : ∀ W, Keep (fun b => b ≠ q.bd ∧ b ≠ q.bm) wr.drew W → W.cell? ⟨bw, 0, none⟩ = some (.pointer (some ⟨q.bd, 0, none⟩)) := fun W hW => (((Keep.refl _ wr).drew.trans hW).cell_some c0 (by have := HW.out.mid.apart.wd; exact ⟨this.1, this.2.2⟩))
      have y3 : ∀ W, Keep (fun b => b ≠ q.bd ∧ b ≠ q.bm) wr.drew W → W.cell? ⟨b, off + i0 * 4 + 3, none⟩ = some (.slice Ab nb cb) := fun W hW => (((Keep.refl _ wr).drew.trans hW).cell_some (hcell 3 _ e3) ⟨(HWK.out b hbl).1, (HWK.out b hbl).2.1⟩)
      have hl4 : (i0 : Int) < (n1 : Int) := by omega
      have hl5 : (i0 : Int) < 8 := by omega
      have hl6 : (v.nh : Int) < (v.g : Int) := by omega
      have hd4 : decide ((i0 : Int) < (n1 : Int)) = true := decide_eq_true hl4
      have hd5 : decide ((i0 : Int) < 8) = true := decide_eq_true hl5
      have hd6 : decide ((v.nh : Int) < (v.g : Int)) = true := decide_eq_true hl6
      have hbo : 1 + nb ≤ 140737488355328 := by omega
      have hw5 : IntKind.i64.wrap ((f : Int) + (i0 : Int)) = ((f + i0 : Nat) : Int) := by have hf2 := hf.out; rw [IntWalk.i64_in _ (by have := HP.out; omega)]; omega
      have HBB := Lib.hid hbb
      have HXX := Lib.hid (And.intro hnb (And.intro hcb hcm))
      clear e0 e1 e2 e3 hcell hbb hcb hcm hfi hxx hbg hnb
      go_wp2_with fail
      refine hold_beginS (Keep (fun b => b ≠ q.bd ∧ b ≠ q.bm) wr.drew) (by kernel_rfl) ?_
      have n0 : Keep (fun b => b ≠ q.bd ∧ b ≠ q.bm) wr.drew wr.drew := Keep.refl _ _
      refine take0 0 n0 ?_
      refine take0 1 n0 ?_
      refine take0 2 n0 ?_
      refine take0 3 n0 ?_
      refine take0 4 n0 ?_
      refine take0 5 n0 ?_
      refine take0 6 n0 ?_
      refine take0 8 n0 ?_
      refine take0 9 n0 ?_
      refine take0 10 n0 ?_
      refine take0 11 n0 ?_
      refine take0 12 n0 ?_
      refine hold_step0 (i := 7) (by kernel_rfl) rfl rfl (fun K hK => ?_)
      go_simp
      go_wp2_with fail
      have k7 := (New.refl wr.drew).alloc (.cells #[.int .u8 1] 5)
      have own7 : OwnB (wr.drew.alloc (.cells #[.int .u8 1] 5)) wr.drew.heap.size 5 (some ⟨wr.drew.heap.size, 0, none⟩) 1 1 [1] := World.ownsRow_lit wr.drew #[.int .u8 1] 1 (Nat.le_refl _) (by decide) rfl
      have n1 := Keep.new n0 k7
      refine hK.out _ _ n1 ?_
      clear hK K n0
      try simp only [Act.put, ly1, ly2, ly3, ly4, ly5, ly6]
      refine hold_step0 (i := 13) (by kernel_rfl) rfl rfl (fun K hK => ?_)
      refine wp_bytes _ _ _ rfl wr.drew.heap.size _ 1 1 [1] rfl own7 _ Ab nb cb _ rfl ((HBB.out.imp fun b hb hd => hd).new ((New.refl wr).drew.new k7)) hbo k7.size ?_
      intro A8 c8 w8 own8 hg8 hbk8
      have k8 := new_app0 k7 own7 hg8
      have n2 : Keep (fun b => b ≠ q.bd ∧ b ≠ q.bm) wr.drew w8 := Keep.of_new k8
      refine hK.out _ _ n2 ?_
      clear hK K n1
      try simp only [Act.put, ly1, ly2, ly3, ly4, ly5, ly6]
      have hlb : nb = x.body.length := HXX.out.1
      have hc8 := own_cap own8
      have hm8 := own_capMax own8
      have hb8 : Bs w8 (fun b => wr.drew.heap.size ≤ b) A8 (1 + nb) (1 :: x.body) := Row.of_own own8
      have HSZ := Lib.hid (sizedK_any A8 (1 + nb) c8 128 (1 :: x.body) _ w8 hb8 (by omega) hc8 (by decide))
      have HK8 := Lib.hid k8
      clear hlb hc8 hm8 hb8 own8 hg8 hbk8 own7 k7 k8
      refine hold_step0 (i := 14) (by kernel_rfl) rfl rfl (fun K hK => ?_)
      go_simp
      refine HSZ.out.mono ?_
      rintro e w9 ⟨⟨A9, c9, rfl, o9⟩, k9⟩
      have k09 := HK8.out.new k9
      have HDI := Lib.hid (dwrite_any (HDR.out.new ((New.refl wr).drew.new k09)) HW.out.mid.on.size (fun b hb => HW.out.mid.on.disk.beyond b (by have h1 := HKR.out.size; have h2 := k09.size; have h3 : wr.drew.heap.size = wr.heap.size := rfl; omega)) (by omega) (f + i0) (by rw [hf.out, HP.out.2.2.2.2.1]; exact (HW.out.sector (by rw [← HP.out.2.2.2.2.1]; exact hl3) hl2).1) A9 c9 _ (Row.of_own o9))
      have n3 := Keep.new n2 k9
      have HK9 := Lib.hid k09
      clear o9 k9 k09 HSZ
      go_wp2_with fail
      refine hK.out _ _ n3 ?_
      clear hK K n2
      try simp only [Act.put, ly1, ly2, ly3, ly4, ly5, ly6]
      refine hold_step0 (i := 15) (by kernel_rfl) rfl rfl (fun K hK => ?_)
      go_simp
      refine HDI.out.mono ?_
      rintro e wz ⟨rfl, kz, wr1, hdz⟩
      have n4 := n3.trans kz
      have HZ := Lib.hid (And.intro n4 hdz)
      go_wp2_with fail
      refine hK.out _ _ n4 ?_
      clear hK K n3 n4 kz hdz HDI y0 y3
      try simp only [Act.put, ly1, ly2, ly3, ly4, ly5, ly6]
      refine wpAnyH_done (by kernel_rfl) ?_ _
      go_wp2_with fail
      go_roundw
      case rel => exact ⟨i0 + 1, nn + 1, _, wr1, by omega, by omega, by go_num, (HKR.out.drew).trans HZ.out.1, HZ.out.2, HOR.out.put hl3 hl2 (sized_one _)⟩
      case measure => simp [intOf]; omega
     ·skip
      have hor : ¬ (i0 : Int) < (n1 : Int) ∨ ((i0 : Int) < (n1 : Int) ∧ ¬ (i0 : Int) < 8) ∨ ((i0 : Int) < (n1 : Int) ∧ (i0 : Int) < 8 ∧ ¬ (v.nh : Int) < (v.g : Int)) := by omega
      clear hgo
      have HCR := Lib.hid (crash_any HDR.out (by omega) (fun i b hb => by
       obtain ⟨hG, j, hj, hk, _⟩ := HOR.out i b hb
       rw [HP.out.2.2.2.2.1] at hG
       have hf2 := hf.out
       rw [HP.out.2.2.2.2.1] at hf2
       have h1 := (HW.out.sector hG hj).2
       rw [← hf2] at h1
       omega) A2 n2 c2 ks ((HB2.out.keep HBW.out fun b hb _ => hb).imp fun b _ hb => ⟨(HWK.out b hb).2.2.1, (HWK.out b hb).2.1⟩) hn2 z y)
      have HGO : Hid (∀ wx (S' : List UInt8), Keep (fun b => b ≠ q.bs ∧ b ≠ q.bm) wr wx → Torn S M S' → DiskAt wx (DiskOf q) q S' Dirt.no 0 wr0 → Keep (DiskOf q) w5 wx ∧ WAt True wx D DL base bw q v s1 A c S' ∧ (∀ i, i < s1.segs.length → placeOf S' v.p i = (logOf id21 s1.segs).images.getD i []) ∧ (s1.segs.length < v.g → (segRead (placeOf S' v.p s1.segs.length)).2.2 ≠ 0 ∨ (segRead (placeOf S' v.p s1.segs.length)).1.index ≠ (s1.segs.length : Int))) := Lib.hid fun wx S' hk hT hd => by
       have hkd : Keep (DiskOf q) w5 wx := (HKR.out.imp fun b _ hb => ⟨hb.1, hb.2.2⟩).trans (hk.imp fun b _ hb => ⟨hb.2.1, hb.2.2⟩)
       have hO := HOR.out
       have hf2 := hf.out
       rw [HP.out.2.2.2.2.1] at hf2
       rw [hf2] at hO
       exact ⟨hkd, HW.out.crashed hkd ⟨_, hd⟩ hT.1, HW.out.torn hO hT⟩
      have hnx1 : v.m.next < 1000000 := by rw [HW.out.next]; have := HN.out.2; omega
      have HNX2 := Lib.hid hnx1
      have HBB2 := Lib.hid (And.intro HKR.out HDR.out)
      clear hnx1
      rcases hor with hl4 | ⟨hl4, hl5⟩ | ⟨hl4, hl5, hl6⟩
      ·have hd4 : decide ((i0 : Int) < (n1 : Int)) = false := decide_eq_false hl4
       go_wp2_with fail
       refine HCR.out.mono ?_
       rintro e w6 ⟨rfl, k6, S', hT, hd6⟩
       obtain ⟨hkd, hWT, hfo1, hfo2⟩ := HGO.out _ _ k6 hT hd6
       have HAG := Lib.hid (again_any hWT 0 (Nat.zero_le _) hfo1 hfo2)
       have HWT := Lib.hid hWT
       have HB6 := Lib.hid (HBA.out.trans (hkd.imp (E := fun b => b < w.heap.size) fun b _ hb => (HF.out b hb).2.2.2.1))
       have HK6 := Lib.hid hkd
       have c0 : w6.cell? ⟨bw, 0, none⟩ = some (.pointer (some ⟨q.bd, 0, none⟩)) := by rw [← HP.out.2.2.2.2.2.2]; exact (HCC.out.keep hkd HW.out.mid.apart.wd).cell rfl
       clear hkd hWT hfo1 hfo2 k6 hT hd6 HCR
       go_wp2_with fail
       refine HAG.out.mono ?_
       rintro e w7 ⟨rfl, k7, v7, D7, DL7, A7, c7, S7, hW7, hvk7, hvp7, hvg7, hf7, -⟩
       have HFW : Hid (∀ b, b < w.heap.size → b < w6.heap.size ∧ FarOf bw q v A b) := Lib.hid fun b hb => ⟨Nat.lt_of_lt_of_le (HF.out b hb).1 HK6.out.size, (HF.out b hb).2⟩
       have HB7 := Lib.hid (HB6.out.trans (k7.imp (E := fun b => b < w.heap.size) fun b _ hb => HFW.out b hb))
       have HFX : Hid (∀ b, b < w.heap.size → b < w7.heap.size ∧ FarOf bw q v7 A7 b) := Lib.hid fun b hb => ⟨Nat.lt_of_lt_of_le (HFW.out b hb).1 k7.size, hf7 b (HFW.out b hb).1 (HFW.out b hb).2⟩
       have hnx7 : v7.m.next < 1000000 := by rw [hW7.next]; have h1 := HN.out.2; have h2 : (⟨s1.segs, []⟩ : LogS).nxt ≤ s1.nxt := (by unfold LogS.nxt; simp only [List.length_nil]; omega); omega
       have HD1 := Lib.hid (do1_far hW7 0 (by decide) (by decide) true none 0 0 [] (Row.nil _ _ _ _) (Nat.le_refl _) (by decide) hnx7)
       clear hW7 hvk7 hvp7 hvg7 hf7 hnx7 k7 HAG
       go_wp2_with fail
       refine HD1.out.mono ?_
       rintro e w8 ⟨rfl, k8, -⟩
       have HB8 := Lib.hid (HB7.out.trans (k8.imp (E := fun b => b < w.heap.size) fun b _ hb => HFX.out b hb))
       clear k8 HD1
       go_wp2_with fail
       refine (HKN.out _).mono ?_
       rintro e w9 ⟨rfl, k9⟩
       go_wp2_with fail
       go_ret
       exact ⟨rfl, (((Keep.of_new (D := fun b => b < w.heap.size) HK1.out).trans (HB8.out.new k9)).toNew fun b hb => hb)⟩
      ·have hd4 : decide ((i0 : Int) < (n1 : Int)) = true := decide_eq_true hl4
       have hd5 : decide ((i0 : Int) < 8) = false := decide_eq_false hl5
       go_wp2_with fail
       refine HCR.out.mono ?_
       rintro e w6 ⟨rfl, k6, S', hT, hd6⟩
       obtain ⟨hkd, hWT, hfo1, hfo2⟩ := HGO.out _ _ k6 hT hd6
       have HAG := Lib.hid (again_any hWT 0 (Nat.zero_le _) hfo1 hfo2)
       have HWT := Lib.hid hWT
       have HB6 := Lib.hid (HBA.out.trans (hkd.imp (E := fun b => b < w.heap.size) fun b _ hb => (HF.out b hb).2.2.2.1))
       have HK6 := Lib.hid hkd
       have c0 : w6.cell? ⟨bw, 0, none⟩ = some (.pointer (some ⟨q.bd, 0, none⟩)) := by rw [← HP.out.2.2.2.2.2.2]; exact (HCC.out.keep hkd HW.out.mid.apart.wd).cell rfl
       clear hkd hWT hfo1 hfo2 k6 hT hd6 HCR
       go_wp2_with fail
       refine HAG.out.mono ?_
       rintro e w7 ⟨rfl, k7, v7, D7, DL7, A7, c7, S7, hW7, hvk7, hvp7, hvg7, hf7, -⟩
       have HFW : Hid (∀ b, b < w.heap.size → b < w6.heap.size ∧ FarOf bw q v A b) := Lib.hid fun b hb => ⟨Nat.lt_of_lt_of_le (HF.out b hb).1 HK6.out.size, (HF.out b hb).2⟩
       have HB7 := Lib.hid (HB6.out.trans (k7.imp (E := fun b => b < w.heap.size) fun b _ hb => HFW.out b hb))
       have HFX : Hid (∀ b, b < w.heap.size → b < w7.heap.size ∧ FarOf bw q v7 A7 b) := Lib.hid fun b hb => ⟨Nat.lt_of_lt_of_le (HFW.out b hb).1 k7.size, hf7 b (HFW.out b hb).1 (HFW.out b hb).2⟩
       have hnx7 : v7.m.next < 1000000 := by rw [hW7.next]; have h1 := HN.out.2; have h2 : (⟨s1.segs, []⟩ : LogS).nxt ≤ s1.nxt := (by unfold LogS.nxt; simp only [List.length_nil]; omega); omega
       have HD1 := Lib.hid (do1_far hW7 0 (by decide) (by decide) true none 0 0 [] (Row.nil _ _ _ _) (Nat.le_refl _) (by decide) hnx7)
       clear hW7 hvk7 hvp7 hvg7 hf7 hnx7 k7 HAG
       go_wp2_with fail
       refine HD1.out.mono ?_
       rintro e w8 ⟨rfl, k8, -⟩
       have HB8 := Lib.hid (HB7.out.trans (k8.imp (E := fun b => b < w.heap.size) fun b _ hb => HFX.out b hb))
       clear k8 HD1
       go_wp2_with fail
       refine (HKN.out _).mono ?_
       rintro e w9 ⟨rfl, k9⟩
       go_wp2_with fail
       go_ret
       exact ⟨rfl, (((Keep.of_new (D := fun b => b < w.heap.size) HK1.out).trans (HB8.out.new k9)).toNew fun b hb => hb)⟩
      ·have hd4 : decide ((i0 : Int) < (n1 : Int)) = true := decide_eq_true hl4
       have hd5 : decide ((i0 : Int) < 8) = true := decide_eq_true hl5
       have hd6 : decide ((v.nh : Int) < (v.g : Int)) = false := decide_eq_false hl6
       go_wp2_with fail
       refine HCR.out.mono ?_
       rintro e w6 ⟨rfl, k6, S', hT, hd6⟩
       obtain ⟨hkd, hWT, hfo1, hfo2⟩ := HGO.out _ _ k6 hT hd6
       have HAG := Lib.hid (again_any hWT 0 (Nat.zero_le _) hfo1 hfo2)
       have HWT := Lib.hid hWT
       have HB6 := Lib.hid (HBA.out.trans (hkd.imp (E := fun b => b < w.heap.size) fun b _ hb => (HF.out b hb).2.2.2.1))
       have HK6 := Lib.hid hkd
       have c0 : w6.cell? ⟨bw, 0, none⟩ = some (.pointer (some ⟨q.bd, 0, none⟩)) := by rw [← HP.out.2.2.2.2.2.2]; exact (HCC.out.keep hkd HW.out.mid.apart.wd).cell rfl
       clear hkd hWT hfo1 hfo2 k6 hT hd6 HCR
       go_wp2_with fail
       refine HAG.out.mono ?_
       rintro e w7 ⟨rfl, k7, v7, D7, DL7, A7, c7, S7, hW7, hvk7, hvp7, hvg7, hf7, -⟩
       have HFW : Hid (∀ b, b < w.heap.size → b < w6.heap.size ∧ FarOf bw q v A b) := Lib.hid fun b hb => ⟨Nat.lt_of_lt_of_le (HF.out b hb).1 HK6.out.size, (HF.out b hb).2⟩
       have HB7 := Lib.hid (HB6.out.trans (k7.imp (E := fun b => b < w.heap.size) fun b _ hb => HFW.out b hb))
       have HFX : Hid (∀ b, b < w.heap.size → b < w7.heap.size ∧ FarOf bw q v7 A7 b) := Lib.hid fun b hb => ⟨Nat.lt_of_lt_of_le (HFW.out b hb).1 k7.size, hf7 b (HFW.out b hb).1 (HFW.out b hb).2⟩
       have hnx7 : v7.m.next < 1000000 := by rw [hW7.next]; have h1 := HN.out.2; have h2 : (⟨s1.segs, []⟩ : LogS).nxt ≤ s1.nxt := (by unfold LogS.nxt; simp only [List.length_nil]; omega); omega
       have HD1 := Lib.hid (do1_far hW7 0 (by decide) (by decide) true none 0 0 [] (Row.nil _ _ _ _) (Nat.le_refl _) (by decide) hnx7)
       clear hW7 hvk7 hvp7 hvg7 hf7 hnx7 k7 HAG
       go_wp2_with fail
       refine HD1.out.mono ?_
       rintro e w8 ⟨rfl, k8, -⟩
       have HB8 := Lib.hid (HB7.out.trans (k8.imp (E := fun b => b < w.heap.size) fun b _ hb => HFX.out b hb))
       clear k8 HD1
       go_wp2_with fail
       refine (HKN.out _).mono ?_
       rintro e w9 ⟨rfl, k9⟩
       go_wp2_with fail
       go_ret
       exact ⟨rfl, (((Keep.of_new (D := fun b => b < w.heap.size) HK1.out).trans (HB8.out.new k9)).toNew fun b hb => hb)⟩
end Go.Proofs.YtajnkbfcnmajoaaGreatDoor
