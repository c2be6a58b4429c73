/-
  PROVED HERE: the law LogNumbers answers true; no condition.
-/
import Derived.Deep.CutRange
import Derived.Deep.CutBlock
import Derived.Deep.Light
import Derived.Test.YtajnkbfcnmajoaaGreatDoorPkB00
import Derived.Test.YtajnkbfcnmajoaaGreatDoorPkB29
import Derived.Test.YtajnkbfcnmajoaaGreatDoorPkB47
import Derived.Test.YtajnkbfcnmajoaaGreatDoorPkM00
import Derived.Test.YtajnkbfcnmajoaaGreatDoorPkM01
import Derived.Test.YtajnkbfcnmajoaaGreatDoorPkM02
namespace Go.Proofs.YtajnkbfcnmajoaaGreatDoor
open Go.RowKit
theorem step_nxt3 (n : Nat) (s : LogS) : (s.step n ⟨3, 0, false, []⟩).nxt ≤ s.nxt := by
 show (logOf id21 s.segs).next + (([] : List RecP).length : Int) ≤ (logOf id21 s.segs).next + (s.waits.length : Int)
 simp only [List.length_nil]
 omega
section
variable {w w' : World} {F : Nat → Prop} {bw n : Nat} {s : LogS}
theorem W21.bad (h : W21 w F bw n s) : ∃ bl : Nat, (∀ W, New w W → W.cell? ⟨bw, 7, none⟩ = some (.pointer (some ⟨bl, 0, none⟩))) ∧ (∀ W, New w W → Calls Tryz.prog 16 #[.pointer (some ⟨bl, 0, none⟩)] W fun e w' => e = .returned (.int .u64 s.nxt) ∧ New W w') ∧
  ∀ W, New w W → Calls Tryz.prog 15 #[.pointer (some ⟨bl, 0, none⟩), .agg #[.int .i64 9, .int .u64 s.nxt, .slice none 0 0]] W fun e w' => e = .returned (.int .i64 12) ∧ New W w' := by
 obtain ⟨base, q, v, D, DL, A, c, S, h, hn, hF⟩ := h
 have hl := h.mid.on.log
 exact ⟨v.bl, fun W hW => (h.mid.doc.cells.new hW).cell rfl, fun W hW => next21_any (hl.new hW), fun W hW => lappend_bad (h.mid.on.new hW) ⟨9, s.nxt, []⟩ none 0 0 rfl (by decide) (.inl (by rw [recRight_def]; exact decide_eq_false (fun hh => hh.2.2.elim (fun h1 => absurd (show (9 : Int) = 1 from h1) (by decide)) (fun h1 => absurd (show (9 : Int) = 2 from h1.1) (by decide)))))⟩
theorem W21.disk (h : W21 w F bw 64 s) : ∃ (q : DiskB) (S : List UInt8), (∀ W, New w W → Clean W q S) ∧ S.length = 64 * 128 ∧ (∀ W, New w W → W.cell? ⟨bw, 0, none⟩ = some (.pointer (some ⟨q.bd, 0, none⟩)) ∧ W.cell? ⟨bw, 1, none⟩ = some (.int .i64 64) ∧ W.cell? ⟨bw, 2, none⟩ = some (.int .i64 16) ∧ W.cell? ⟨bw, 3, none⟩ = some (.int .i64 3)) ∧
  foundIn S 16 3 0 1 (genesisOf [97, 110, 111, 116, 104, 101, 114]) = [] := by
 obtain ⟨base, q, v, D, DL, A, c, S, h, hn, hF⟩ := h
 have hp := planRight_iff.1 h.mid.on.plan
 have e1 : (v.p : Int) = (v.k : Int) / 4 := hp.2.2.1
 have e2 := h.segs.1
 rw [hn] at e1 e2
 have e1 : v.p = 16 := by omega
 have e2 : v.g = 3 := by rw [e2]; rfl
 have hc := h.mid.doc.cells
 have hbd := h.mid.bd
 refine ⟨q, S, fun W hW => h.mid.on.disk.new hW, by have h1 := h.mid.on.size; have h2 : (lvOf v s).s = v.k := rfl; rw [h2, hn] at h1; exact h1, fun W hW => ⟨?_, ?_, ?_, ?_⟩, ?_⟩
 ·rw [← hbd]; exact (hc.new hW).cell rfl
 ·have h1 : W.cell? ⟨bw, 1, none⟩ = some (.int .i64 v.k) := (hc.new hW).cell rfl
  rw [hn] at h1; exact h1
 ·have h1 : W.cell? ⟨bw, 2, none⟩ = some (.int .i64 v.p) := (hc.new hW).cell rfl
  rw [e1] at h1; exact h1
 ·have h1 : W.cell? ⟨bw, 3, none⟩ = some (.int .i64 v.g) := (hc.new hW).cell rfl
  rw [e2] at h1; exact h1
 ·have hl := h.laid.resolve_left id
  rw [e1, e2] at hl
  have h0 := hl 0 (by decide)
  have hfine := h.st.fine
  unfold foundIn
  by_cases hz : s.segs.length = 0
  ·have hi : (logOf id21 s.segs).images = [] := List.eq_nil_of_length_eq_zero (by rw [hfine.ok.images, hz])
   rw [hi] at h0
   have h1 : placeOf S 16 0 = List.replicate 1024 0 := h0
   rw [if_neg]
   rintro ⟨g1, _⟩
   refine no_nought _ ?_ g1
   rw [h1, List.take_replicate]; rfl
  ·have hlt : 0 < s.segs.length := by omega
   have hr := hfine.read hlt
   have hi : (logOf id21 s.segs).images.getD 0 (List.replicate 1024 0) = (logOf id21 s.segs).images.getD 0 [] := by
    rw [List.getD_eq_getElem?_getD, List.getD_eq_getElem?_getD, List.getElem?_eq_getElem (by rw [hfine.ok.images]; exact hlt)]; rfl
   rw [hi] at h0
   rw [if_neg]
   rintro ⟨_, _, _, g4⟩
   rw [h0, hr] at g4
   dsimp only at g4
   rw [head_at hfine hlt] at g4
   exact genesis_other g4
end
set_option maxRecDepth 200000 in
set_option maxHeartbeats 16000000 in
theorem numbers21_any (w : World) : Calls Tryz.prog 3 #[] w fun e w' => e = .returned (.bool true) ∧ New w w' := by
 have HBE := Lib.hid (begin21_st 64 (by decide) (by decide) w)
 have HKN := Lib.hid (fun W => known21_any W)
 go_enter Tryz.func3, Tryz.ntmps3
 go_wp2_with fail
 refine HBE.out.mono ?_
 rintro e w1 ⟨k1, bw, rfl, h1⟩
 have HK1 := Lib.hid k1
 have H1 := Lib.hid h1
 clear k1 h1 HBE
 go_wp2_with fail
 go_loopw [2] (fun i wx => ∃ (i0 : Nat) (s : LogS), i0 ≤ 30 ∧ i = .int .i64 (i0 : Int) ∧ s.nxt ≤ 1 + 2 * (i0 : Int) ∧ W21 wx (fun b => b < w.heap.size) bw 64 s ∧ Keep (fun b => b < w.heap.size) w1 wx) (fun i _ => 30 - (intOf i).toNat)
 case atStart => exact ⟨0, ⟨[], []⟩, Nat.zero_le _, rfl, by decide +kernel, H1.out, Keep.refl _ _⟩
 case round =>
  obtain ⟨i0, s, hi3, rfl, hnx, hs, hkb⟩ := hrel
  have HS := Lib.hid hs
  have HKB := Lib.hid hkb
  have HNX := Lib.hid hnx
  clear hs hkb hnx
  by_cases hlt : i0 < 30
  ·have hl3 : (i0 : Int) < 30 := by omega
   obtain ⟨Zc, hZc⟩ : ∃ Zc : Array Value, Zc = ((List.replicate 300 (0 : UInt8)).map byteVal).toArray := ⟨_, rfl⟩
   have hmk : ∀ W, (Instr.makeSlice 25 (.int .i64 300) (.int .i64 300)).run Tryz.prog W = .ok (.slice (some ⟨W.heap.size, 0, none⟩) 300 300) (W.alloc (.cells Zc 5)) := fun W => by rw [hZc]; exact make_noughts 300 (by decide) W
   have HDO := Lib.hid (HS.out.actMade 300 Zc (by rw [hZc]) (by decide) (by have := HNX.out; omega))
   replace hZc := Lib.hid hZc
   obtain ⟨rm, hrm0⟩ : ∃ rm, rm = i0 % 11 := ⟨_, rfl⟩
   have hrm2 : (i0 : Int) % 11 = (rm : Int) := by omega
   have hrm4 : (i0 : Int).tmod 11 = (rm : Int) := by rw [Int.tmod_eq_emod_of_nonneg (by omega), hrm2]
   have hrm5 : i0 % 11 = rm := hrm0.symm
   have hrm3 : IntKind.i64.wrap (rm : Int) = (rm : Int) := IntWalk.i64_in _ (by omega)
   replace hrm0 := Lib.hid hrm0
   obtain ⟨s1, hs1⟩ : ∃ s1, s1 = s.step (segsOf 64) ⟨1, 0, false, List.replicate 300 0⟩ := ⟨_, rfl⟩
   have HN1 := Lib.hid (step_nxt (segsOf 64) s ⟨1, 0, false, List.replicate 300 0⟩)
   rw [← hs1] at HDO HN1
   replace hs1 := Lib.hid hs1
   go_wp2_with fail
   refine HDO.out.mono ?_
   rintro e w2 ⟨rfl, b2, h2⟩
   have HB2 := Lib.hid ((Keep.of_new (D := fun b => b < w.heap.size) ((New.refl wr).alloc (.cells Zc 5))).trans b2)
   have H2 := Lib.hid h2
   clear b2 h2 HDO hmk
   by_cases hre : rm = 10
   ·have hrq : (rm : Int) = 10 := by omega
    have HD2 := Lib.hid (H2.out.actNil 3 0 false (by decide) (by decide) (by have := HNX.out; have := HN1.out; omega) rfl)
    clear hre
    go_wp2_with fail
    refine HD2.out.mono ?_
    rintro e w3 ⟨rfl, b3, h3⟩
    have HF3 := Lib.hid (And.intro b3 h3)
    clear b3 h3 HD2
    have HD3 := Lib.hid (HF3.out.2.actNil 1 (i0 : Int) true (by decide) (by omega) (by have := HNX.out; have := HN1.out; have h3 := step_nxt3 (segsOf 64) s1; omega) rfl)
    go_wp2_with fail
    refine HD3.out.mono ?_
    rintro e w4 ⟨rfl, b4, h4⟩
    have HF := Lib.hid (And.intro b4 h4)
    clear b4 h4 HD3
    go_wp2_with fail
    go_roundw
    case rel => exact ⟨i0 + 1, _, by omega, by go_num, by have h1 := HNX.out; have h2 := HN1.out; have h3 := step_nxt3 (segsOf 64) s1; have h4 := step_nxt (segsOf 64) (s1.step (segsOf 64) ⟨3, 0, false, []⟩) ⟨1, (i0 : Int), true, []⟩; (first | omega | (refine Int.le_trans h4 ?_; omega)), HF.out.2, ((HKB.out.trans HB2.out).trans HF3.out.1).trans HF.out.1⟩
    case measure => simp [intOf]; omega
   ·have hrq : ¬ (rm : Int) = 10 := by omega
    clear hre
    have HD3 := Lib.hid (H2.out.actNil 1 (i0 : Int) true (by decide) (by omega) (by have := HNX.out; have := HN1.out; omega) rfl)
    go_wp2_with fail
    refine HD3.out.mono ?_
    rintro e w4 ⟨rfl, b4, h4⟩
    have HF := Lib.hid (And.intro b4 h4)
    clear b4 h4 HD3
    go_wp2_with fail
    go_roundw
    case rel => exact ⟨i0 + 1, _, by omega, by go_num, by have h1 := HNX.out; have h2 := HN1.out; have h4 := step_nxt (segsOf 64) s1 ⟨1, (i0 : Int), true, []⟩; (first | omega | (refine Int.le_trans h4 ?_; omega)), HF.out.2, (HKB.out.trans HB2.out).trans HF.out.1⟩
    case measure => simp [intOf]; omega
  ·obtain rfl : i0 = 30 := by omega
   have hl3 : ¬ ((30 : Nat) : Int) < 30 := by decide
   obtain ⟨s1, hs1⟩ : ∃ s1, s.step (segsOf 64) ⟨2, 0, false, []⟩ = s1 := ⟨_, rfl⟩
   obtain ⟨s2, hs2⟩ : ∃ s2, s1.step (segsOf 64) ⟨2, 0, false, []⟩ = s2 := ⟨_, rfl⟩
   obtain ⟨s3, hs3⟩ : ∃ s3, s2.step (segsOf 64) ⟨1, 0, true, []⟩ = s3 := ⟨_, rfl⟩
   have hn1 := step_nxt (segsOf 64) s ⟨2, 0, false, []⟩
   have hn2 := step_nxt (segsOf 64) s1 ⟨2, 0, false, []⟩
   have hn0 := HNX.out
   rw [hs1] at hn1
   rw [hs2] at hn2
   have HN := Lib.hid (show s.nxt < 1000000 ∧ s1.nxt < 1000000 ∧ s2.nxt < 1000000 by omega)
   clear hn0 hn1 hn2
   replace hs1 := Lib.hid hs1
   replace hs2 := Lib.hid hs2
   replace hs3 := Lib.hid hs3
   have HD1 := Lib.hid (HS.out.actNil 2 0 false (by decide) (by decide) HN.out.1 hs1.out)
   go_wp2_with fail
   refine HD1.out.mono ?_
   rintro e wa ⟨rfl, ba, ha⟩
   have HBA := Lib.hid (HKB.out.trans ba)
   have HD2 := Lib.hid (ha.actNil 2 0 false (by decide) (by decide) HN.out.2.1 hs2.out)
   clear ba ha HD1
   go_wp2_with fail
   refine HD2.out.mono ?_
   rintro e wb ⟨rfl, ba, ha⟩
   have HBA := Lib.hid (HBA.out.trans ba)
   have HD3 := Lib.hid (ha.actNil 1 0 true (by decide) (by decide) HN.out.2.2 hs3.out)
   clear ba ha HD2
   go_wp2_with fail
   refine HD3.out.mono ?_
   rintro e wc' ⟨rfl, ba, ha⟩
   have HBA := Lib.hid (HBA.out.trans ba)
   have HSF := Lib.hid ha.safe
   have H3 := Lib.hid ha
   clear ba ha HD3
   go_wp2_with fail
   refine HSF.out.mono ?_
   rintro e wd ⟨rfl, kd⟩
   have HBA := Lib.hid (HBA.out.new kd)
   have H3 := Lib.hid (H3.out.new kd)
   clear kd HSF HS HKB
   go_wp2_with fail
   obtain ⟨q, S, hCl, hSl, hce, hfo⟩ := H3.out.disk
   have HCL := Lib.hid hCl
   have HSL := Lib.hid hSl
   have HCE := Lib.hid hce
   have HFO := Lib.hid hfo
   clear hCl hSl hce hfo
   go_loopw [3] (fun i wx => ∃ k : Nat, k ≤ 9 ∧ i = .int .i64 (k : Int) ∧ New wd wx) (fun i _ => 9 - (intOf i).toNat)
   case atStart => exact ⟨0, Nat.zero_le _, rfl, New.refl _⟩
   case round =>
    obtain ⟨k, hk9, rfl, hK⟩ := hrel
    have HK := Lib.hid hK
    clear hK
    by_cases hlk : k < 9
    ·have hl9 : (k : Int) < 9 := by omega
     go_upto_region 14 with fail
     go_cut [4, 5, 6, 7, 8] from 69 to 141 (fun s4 s5 s6 s7 s8 wx => ∃ (g5 Z : Nat), s4 = .pointer (some ⟨q.bd, 0, none⟩) ∧ s5 = .pointer (some ⟨g5, 0, none⟩) ∧ s6 = .int .i64 0 ∧ s7 = .slice (some ⟨Z, 0, none⟩) 32 32 ∧ s8 = .int .u64 1 ∧ wx.heap[g5]? = some (.cells #[.int .i64 64, .int .i64 16, .int .i64 3] 31 (0, 0)) ∧ wr.heap.size ≤ g5 ∧ New wr wx)
     case first =>
      obtain ⟨Zc, hZc⟩ : ∃ Zc : Array Value, Zc = ((List.replicate 32 (0 : UInt8)).map byteVal).toArray := ⟨_, rfl⟩
      have hmk : ∀ W, (Instr.makeSlice 25 (.int .i64 32) (.int .i64 32)).run Tryz.prog W = .ok (.slice (some ⟨W.heap.size, 0, none⟩) 32 32) (W.alloc (.cells Zc 5)) := fun W => by rw [hZc]; exact make_noughts 32 (by decide) W
      have HMK := Lib.hid hmk
      clear hmk
      replace hZc := Lib.hid hZc
      have n3r : New wr wr.drew := (New.refl wr).drew
      refine hold_beginS (New wr.drew) (by kernel_rfl) ?_
      have HK4 := Lib.hid (HK.out.new n3r)
      have hz7 : wr.heap.size = wr.drew.heap.size := rfl
      have r0 : ∀ W, New wr.drew W → W.cell? ⟨bw, 0, none⟩ = some (.pointer (some ⟨q.bd, 0, none⟩)) := fun W hW => (HCE.out W (HK4.out.new hW)).1
      have r1 : ∀ W, New wr.drew W → W.cell? ⟨bw, 1, none⟩ = some (.int .i64 64) := fun W hW => (HCE.out W (HK4.out.new hW)).2.1
      have r2 : ∀ W, New wr.drew W → W.cell? ⟨bw, 2, none⟩ = some (.int .i64 16) := fun W hW => (HCE.out W (HK4.out.new hW)).2.2.1
      have r3 : ∀ W, New wr.drew W → W.cell? ⟨bw, 3, none⟩ = some (.int .i64 3) := fun W hW => (HCE.out W (HK4.out.new hW)).2.2.2
      generalize wr.drew = w4 at *
      have n0 : New w4 w4 := New.refl _
      refine take0 0 n0 ?_
      refine take0 1 n0 ?_
      refine take0 2 n0 ?_
      refine take0 3 n0 ?_
      refine take0 4 n0 ?_
      refine take0 5 n0 ?_
      refine take0 6 n0 ?_
      refine take0 7 n0 ?_
      clear r0 r1 r2 r3
      refine hold_fork0 (i := 8) (j := 9) (by kernel_rfl) rfl rfl rfl rfl (fun K hK => ?_) (fun K hK => ?_)
      ·skip
       have hmk := HMK.out
       go_simp
       try go_wp2_with fail
       have n1 := n0.alloc (.cells Zc 5)
       have kz9 := (New.refl w4).alloc (.cells Zc 5)
       have hz8 : w4.heap.size ≤ (w4.alloc (.cells Zc 5)).heap.size := kz9.size
       refine hK.out _ _ n1 ?_
       clear hK K hmk
       try simp only [Act.put, ly1, ly2, ly3, ly4, ly5, ly6]
       generalize w4.alloc (.cells Zc 5) = wm at *
       generalize hgm : w4.heap.size = gm at hz8 ⊢
       refine hold_step0 (i := 9) (by kernel_rfl) rfl rfl (fun K hK => ?_)
       go_simp
       try go_wp2_with fail
       have n2 := n1.alloc (.cells #[.int .i64 0, .int .i64 0, .int .i64 0] 31)
       have hxz := heap_alloc_new wm (.cells #[.int .i64 0, .int .i64 0, .int .i64 0] 31)
       have hgz := Keep.size n1
       refine hK.out _ _ n2 ?_
       clear hK K
       try simp only [Act.put, ly1, ly2, ly3, ly4, ly5, ly6]
       generalize wm.alloc (.cells #[.int .i64 0, .int .i64 0, .int .i64 0] 31) = wz at *
       generalize hge : wm.heap.size = gh at hxz hgz ⊢
       refine take0 10 n2 ?_
       obtain ⟨z0, z1, z2⟩ := fz3 hxz
       obtain ⟨d0, d1, d2⟩ := cs3 hxz
       refine hold_step0 (i := 11) (by kernel_rfl) rfl rfl (fun K hK => ?_)
       go_simp
       obtain ⟨hxf, kf⟩ := three_cells hxz (.int .i64 64) (.int .i64 16) (.int .i64 3)
       have nf := ((Keep.of_new (D := fun b => b < w4.heap.size) n2).trans2 kf (fun b _ hb e => by omega)).toNew (fun b hb => hb)
       refine hK.out _ _ nf ?_
       clear hK K z0 z1 z2 d0 d1 d2 kf
       try simp only [Act.put, ly1, ly2, ly3, ly4, ly5, ly6]
       generalize World.setCell _ _ _ = wf at *
       refine take0 12 nf ?_
       refine take0 13 nf ?_
       refine take0 14 nf ?_
       refine wpAnyH_done (by kernel_rfl) ?_ _
       go_wp2_with fail
       go_meet
       exact ⟨_, _, rfl, rfl, rfl, rfl, rfl, hxf, by omega, n3r.new nf⟩
      ·skip
       go_simp
       try go_wp2_with fail
       have n1 := n0.alloc (.cells #[.int .i64 0, .int .i64 0, .int .i64 0] 31)
       have hxz := heap_alloc_new w4 (.cells #[.int .i64 0, .int .i64 0, .int .i64 0] 31)
       have hgz := Keep.size n0
       refine hK.out _ _ n1 ?_
       clear hK K
       try simp only [Act.put, ly1, ly2, ly3, ly4, ly5, ly6]
       generalize w4.alloc (.cells #[.int .i64 0, .int .i64 0, .int .i64 0] 31) = wz at *
       generalize hge : w4.heap.size = gh at hxz hgz ⊢
       refine take0 10 n1 ?_
       refine hold_fork0 (i := 8) (j := 11) (by kernel_rfl) rfl rfl rfl rfl (fun K hK => ?_) (fun K hK => ?_)
       ·skip
        have hmk := HMK.out
        go_simp
        try go_wp2_with fail
        have n2 := n1.alloc (.cells Zc 5)
        have kz9 := (New.refl wz).alloc (.cells Zc 5)
        have hz8 : wz.heap.size ≤ (wz.alloc (.cells Zc 5)).heap.size := kz9.size
        refine hK.out _ _ n2 ?_
        clear hK K hmk
        try simp only [Act.put, ly1, ly2, ly3, ly4, ly5, ly6]
        generalize wz.alloc (.cells Zc 5) = wm at *
        generalize hgm : wz.heap.size = gm at hz8 ⊢
        have hxz := kz9.blockAt hxz trivial
        obtain ⟨z0, z1, z2⟩ := fz3 hxz
        obtain ⟨d0, d1, d2⟩ := cs3 hxz
        refine hold_step0 (i := 11) (by kernel_rfl) rfl rfl (fun K hK => ?_)
        go_simp
        obtain ⟨hxf, kf⟩ := three_cells hxz (.int .i64 64) (.int .i64 16) (.int .i64 3)
        have nf := ((Keep.of_new (D := fun b => b < w4.heap.size) n2).trans2 kf (fun b _ hb e => by omega)).toNew (fun b hb => hb)
        refine hK.out _ _ nf ?_
        clear hK K z0 z1 z2 d0 d1 d2 kf
        try simp only [Act.put, ly1, ly2, ly3, ly4, ly5, ly6]
        generalize World.setCell _ _ _ = wf at *
        refine take0 12 nf ?_
        refine take0 13 nf ?_
        refine take0 14 nf ?_
        refine wpAnyH_done (by kernel_rfl) ?_ _
        go_wp2_with fail
        go_meet
        exact ⟨_, _, rfl, rfl, rfl, rfl, rfl, hxf, by omega, n3r.new nf⟩
       ·skip
        obtain ⟨z0, z1, z2⟩ := fz3 hxz
        obtain ⟨d0, d1, d2⟩ := cs3 hxz
        go_simp
        obtain ⟨hxf, kf⟩ := three_cells hxz (.int .i64 64) (.int .i64 16) (.int .i64 3)
        have nf := ((Keep.of_new (D := fun b => b < w4.heap.size) n1).trans2 kf (fun b _ hb e => by omega)).toNew (fun b hb => hb)
        refine hK.out _ _ nf ?_
        clear hK K z0 z1 z2 d0 d1 d2 kf
        try simp only [Act.put, ly1, ly2, ly3, ly4, ly5, ly6]
        generalize World.setCell _ _ _ = wf at *
        refine take0 12 nf ?_
        refine hold_step0 (i := 8) (by kernel_rfl) rfl rfl (fun K hK => ?_)
        have hmk := HMK.out
        go_simp
        try go_wp2_with fail
        have n3 := nf.alloc (.cells Zc 5)
        have kz9 := (New.refl wf).alloc (.cells Zc 5)
        have hz8 : wf.heap.size ≤ (wf.alloc (.cells Zc 5)).heap.size := kz9.size
        refine hK.out _ _ n3 ?_
        clear hK K hmk
        try simp only [Act.put, ly1, ly2, ly3, ly4, ly5, ly6]
        generalize wf.alloc (.cells Zc 5) = wm at *
        generalize hgm : wf.heap.size = gm at hz8 ⊢
        have hxf := kz9.blockAt hxf trivial
        refine take0 13 n3 ?_
        refine take0 14 n3 ?_
        refine wpAnyH_done (by kernel_rfl) ?_ _
        go_wp2_with fail
        go_meet
        exact ⟨_, _, rfl, rfl, rfl, rfl, rfl, hxf, by omega, n3r.new n3⟩
     case rest =>
      obtain ⟨g5, Z, rfl, rfl, rfl, rfl, rfl, hx5, hg5, k5⟩ := hcut
      have HX5 := Lib.hid hx5
      have HK5 := Lib.hid (HK.out.new k5)
      have hg5l := (Array.getElem?_eq_some_iff.1 hx5).1
      have HKR := Lib.hid k5
      clear hx5 k5
      obtain ⟨wy, hwy⟩ : ∃ wy, wy = wc := ⟨_, rfl⟩
      rw [← hwy] at HX5 HK5 HKR hg5l ⊢
      clear hwy
      go_upto_block 4 with fail
      go_cut [4, 6, 7, 8] from 69 to 141 (fun s4 s6 s7 s8 wx => ∃ (s p g fr next : Int) (Hd : Option Addr) (nh hc : Nat), s6 = .int .i64 fr ∧ s7 = .slice Hd nh hc ∧ s8 = .int .u64 next ∧ wx.heap[g5]? = some (.cells #[.int .i64 s, .int .i64 p, .int .i64 g] 31 (0, 0)) ∧ New wr wx ∧ ∀ W, New wx W → ∀ (I : Option Addr) (ni ci : Nat), Calls Tryz.prog 13 #[s4, .agg #[.int .i64 s, .int .i64 p, .int .i64 g], .slice I ni ci, .int .i64 fr, .slice Hd nh hc, .int .u64 next] W fun e w' => e = .returned (.tuple #[.pointer none, .slice none 0 0, .int .i64 1]) ∧ New W w')
      case first =>
       have hks : k = 0 ∨ k = 1 ∨ k = 2 ∨ k = 3 ∨ k = 4 ∨ k = 5 ∨ k = 6 ∨ k = 7 ∨ k = 8 := by omega
       have HSR : Hid (-9223372036854775808 ≤ (64 : Int) ∧ (64 : Int) ≤ 9223372036854775807) := Lib.hid (by decide)
       have HPR : Hid (planRight 64 16 3 = true) := Lib.hid (by decide)
       clear hl9 hlk hk9
       rcases hks with rfl | rfl | rfl | rfl | rfl | rfl | rfl | rfl | rfl
       ·skip
        go_wp2_with fail
        go_meet
        exact ⟨64, 16, 3, 0, 1, _, _, _, rfl, rfl, rfl, HX5.out, HKR.out, fun W hW I ni ci => lopen_nil 64 16 3 0 1 HSR.out I _ ni ci _ _⟩
       ·skip
        obtain ⟨d0, d1, d2⟩ := cs3 HX5.out
        obtain ⟨z0, z1, z2⟩ := fz3 HX5.out
        go_wp2_with fail
        go_meet
        have hst := setCell_block HX5.out 1 (.int .i64 17)
        have kst : New wr (wy.setCell ⟨g5, 1, none⟩ (.int .i64 17)) := ((Keep.of_new (D := fun b => b < wr.heap.size) HKR.out).setCell (p := ⟨g5, 1, none⟩) (fun hb => by have hb : g5 < wr.heap.size := hb; omega) _).toNew fun b hb => hb
        exact ⟨64, 17, 3, 0, 1, _, _, _, rfl, rfl, rfl, hst, kst, fun W hW I ni ci => lopen_plan 64 17 3 0 1 HSR.out I _ ni ci _ _ (by decide)⟩
       ·skip
        go_wp2_with fail
        go_meet
        exact ⟨64, 16, 3, -1, 1, _, _, _, rfl, rfl, rfl, HX5.out, HKR.out, fun W hW I ni ci => lopen_below 64 16 3 (-1) 1 HSR.out I _ ni ci _ _ HPR.out (HCL.out W (HK5.out.new hW)) HSL.out rfl (by decide)⟩
       ·skip
        obtain ⟨d0, d1, d2⟩ := cs3 HX5.out
        go_wp2_with fail
        go_meet
        exact ⟨64, 16, 3, 4, 1, _, _, _, rfl, rfl, rfl, HX5.out, HKR.out, fun W hW I ni ci => lopen_above 64 16 3 4 1 HSR.out I _ ni ci _ _ HPR.out (HCL.out W (HK5.out.new hW)) HSL.out rfl (by decide) (by decide)⟩
       ·skip
        go_wp2_with fail
        go_meet
        exact ⟨64, 16, 3, 0, 1, _, _, _, rfl, rfl, rfl, HX5.out, HKR.out, fun W hW I ni ci => lopen_head 64 16 3 0 1 HSR.out I _ ni ci _ _ HPR.out (HCL.out W (HK5.out.new hW)) HSL.out rfl (by decide) (by decide) (by decide)⟩
       ·skip
        go_wp2_with fail
        go_meet
        exact ⟨64, 16, 3, 0, 0, _, _, _, rfl, rfl, rfl, HX5.out, HKR.out, fun W hW I ni ci => lopen_first 64 16 3 0 0 HSR.out I _ ni ci _ _ HPR.out (HCL.out W (HK5.out.new hW)) HSL.out rfl (by decide) (by decide) rfl (by decide)⟩
       ·skip
        go_wp2_with fail
        go_meet
        exact ⟨64, 16, 3, 0, 1099511627777, _, _, _, rfl, rfl, rfl, HX5.out, HKR.out, fun W hW I ni ci => lopen_time 64 16 3 0 1099511627777 HSR.out I _ ni ci _ _ HPR.out (HCL.out W (HK5.out.new hW)) HSL.out rfl (by decide) (by decide) rfl (by decide) (by decide)⟩
       ·skip
        obtain ⟨d0, d1, d2⟩ := cs3 HX5.out
        obtain ⟨z0, z1, z2⟩ := fz3 HX5.out
        go_wp2_with fail
        go_meet
        obtain ⟨hst, kst⟩ := three_cells HX5.out (.int .i64 0) (.int .i64 0) (.int .i64 0)
        have kst := ((Keep.of_new (D := fun b => b < wr.heap.size) HKR.out).trans2 kst (fun b _ hb e => by have hb : b < wr.heap.size := hb; omega)).toNew fun b hb => hb
        exact ⟨0, 0, 0, 0, 1, _, _, _, rfl, rfl, rfl, hst, kst, fun W hW I ni ci => lopen_plan 0 0 0 0 1 (by decide) I _ ni ci _ _ (by decide)⟩
       ·skip
        have hof := of19_any 65 (by decide) wy
        have hpo : planOf 65 = (65, 16, 4, 0) := by decide
        rw [hpo] at hof
        have HOF := Lib.hid hof
        clear hof hpo
        go_wp2_with fail
        refine HOF.out.mono ?_
        rintro e wo ⟨rfl, ko⟩
        dsimp only
        have R19 := (New.refl wo).alloc (.cells #[.int .i64 65, .int .i64 16, .int .i64 4] 32)
        have x9 := heap_alloc_new wo (.cells #[.int .i64 65, .int .i64 16, .int .i64 4] 32)
        have hx5 := (ko.new R19).blockAt HX5.out trivial
        obtain ⟨e0, e1, e2⟩ := cs3 x9
        obtain ⟨d0, d1, d2⟩ := cs3 hx5
        obtain ⟨z0, z1, z2⟩ := fz3 hx5
        go_wp2_with fail
        go_meet
        obtain ⟨hst, kst⟩ := three_cells hx5 (.int .i64 65) (.int .i64 16) (.int .i64 4)
        have kst := ((Keep.of_new (D := fun b => b < wr.heap.size) ((HKR.out.new ko).new R19)).trans2 kst (fun b _ hb e => by have hb : b < wr.heap.size := hb; omega)).toNew fun b hb => hb
        exact ⟨65, 16, 4, 0, 1, _, _, _, rfl, rfl, rfl, hst, kst, fun W hW I ni ci => lopen_sectors 65 16 4 0 1 (by decide) I _ ni ci _ _ (by decide) (HCL.out W (HK.out.new (kst.new hW))) HSL.out (by decide)⟩
      case rest =>
       obtain ⟨ps, pp, pg, fr, next, Hd, nh, hc, rfl, rfl, rfl, hx6, k6, hop⟩ := hcut
       obtain ⟨wv, hwv⟩ : ∃ wv, wv = wc := ⟨_, rfl⟩
       rw [← hwv] at hx6 k6 hop ⊢
       clear hwv
       have HOP := Lib.hid hop
       have HK6 := Lib.hid k6
       have HX6 := Lib.hid hx6
       clear hop k6 hx6
       go_upto_region 35 with fail
       have r0 : ∀ W, New wv W → W.cell? ⟨g5, 0, none⟩ = some (.int .i64 ps) := fun W hW => cellOf (k := 0) (hW.blockAt HX6.out trivial) rfl
       have r1 : ∀ W, New wv W → W.cell? ⟨g5, 1, none⟩ = some (.int .i64 pp) := fun W hW => cellOf (k := 1) (hW.blockAt HX6.out trivial) rfl
       have r2 : ∀ W, New wv W → W.cell? ⟨g5, 2, none⟩ = some (.int .i64 pg) := fun W hW => cellOf (k := 2) (hW.blockAt HX6.out trivial) rfl
       refine hold_begin (by kernel_rfl) ?_
       have n0 : New wv wv.drew := (New.refl wv).drew
       replace r0 := fun W (hW : New wv.drew W) => r0 W (Keep.new n0 hW)
       replace r1 := fun W (hW : New wv.drew W) => r1 W (Keep.new n0 hW)
       replace r2 := fun W (hW : New wv.drew W) => r2 W (Keep.new n0 hW)
       refine take1 0 ?_
       refine take1 1 ?_
       refine take1 3 ?_
       refine take1 4 ?_
       refine take1 5 ?_
       refine hold_step (i := 2) (by kernel_rfl) rfl rfl (fun K hK => ?_)
       go_simp
       refine (id21_any _).mono ?_
       rintro e w7 ⟨⟨A7, rfl, -⟩, k7⟩
       go_wp2_with fail
       refine hK.out _ _ k7 ?_
       clear hK K
       try simp only [Act.put, ly1, ly2, ly3, ly4, ly5, ly6]
       replace n0 := Keep.new n0 k7
       replace r0 := fun W (hW : New w7 W) => r0 W (Keep.new k7 hW)
       replace r1 := fun W (hW : New w7 W) => r1 W (Keep.new k7 hW)
       replace r2 := fun W (hW : New w7 W) => r2 W (Keep.new k7 hW)
       refine hold_step (i := 6) (by kernel_rfl) rfl rfl (fun K hK => ?_)
       go_simp
       refine (HOP.out _ n0 A7 16 16).mono ?_
       rintro e w8 ⟨rfl, k8⟩
       go_wp2_with fail
       refine hK.out _ _ k8 ?_
       clear hK K
       try simp only [Act.put, ly1, ly2, ly3, ly4, ly5, ly6]
       replace n0 := Keep.new n0 k8
       replace r0 := fun W (hW : New w8 W) => r0 W (Keep.new k8 hW)
       replace r1 := fun W (hW : New w8 W) => r1 W (Keep.new k8 hW)
       replace r2 := fun W (hW : New w8 W) => r2 W (Keep.new k8 hW)
       refine take1 7 ?_
       refine take1 8 ?_
       refine take1 9 ?_
       refine take1 10 ?_
       refine take1 11 ?_
       refine take1 12 ?_
       refine take1 13 ?_
       refine wpAnyH_done (by kernel_rfl) ?_ _
       clear r0 r1 r2 k7 k8
       go_wp2_with fail
       go_roundw
       case rel => exact ⟨k + 1, by omega, by go_num, HK.out.new (HK6.out.new n0)⟩
       case measure => simp [intOf]; omega
    ·obtain rfl : k = 9 := by omega
     have hl9 : ¬ ((9 : Nat) : Int) < 9 := by decide
     obtain ⟨bl, hc7, hnx7, hbad⟩ := (H3.out.new HK.out).bad
     have HNX7 := Lib.hid hnx7
     have HBAD := Lib.hid hbad
     have c7 := hc7
     clear hnx7 hbad hc7
     go_upto_region 38 with fail
     refine hold_begin (by kernel_rfl) ?_
     have n0 : New wr wr.drew := (New.refl wr).drew
     replace c7 := fun W (hW : New wr.drew W) => c7 W (Keep.new n0 hW)
     refine take1 0 ?_
     refine take1 1 ?_
     refine take1 2 ?_
     refine take1 3 ?_
     refine take1 4 ?_
     refine take1 5 ?_
     refine take1 6 ?_
     refine take1 7 ?_
     refine hold_step (i := 8) (by kernel_rfl) rfl rfl (fun K hK => ?_)
     go_simp
     refine (HNX7.out _ n0).mono ?_
     rintro e w7 ⟨rfl, k7⟩
     go_wp2_with fail
     refine hK.out _ _ k7 ?_
     clear hK K
     try simp only [Act.put, ly1, ly2, ly3, ly4, ly5, ly6]
     replace n0 := Keep.new n0 k7
     replace c7 := fun W (hW : New w7 W) => c7 W (Keep.new k7 hW)
     refine take1 9 ?_
     refine hold_step (i := 10) (by kernel_rfl) rfl rfl (fun K hK => ?_)
     go_simp
     refine (HBAD.out _ n0).mono ?_
     rintro e w8 ⟨rfl, k8⟩
     go_wp2_with fail
     refine hK.out _ _ k8 ?_
     clear hK K
     try simp only [Act.put, ly1, ly2, ly3, ly4, ly5, ly6]
     replace n0 := Keep.new n0 k8
     replace c7 := fun W (hW : New w8 W) => c7 W (Keep.new k8 hW)
     refine take1 11 ?_
     refine wpAnyH_done (by kernel_rfl) ?_ _
     have HK8 := Lib.hid (HK.out.new n0)
     clear c7 k7 k8 n0
     go_upto_region 39 with fail
     go_cut [15, 16, 17] from 142 to 191 (fun s15 s16 s17 wx => ∃ (bl2 co : Nat) (Ao : Option Addr) (D5 : Nat → Prop) (base5 : Nat) (lv : LogV), s15 = .pointer (some ⟨bl2, 0, none⟩) ∧ s16 = .slice Ao 0 co ∧ s17 = .int .i64 0 ∧ LogAt wx D5 base5 bl2 q.bd lv none 0 ∧ lv.sealed = 0 ∧ New w8 wx)
     case first =>
      obtain ⟨Zc, hZc⟩ : ∃ Zc : Array Value, Zc = ((List.replicate 32 (0 : UInt8)).map byteVal).toArray := ⟨_, rfl⟩
      have hmk : ∀ W, (Instr.makeSlice 25 (.int .i64 32) (.int .i64 32)).run Tryz.prog W = .ok (.slice (some ⟨W.heap.size, 0, none⟩) 32 32) (W.alloc (.cells Zc 5)) := fun W => by rw [hZc]; exact make_noughts 32 (by decide) W
      have HMK := Lib.hid hmk
      have HZC : Hid (Zc.toList = (List.replicate 32 (0 : UInt8)).map byteVal ∧ Zc.size = 32) := Lib.hid ⟨by rw [hZc], by rw [hZc]; rfl⟩
      clear hmk hZc
      have n3r : New w8 w8.drew := (New.refl w8).drew
      refine hold_beginS (New w8.drew) (by kernel_rfl) ?_
      have HK4 := Lib.hid (HK8.out.new n3r)
      have r0 : ∀ W, New w8.drew W → W.cell? ⟨bw, 0, none⟩ = some (.pointer (some ⟨q.bd, 0, none⟩)) := fun W hW => (HCE.out W (HK4.out.new hW)).1
      have r1 : ∀ W, New w8.drew W → W.cell? ⟨bw, 1, none⟩ = some (.int .i64 64) := fun W hW => (HCE.out W (HK4.out.new hW)).2.1
      have r2 : ∀ W, New w8.drew W → W.cell? ⟨bw, 2, none⟩ = some (.int .i64 16) := fun W hW => (HCE.out W (HK4.out.new hW)).2.2.1
      have r3 : ∀ W, New w8.drew W → W.cell? ⟨bw, 3, none⟩ = some (.int .i64 3) := fun W hW => (HCE.out W (HK4.out.new hW)).2.2.2
      generalize w8.drew = w4 at *
      have n0 : New w4 w4 := New.refl _
      have HOP : Hid (∀ W (Z Ia : Option Addr) (E1 E2 : Nat → Prop), New w4 W → Bs W E1 Z 32 (List.replicate 32 0) → Bs W E2 Ia 7 [97, 110, 111, 116, 104, 101, 114] → Calls Tryz.prog 13 #[.pointer (some ⟨q.bd, 0, none⟩), .agg #[.int .i64 64, .int .i64 16, .int .i64 3], .slice Ia 7 7, .int .i64 0, .slice Z 32 32, .int .u64 1] W (OpenRet W q S 64 16 3 0 (openNext 0 1) (openHead 0 [97, 110, 111, 116, 104, 101, 114] (List.replicate 32 0)))) := Lib.hid fun W Z Ia E1 E2 hW hZ hI => lopen_zero (s := 64) (p := 16) (g := 3) (fr := 0) (HCL.out W (HK4.out.new hW)) HSL.out (by decide) (Nat.zero_le _) rfl Z 32 (List.replicate 32 0) hZ 1 (by decide) (by decide) Ia 7 7 [97, 110, 111, 116, 104, 101, 114] hI (Nat.le_refl _) (by decide)
      refine take0 0 n0 ?_
      refine take0 1 n0 ?_
      refine take0 2 n0 ?_
      refine take0 3 n0 ?_
      refine take0 4 n0 ?_
      refine take0 5 n0 ?_
      refine take0 6 n0 ?_
      refine take0 7 n0 ?_
      clear r0 r1 r2 r3
      refine hold_fork0 (i := 8) (j := 10) (by kernel_rfl) rfl rfl rfl rfl (fun K hK => ?_) (fun K hK => ?_)
      ·skip
       go_simp
       try go_wp2_with fail
       have n1 := n0.alloc (.cells #[.int .u8 97, .int .u8 110, .int .u8 111, .int .u8 116, .int .u8 104, .int .u8 101, .int .u8 114] 5)
       have hxa := heap_alloc_new w4 (.cells #[.int .u8 97, .int .u8 110, .int .u8 111, .int .u8 116, .int .u8 104, .int .u8 101, .int .u8 114] 5)
       have hga := Keep.size n0
       refine hK.out _ _ n1 ?_
       clear hK K
       try simp only [Act.put, ly1, ly2, ly3, ly4, ly5, ly6]
       have kxa := (New.refl w4).alloc (.cells #[.int .u8 97, .int .u8 110, .int .u8 111, .int .u8 116, .int .u8 104, .int .u8 101, .int .u8 114] 5)
       generalize w4.alloc (.cells #[.int .u8 97, .int .u8 110, .int .u8 111, .int .u8 116, .int .u8 104, .int .u8 101, .int .u8 114] 5) = wa2 at *
       generalize hge : w4.heap.size = ga at hxa hga ⊢
       refine hold_fork0 (i := 9) (j := 10) (by kernel_rfl) rfl rfl rfl rfl (fun K hK => ?_) (fun K hK => ?_)
       ·skip
        obtain ⟨w0, e0, k0, l0⟩ := conv_mark 7 7 hxa
        go_simp
        try go_wp2_with fail
        have hba : Bs w0 (fun _ => True) (some ⟨ga, 0, none⟩) 7 [97, 110, 111, 116, 104, 101, 114] := Row.like (bs_cells21 [97, 110, 111, 116, 104, 101, 114] (by simp [byteVal, bv]) hxa) l0
        have n2 : New w4 w0 := ((Keep.of_new (D := fun b => b < w4.heap.size) n1).trans2 k0 (fun b _ hb e => by have hb : b < w4.heap.size := hb; omega)).toNew fun b hb => hb
        refine hK.out _ _ n2 ?_
        clear hK K e0
        try simp only [Act.put, ly1, ly2, ly3, ly4, ly5, ly6]
        refine hold_step0 (i := 10) (by kernel_rfl) rfl rfl (fun K hK => ?_)
        have hmk := HMK.out
        go_simp
        try go_wp2_with fail
        have n3 := n2.alloc (.cells Zc 5)
        have hbz := Row.made w0 5 Zc 32 1 (by rw [HZC.out.2])
        rw [HZC.out.1] at hbz
        have kz9 := (New.refl w0).alloc (.cells Zc 5)
        have hgz := Keep.size n2
        refine hK.out _ _ n3 ?_
        clear hK K hmk
        try simp only [Act.put, ly1, ly2, ly3, ly4, ly5, ly6]
        generalize w0.alloc (.cells Zc 5) = wz at *
        generalize hgm : w0.heap.size = gz at hbz hgz ⊢
        refine hold_step0 (i := 11) (by kernel_rfl) rfl rfl (fun K hK => ?_)
        go_simp
        have HO1 := Lib.hid (HOP.out _ _ _ _ _ n3 hbz (hba.new kz9))
        refine HO1.out.mono ?_
        rintro e wo ⟨ko, bl2, Ao, co, fd, hfd, rfl, hbl, hl, -⟩
        have hfd2 : fd = [] := hfd.trans HFO.out
        subst hfd2
        clear hfd
        go_wp2_with fail
        have n9 := Keep.new n3 ko
        refine hK.out _ _ n9 ?_
        clear hK K HO1
        try simp only [Act.put, ly1, ly2, ly3, ly4, ly5, ly6]
        refine take0 12 n9 ?_
        refine take0 13 n9 ?_
        refine take0 14 n9 ?_
        refine take0 15 n9 ?_
        refine take0 16 n9 ?_
        refine take0 17 n9 ?_
        refine take0 18 n9 ?_
        refine wpAnyH_done (by kernel_rfl) ?_ _
        go_wp2_with fail
        go_meet
        exact ⟨bl2, co, Ao, _, _, _, rfl, rfl, rfl, hl.log, rfl, n3r.new n9⟩
       ·skip
        have hmk := HMK.out
        go_simp
        try go_wp2_with fail
        have n2 := n1.alloc (.cells Zc 5)
        have hbz := Row.made wa2 5 Zc 32 1 (by rw [HZC.out.2])
        rw [HZC.out.1] at hbz
        have kz9 := (New.refl wa2).alloc (.cells Zc 5)
        have hgz := Keep.size n1
        refine hK.out _ _ n2 ?_
        clear hK K hmk
        try simp only [Act.put, ly1, ly2, ly3, ly4, ly5, ly6]
        generalize wa2.alloc (.cells Zc 5) = wz at *
        generalize hgm : wa2.heap.size = gz at hbz hgz ⊢
        have hxa := kz9.blockAt hxa trivial
        refine hold_step0 (i := 9) (by kernel_rfl) rfl rfl (fun K hK => ?_)
        obtain ⟨w0, e0, k0, l0⟩ := conv_mark 7 7 hxa
        go_simp
        try go_wp2_with fail
        have hba : Bs w0 (fun _ => True) (some ⟨ga, 0, none⟩) 7 [97, 110, 111, 116, 104, 101, 114] := Row.like (bs_cells21 [97, 110, 111, 116, 104, 101, 114] (by simp [byteVal, bv]) hxa) l0
        have n3 : New w4 w0 := ((Keep.of_new (D := fun b => b < w4.heap.size) n2).trans2 k0 (fun b _ hb e => by have hb : b < w4.heap.size := hb; omega)).toNew fun b hb => hb
        refine hK.out _ _ n3 ?_
        clear hK K e0
        try simp only [Act.put, ly1, ly2, ly3, ly4, ly5, ly6]
        refine hold_step0 (i := 11) (by kernel_rfl) rfl rfl (fun K hK => ?_)
        go_simp
        have HO1 := Lib.hid (HOP.out _ _ _ _ _ n3 (Row.like hbz l0) hba)
        refine HO1.out.mono ?_
        rintro e wo ⟨ko, bl2, Ao, co, fd, hfd, rfl, hbl, hl, -⟩
        have hfd2 : fd = [] := hfd.trans HFO.out
        subst hfd2
        clear hfd
        go_wp2_with fail
        have n9 := Keep.new n3 ko
        refine hK.out _ _ n9 ?_
        clear hK K HO1
        try simp only [Act.put, ly1, ly2, ly3, ly4, ly5, ly6]
        refine take0 12 n9 ?_
        refine take0 13 n9 ?_
        refine take0 14 n9 ?_
        refine take0 15 n9 ?_
        refine take0 16 n9 ?_
        refine take0 17 n9 ?_
        refine take0 18 n9 ?_
        refine wpAnyH_done (by kernel_rfl) ?_ _
        go_wp2_with fail
        go_meet
        exact ⟨bl2, co, Ao, _, _, _, rfl, rfl, rfl, hl.log, rfl, n3r.new n9⟩
      ·skip
       have hmk := HMK.out
       go_simp
       try go_wp2_with fail
       have n1 := n0.alloc (.cells Zc 5)
       have hbz := Row.made w4 5 Zc 32 1 (by rw [HZC.out.2])
       rw [HZC.out.1] at hbz
       have kz9 := (New.refl w4).alloc (.cells Zc 5)
       have hgz := Keep.size n0
       refine hK.out _ _ n1 ?_
       clear hK K hmk
       try simp only [Act.put, ly1, ly2, ly3, ly4, ly5, ly6]
       generalize w4.alloc (.cells Zc 5) = wz at *
       generalize hgm : w4.heap.size = gz at hbz hgz ⊢
       refine hold_step0 (i := 8) (by kernel_rfl) rfl rfl (fun K hK => ?_)
       go_simp
       try go_wp2_with fail
       have n2 := n1.alloc (.cells #[.int .u8 97, .int .u8 110, .int .u8 111, .int .u8 116, .int .u8 104, .int .u8 101, .int .u8 114] 5)
       have hxa := heap_alloc_new wz (.cells #[.int .u8 97, .int .u8 110, .int .u8 111, .int .u8 116, .int .u8 104, .int .u8 101, .int .u8 114] 5)
       have hga := Keep.size n1
       refine hK.out _ _ n2 ?_
       clear hK K
       try simp only [Act.put, ly1, ly2, ly3, ly4, ly5, ly6]
       have kxa := (New.refl wz).alloc (.cells #[.int .u8 97, .int .u8 110, .int .u8 111, .int .u8 116, .int .u8 104, .int .u8 101, .int .u8 114] 5)
       generalize wz.alloc (.cells #[.int .u8 97, .int .u8 110, .int .u8 111, .int .u8 116, .int .u8 104, .int .u8 101, .int .u8 114] 5) = wa2 at *
       generalize hge : wz.heap.size = ga at hxa hga ⊢
       have hbz := Row.new hbz kxa
       refine hold_step0 (i := 9) (by kernel_rfl) rfl rfl (fun K hK => ?_)
       obtain ⟨w0, e0, k0, l0⟩ := conv_mark 7 7 hxa
       go_simp
       try go_wp2_with fail
       have hba : Bs w0 (fun _ => True) (some ⟨ga, 0, none⟩) 7 [97, 110, 111, 116, 104, 101, 114] := Row.like (bs_cells21 [97, 110, 111, 116, 104, 101, 114] (by simp [byteVal, bv]) hxa) l0
       have n3 : New w4 w0 := ((Keep.of_new (D := fun b => b < w4.heap.size) n2).trans2 k0 (fun b _ hb e => by have hb : b < w4.heap.size := hb; omega)).toNew fun b hb => hb
       refine hK.out _ _ n3 ?_
       clear hK K e0
       try simp only [Act.put, ly1, ly2, ly3, ly4, ly5, ly6]
       refine hold_step0 (i := 11) (by kernel_rfl) rfl rfl (fun K hK => ?_)
       go_simp
       have HO1 := Lib.hid (HOP.out _ _ _ _ _ n3 (Row.like hbz l0) hba)
       refine HO1.out.mono ?_
       rintro e wo ⟨ko, bl2, Ao, co, fd, hfd, rfl, hbl, hl, -⟩
       have hfd2 : fd = [] := hfd.trans HFO.out
       subst hfd2
       clear hfd
       go_wp2_with fail
       have n9 := Keep.new n3 ko
       refine hK.out _ _ n9 ?_
       clear hK K HO1
       try simp only [Act.put, ly1, ly2, ly3, ly4, ly5, ly6]
       refine take0 12 n9 ?_
       refine take0 13 n9 ?_
       refine take0 14 n9 ?_
       refine take0 15 n9 ?_
       refine take0 16 n9 ?_
       refine take0 17 n9 ?_
       refine take0 18 n9 ?_
       refine wpAnyH_done (by kernel_rfl) ?_ _
       go_wp2_with fail
       go_meet
       exact ⟨bl2, co, Ao, _, _, _, rfl, rfl, rfl, hl.log, rfl, n3r.new n9⟩
     case rest =>
      obtain ⟨bl2, co, Ao, D5, base5, lv, rfl, rfl, rfl, hl5, hls, k9⟩ := hcut
      have HSE := Lib.hid (sealed21_any hl5)
      rw [hls] at HSE
      have HK9 := Lib.hid (HK8.out.new k9)
      clear hl5 hls k9
      go_wp2_with fail
      refine HSE.out.mono ?_
      rintro e wx2 ⟨rfl, kx⟩
      go_wp2_with fail
      refine (HKN.out _).mono ?_
      rintro e w3 ⟨rfl, k3⟩
      go_wp2_with fail
      go_ret
      exact ⟨rfl, ((((Keep.of_new (D := fun b => b < w.heap.size) HK1.out).trans HBA.out).new ((HK9.out.new kx).new k3)).toNew fun b hb => hb)⟩
end Go.Proofs.YtajnkbfcnmajoaaGreatDoor
