/-
  PROVED HERE: what chapter 21's world.safe answers: true; conditions: the world is as WAt says, just the sealed segments lie on its disk.
-/
import Derived.Test.YtajnkbfcnmajoaaGreatDoorPkB36
import Derived.Test.YtajnkbfcnmajoaaGreatDoorPkH03
import Derived.Test.YtajnkbfcnmajoaaGreatDoorPkH05
namespace Go.Proofs.YtajnkbfcnmajoaaGreatDoor
open Go.RowKit
section
variable {w w' : World} {D DL F : Nat → Prop} {base bw : Nat} {q : DiskB} {v : W21V} {s : LogS} {A : Option Addr} {c : Nat} {S : List UInt8}
set_option maxRecDepth 200000 in
set_option maxHeartbeats 4000000 in
theorem safe_any (h : WAt False w D DL base bw q v s A c S) :
  Calls Tryz.prog 11 #[.pointer (some ⟨bw, 0, none⟩)] w fun e w' => e = .returned (.bool true) ∧ New w w' := by
 have hla := h.laid.resolve_left id
 have hfit := h.fit
 have hni : v.ni = s.segs.length := h.mid.doc.ni
 have hroom := h.st.room
 have hfew := h.st.few
 have hCl := h.mid.on.disk
 have hil := h.st.fine.ok.images
 have hiz := h.st.fine.ok.sizes
 have hbd := h.mid.bd
 have HBD := Lib.hid hbd
 have hsz := h.mid.on.size
 have hpl := planRight_iff.1 h.mid.on.plan
 have hk4 : v.k ≤ 4096 := by have h1 := hpl.2.1; exact Int.ofNat_le.1 h1
 have hp4 : (v.p : Int) = (v.k : Int) / 4 := hpl.2.2.1
 have hS : S.length = v.k * 128 := hsz
 have him := h.mid.doc.image.sl
 have hcells := h.mid.doc.cells
 have HIM := Lib.hid (image_any hCl)
 have HDI := Lib.hid (fun W (hW : New w W) => dirty_clean (hCl.new hW))
 have c0 : w.cell? ⟨bw, 0, none⟩ = some (.pointer (some ⟨q.bd, 0, none⟩)) := by rw [← hbd]; exact hcells.cell rfl
 have HH := Lib.hid h
 obtain ⟨g, hg⟩ : ∃ g, g = v.g := ⟨_, rfl⟩
 obtain ⟨ims, hims⟩ : ∃ ims, ims = (logOf id21 s.segs).images := ⟨_, rfl⟩
 rw [← hims] at hla hil hiz him
 rw [← hg] at hla hfit hroom hfew
 have g6 : ∀ W, New w W → W.cell? ⟨bw, 6, none⟩ = some (.int .i64 g) := fun W hW => by rw [hg]; exact (hcells.new hW).cell rfl
 replace hg := Lib.hid hg
 have HLA := Lib.hid hla
 have HFT := Lib.hid hfit
 have HIL := Lib.hid (And.intro hil hiz)
 have HIMS := Lib.hid him
 obtain ⟨L, hL⟩ : ∃ L, L = S.length := ⟨_, rfl⟩
 rw [← hL] at hS
 have HL := Lib.hid (And.intro hL hS)
 have hL9 : L ≤ 524288 := by omega
 have hp9 : v.p ≤ 1024 := by omega
 clear hp4 hk4
 have hw1 : IntKind.i64.wrap (2 * (v.p : Int)) = 2 * (v.p : Int) := IntWalk.i64_in _ (by omega)
 have hw2 : IntKind.i64.wrap (1 + 2 * (v.p : Int)) = 1 + 2 * (v.p : Int) := IntWalk.i64_in _ (by omega)
 clear hla hfit hCl hil hiz hsz hpl him h hbd hims hL hS
 go_enter Tryz.func11, Tryz.ntmps11
 go_wp2_with fail
 refine HIM.out.mono ?_
 rintro e w1 ⟨⟨Ai, ci, rfl, hbi, hci, hcm⟩, k1⟩
 rw [← HL.out.1] at hbi hci ⊢
 have HCI := Lib.hid (And.intro hci hcm)
 clear hci hcm
 have d5 : w1.cell? ⟨bw, 5, none⟩ = some (.int .i64 v.p) := (hcells.new k1).cell rfl
 have HK1 := Lib.hid k1
 have HBI := Lib.hid hbi
 clear hbi k1 c0 HIM
 go_wp2_with fail
 clear d5 hw1 hw2
 go_loopw [5, 6] (fun i _ wx => ∃ i0 : Nat, i0 ≤ g ∧ i = .int .i64 (i0 : Int) ∧ New w1 wx) (fun i _ _ => g - (intOf i).toNat)
 case atStart => exact ⟨0, Nat.zero_le _, rfl, New.refl _⟩
 case round =>
  obtain ⟨i0, hi0, rfl, hK⟩ := hrel
  have HK := Lib.hid (HK1.out.new hK)
  have HKI := Lib.hid hK
  clear hK
  have d6 : wr.cell? ⟨bw, 6, none⟩ = some (.int .i64 g) := g6 _ HK.out
  by_cases hlt : i0 < g
  ·have hil : (i0 : Int) < (g : Int) := by omega
   have hg9 : g ≤ 512 := hfew
   have hin := HFT.out i0 hlt
   unfold placeAt at hin
   rw [← HL.out.1] at hin
   obtain ⟨fo, hfo⟩ : ∃ fo, fo = (1 + 2 * v.p + i0 * 8) * 128 := ⟨_, rfl⟩
   rw [← hfo] at hin
   have e1 : IntKind.i64.wrap ((i0 : Int) * 8) = (i0 : Int) * 8 := IntWalk.i64_in _ (by omega)
   have e2 : IntKind.i64.wrap (1 + 2 * (v.p : Int) + (i0 : Int) * 8) = 1 + 2 * (v.p : Int) + (i0 : Int) * 8 := IntWalk.i64_in _ (by omega)
   have e3 : IntKind.i64.wrap ((1 + 2 * (v.p : Int) + (i0 : Int) * 8) * 128) = (fo : Int) := by rw [IntWalk.i64_in _ (by omega)]; omega
   have e4 : IntKind.i64.wrap ((fo : Int) + 1024) = (fo : Int) + 1024 := IntWalk.i64_in _ (by omega)
   have e5 : decide ((L : Int) < (fo : Int) + 1024) = false := decide_eq_false (by omega)
   have hfl : (fo : Int) + 1024 ≤ (L : Int) := by omega
   obtain ⟨Zc, hZc⟩ : ∃ Zc : Array Value, Zc = ((List.replicate 1024 (0 : UInt8)).map byteVal).toArray := ⟨_, rfl⟩
   have hmk : ∀ W, (Instr.makeSlice 25 (.int .i64 1024) (.int .i64 1024)).run Tryz.prog W = .ok (.slice (some ⟨W.heap.size, 0, none⟩) 1024 1024) (W.alloc (.cells Zc 5)) := fun W => by rw [hZc]; exact make_noughts 1024 (by decide) W
   have HZC : Hid (Zc.toList = (List.replicate 1024 (0 : UInt8)).map byteVal ∧ Zc.size = 1024) := Lib.hid ⟨by rw [hZc], by rw [hZc]; simp⟩
   clear hZc
   have kz := (New.refl wr).alloc (.cells Zc 5)
   have hbz := Row.made wr 5 Zc 1024 1 (by rw [HZC.out.2])
   rw [HZC.out.1] at hbz
   have d16 : (wr.alloc (.cells Zc 5)).cell? ⟨bw, 16, none⟩ = some (.slice v.Ai v.ni v.ci) := (hcells.new (HK.out.new kz)).cell rfl
   have HBZ := Lib.hid hbz
   have HKZ := Lib.hid kz
   clear hbz kz HZC
   have HBF := Lib.hid (HBI.out)
   go_upto_if 36 with fail
   have hzs : (wr.alloc (.cells Zc 5)).heap.size = wr.heap.size + 1 := by simp
   generalize wr.alloc (.cells Zc 5) = wz at *
   generalize wr.heap.size = gz at *
   have HKW := Lib.hid (HK.out.new HKZ.out)
   go_cut [6] from 20 to 68 (fun s6 wx => ∃ (Aw : Option Addr) (cw : Nat), s6 = .slice Aw 1024 cw ∧ Bs wx (fun _ => True) Aw 1024 (ims.getD i0 (List.replicate 1024 0)) ∧ 1024 ≤ cw ∧ cw ≤ 9223372036854775807 ∧ New wz wx)
   case first =>
    by_cases hii : i0 < v.ni
    ·have hij : (i0 : Int) < (v.ni : Int) := by omega
     have hx : i0 < ims.length := by rw [HIL.out.1]; omega
     obtain ⟨bo, oo, us, hAo, _, _, ⟨Aw, cw, x0, x1, x2, x3⟩, _, hcell⟩ := HIMS.out.at_ (k := i0) hx
     have hz := HIL.out.2 _ (List.getElem_mem hx)
     rw [hz] at x0 x1 x3
     have hgd : ims.getD i0 (List.replicate 1024 0) = ims[i0] := by rw [List.getD_eq_getElem?_getD, List.getElem?_eq_getElem hx]; rfl
     rw [hAo] at d16
     have y0 : wz.cell? ⟨bo, oo + i0, none⟩ = some (.slice Aw 1024 cw) := by have h1 := HKW.out.cell_some (hcell 0 _ x0) trivial; rwa [show oo + i0 * imgElt.size + 0 = oo + i0 from by show oo + i0 * 1 + 0 = _; omega] at h1
     have HX3 := Lib.hid (x3.new HKW.out)
     have HGD := Lib.hid hgd
     clear hAo x0 x3 hcell hgd hz
     go_wp2_with fail
     go_meet
     exact ⟨Aw, cw, rfl, by rw [HGD.out]; exact HX3.out.imp fun _ _ _ => trivial, x1, x2, New.refl _⟩
    ·have hij : ¬ (i0 : Int) < (v.ni : Int) := by omega
     have hgd : ims.getD i0 (List.replicate 1024 0) = List.replicate 1024 0 := by rw [List.getD_eq_getElem?_getD, List.getElem?_eq_none (by rw [HIL.out.1]; omega)]; rfl
     have HGD := Lib.hid hgd
     clear hgd
     go_wp2_with fail
     go_meet
     exact ⟨some ⟨gz, 0, none⟩, 1024, rfl, by rw [HGD.out]; exact HBZ.out.imp fun _ _ _ => trivial, by decide, by decide, New.refl _⟩
   case rest =>
    obtain ⟨Aw, cw, rfl, hbw, hcw, hcm, kx⟩ := hcut
    have HKX := Lib.hid (HKW.out.new kx)
    have HKY := Lib.hid (HKZ.out.new kx)
    have hbi := (HBI.out.new HKI.out).new HKY.out
    have hli := HLA.out i0 hlt
    rw [← hli] at hbw
    have hpl : (S.drop fo).take 1024 = placeOf S v.p i0 := by rw [hfo]; rfl
    have hci := HCI.out
    have hbp : Bs wc (fun b => w.heap.size ≤ b) (Option.map (fun x => x.add fo) Ai) 1024 (placeOf S v.p i0) := by rw [← hpl]; exact Bs.cutTo (Bs.from_ hbi (l := fo) (by omega)) (hi := 1024) (by omega)
    generalize placeOf S v.p i0 = B at *
    have k1 : ∀ m, (convert 25 9 (.slice (Option.map (fun x => x.add fo) Ai) 1024 (ci - fo))).run Tryz.prog (wc.drewN m) = .ok (.string (strOf B)) (wc.drewN m) := fun m => run_str (Row.new hbp ((New.refl wc).drewN m))
    have k2 : ∀ m, (convert 25 9 (.slice Aw 1024 cw)).run Tryz.prog (wc.drewN m) = .ok (.string (strOf B)) (wc.drewN m) := fun m => run_str (Row.new hbw ((New.refl wc).drewN m))
    have hbe : (B == B) = true := by simp
    have hcf : ¬ ci = fo := by omega
    have hcl : fo + 1024 ≤ ci := by omega
    clear hbi hbp hbw hpl hli kx hci hfo d16
    go_upto_region 10 with fail
    go_quiet (fail)
    rename_i nq
    have kq := (New.refl wc).drewN nq
    generalize wc.drewN nq = wq at *
    clear k1 k2
    go_wp2_with fail
    go_roundw
    case rel => exact ⟨i0 + 1, by omega, by go_num, HKI.out.new (HKY.out.new kq)⟩
    case measure => simp [intOf]; omega
  ·obtain rfl : i0 = g := by omega
   have hil : ¬ (i0 : Int) < (i0 : Int) := by omega
   have c0 : wr.cell? ⟨bw, 0, none⟩ = some (.pointer (some ⟨q.bd, 0, none⟩)) := by have h1 : wr.cell? ⟨bw, 0, none⟩ = some (.pointer (some ⟨v.bd, 0, none⟩)) := (hcells.new HK.out).cell rfl; rw [HBD.out] at h1; exact h1
   go_wp2_with fail
   refine (HDI.out _ HK.out).mono ?_
   rintro e wz ⟨rfl, kz⟩
   go_wp2_with fail
   go_ret
   exact ⟨rfl, HK.out.new kz⟩
end
end Go.Proofs.YtajnkbfcnmajoaaGreatDoor
