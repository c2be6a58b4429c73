/-
  PROVED HERE: what chapter 21's world.again answers: true, and the world stays one, without what waits; conditions: the world is as WAt says, the sealed segments lie on the disk, and none behind them.
-/
import Derived.Deep.CutRange
import Derived.Test.YtajnkbfcnmajoaaGreatDoorPkB00
import Derived.Test.YtajnkbfcnmajoaaGreatDoorPkB37
import Derived.Test.YtajnkbfcnmajoaaGreatDoorPkH03
namespace Go.Proofs.YtajnkbfcnmajoaaGreatDoor
open Go.RowKit
section
variable {w w' : World} {D DL F : Nat → Prop} {base bw : Nat} {q : DiskB} {v : W21V} {s : LogS} {A : Option Addr} {c : Nat} {S : List UInt8}
set_option maxRecDepth 100000 in
set_option maxHeartbeats 8000000 in
theorem again_any {J : Prop} (h : WAt J w D DL base bw q v s A c S) (fr : Nat) (hfr : fr ≤ s.segs.length) (hl : ∀ i, i < s.segs.length → placeOf S v.p i = (logOf id21 s.segs).images.getD i [])
  (hs : s.segs.length < v.g → (segRead (placeOf S v.p s.segs.length)).2.2 ≠ 0 ∨ (segRead (placeOf S v.p s.segs.length)).1.index ≠ (s.segs.length : Int)) :
  Calls Tryz.prog 24 #[.pointer (some ⟨bw, 0, none⟩), .int .i64 fr] w (Do1Ret J w D DL (fun _ => False) base bw q v A ⟨s.segs, []⟩) := by
 have hfine := h.st.fine
 have hok := hfine.ok
 have hon := h.mid.on
 have hroom := h.st.room
 have hfew := h.st.few
 have htime := h.st.time
 obtain ⟨hnx1, hnx2, hnx3⟩ := next_take hfine fr
 have hdoc := h.mid.doc
 have hnh : v.nh = s.segs.length := hdoc.nh
 have hna : v.na = (logOf id21 s.segs).recs.length := hdoc.na
 have hnw : v.nw = s.waits.length := hdoc.nw
 have hbd := h.mid.bd
 have hnn := hok.next
 have hhl := hok.heads
 obtain ⟨nx, hnx⟩ : ∃ nx, nx = (logOf id21 (s.segs.take fr)).next := ⟨_, rfl⟩
 obtain ⟨hb, hhb⟩ : ∃ hb, hb = (logOf id21 (s.segs.take fr)).prev := ⟨_, rfl⟩
 obtain ⟨m, hm⟩ : ∃ m, m = s.segs.length - fr := ⟨_, rfl⟩
 have HFX : Hid (∀ fd, fd = foundIn S v.p (v.g - fr) fr nx hb → fd.length = m ∧ fd.map Prod.snd = s.segs.drop fr ∧ fr + m = s.segs.length ∧ foundEnd nx hb fd = ((logOf id21 s.segs).next, (logOf id21 s.segs).prev)) := Lib.hid fun fd hfd => by
  have h1 := found_log hfine (S := S) (p := v.p) (g := v.g) h.st.room hl hs (s.segs.length - fr) fr (by omega)
  rw [← hnx, ← hhb, ← hfd] at h1
  have h2 := found_end hfine (s.segs.length - fr) fr (by omega)
  rw [← hnx, ← hhb, ← h1] at h2
  exact ⟨by rw [h1, zip_len hfine, hm], by rw [h1, zip_snd hfine], by omega, h2⟩
 have hsd := hdoc.heads.sl
 have hal := hdoc.all.sl
 have hcells := hdoc.cells
 have HOP : Hid (∀ W (hW : New w W) (D3 D4 : Nat → Prop) (Hd I : Option Addr) (hc ci : Nat), Bs W D3 Hd 32 hb → Bs W D4 I 16 id21 → 16 ≤ ci → Calls Tryz.prog 13 #[.pointer (some ⟨q.bd, 0, none⟩), .agg #[.int .i64 v.k, .int .i64 v.p, .int .i64 v.g], .slice I 16 ci, .int .i64 fr, .slice Hd 32 hc, .int .u64 nx] W (OpenRet W q S v.k v.p v.g fr nx hb)) := Lib.hid fun W hW D3 D4 Hd I hc ci hH hI hci => by
  have hCW := hon.disk.new hW
  by_cases h0 : fr = 0
  ·have := lopen_zero hCW hon.size hon.plan (by omega : fr ≤ v.g) h0 Hd hc hb hH nx (by omega) (by omega) I 16 ci id21 hI hci (by decide)
   have e1 : openNext fr nx = nx := by unfold openNext; rw [if_pos h0, hnx, h0]; rfl
   have e2 : openHead fr id21 hb = hb := by unfold openHead; rw [if_pos h0, hhb, h0]; rfl
   rw [e1, e2] at this
   exact this
  ·have := lopen_pos hCW hon.size hon.plan (by omega : fr ≤ v.g) h0 Hd hc hb hH nx (by omega) (by omega) I 16 ci id21 hI hci (by decide)
   have e1 : openNext fr nx = nx := by unfold openNext; rw [if_neg h0]
   have e2 : openHead fr id21 hb = hb := by unfold openHead; rw [if_neg h0]
   rw [e1, e2] at this
   exact this
 have hht := head_take hfine hfr
 rw [← hhb] at hht
 have HHD : Hid (∀ (W : World) (hW : New w W) (I : Option Addr) (ci : Nat) (D3 : Nat → Prop) (hI : Bs W D3 I 16 id21), Calls Tryz.prog 50 #[.slice I 16 ci, .slice v.Ah fr v.ch] W fun e w' => (∃ A' c', e = .returned (.slice A' 32 c') ∧ OwnB w' W.heap.size 5 A' 32 c' hb) ∧ New W w') := Lib.hid (fun W hW I ci D3 hI => by
  have h1 := head18_any D3 _ I v.Ah 16 ci fr v.ch id21 _ W hI (by decide) (heads_sl.2 ((hsd.new hW).cutTo (by omega : fr ≤ v.nh))) (by omega)
  rw [hht] at h1
  exact h1)
 have c0 : ∀ W, New w W → W.cell? ⟨bw, 0, none⟩ = some (.pointer (some ⟨q.bd, 0, none⟩)) := fun W hW => by rw [← hbd]; exact (hcells.new hW).cell rfl
 have c1 : ∀ W, New w W → W.cell? ⟨bw, 1, none⟩ = some (.int .i64 v.k) := fun W hW => (hcells.new hW).cell rfl
 have c2 : ∀ W, New w W → W.cell? ⟨bw, 2, none⟩ = some (.int .i64 v.p) := fun W hW => (hcells.new hW).cell rfl
 have c3 : ∀ W, New w W → W.cell? ⟨bw, 3, none⟩ = some (.int .i64 v.g) := fun W hW => (hcells.new hW).cell rfl
 have c14 : ∀ W, New w W → W.cell? ⟨bw, 14, none⟩ = some (.slice v.Ah v.nh v.ch) := fun W hW => (hcells.new hW).cell rfl
 have c15 : ∀ W, New w W → W.cell? ⟨bw, 15, none⟩ = some (.slice v.Aa v.na v.ca) := fun W hW => (hcells.new hW).cell rfl
 have x14 := c14 w (New.refl w)
 have hch := hdoc.heads.cap
 have hin : (fr : Int) ≤ (v.nh : Int) := by omega
 have hhs := hdoc.heads.capMax
 have hfc : fr ≤ v.ch := by omega
 have HHP : Hid (fr ≠ 0 → ∃ (b off f : Nat) (cnt fst : Int), v.Ah = some ⟨b, off, none⟩ ∧ IntKind.i64.wrap ((fr : Int) - 1) = (f : Int) ∧ (f : Int) < (v.nh : Int) ∧ w.cell? ⟨b, off + f * 6 + 1, none⟩ = some (.int .u64 fst) ∧ w.cell? ⟨b, off + f * 6 + 2, none⟩ = some (.int .i64 cnt) ∧ IntKind.u64.wrap cnt = cnt ∧ IntKind.u64.wrap (fst + cnt) = nx) := Lib.hid fun hp => by
  have hf : fr - 1 < (logOf id21 s.segs).heads.length := by omega
  obtain ⟨b, off, us, hA, _, _, ⟨_, _, _, _, e0, e1, e2, _⟩, _, hcell⟩ := hsd.at_ (k := fr - 1) hf
  have hh := head_first hfine (i := fr - 1) (by omega)
  have hn := head_next hfine (i := fr - 1) (by omega)
  rw [← heads_get hfine hf] at hh hn
  rw [show fr - 1 + 1 = fr from by omega, ← hnx] at hn
  have hq := next_take hfine (fr - 1)
  have hsf := (hfine.fine (fr - 1) (by omega)).many
  refine ⟨b, off, fr - 1, _, _, hA, ?_, by omega, hcell 1 _ e1, hcell 2 _ e2, ?_, ?_⟩
  ·rw [IntWalk.i64_in _ (by omega)]; omega
  ·rw [IntKind.wrap_u64, hh.2]; omega
  ·rw [hn, IntKind.wrap_u64]; omega
 obtain ⟨ta, hta⟩ : ∃ ta : Nat → Int, ta = fun i => (logOf id21 (s.segs.take (fr + i))).next := ⟨_, rfl⟩
 obtain ⟨ln, hln⟩ : ∃ ln : Nat → Nat, ln = fun i => (s.segs.getD (fr + i) []).length := ⟨_, rfl⟩
 have HTA : Hid (ta 0 = nx ∧ (∀ i, i < m → ta (i + 1) = ta i + (ln i : Int)) ∧ ∀ i, 1 ≤ ta i ∧ ta i ≤ 1000000) := Lib.hid ⟨by rw [hta, hnx]; rfl, fun i hi => by rw [hta, hln]; dsimp only; rw [show fr + (i + 1) = fr + i + 1 from rfl, logOf_next (show fr + i < s.segs.length by omega), List.getD_eq_getElem?_getD, List.getElem?_eq_getElem (show fr + i < s.segs.length by omega)]; rfl, fun i => by rw [hta]; have h1 := next_take hfine (fr + i); dsimp only; omega⟩
 have HHC : Hid (∀ i, i < m → ∃ (b off : Nat), v.Ah = some ⟨b, off, none⟩ ∧ ((fr + i : Nat) : Int) < (v.nh : Int) ∧ ∀ W, New w W → W.cell? ⟨b, off + (fr + i) * 6 + 2, none⟩ = some (.int .i64 (ln i))) := Lib.hid fun i hi => by
  have hf : fr + i < (logOf id21 s.segs).heads.length := by omega
  obtain ⟨b, off, us, hA, hD, hlt, ⟨_, _, _, _, e0, e1, e2, _⟩, _, hcell⟩ := hsd.at_ (k := fr + i) hf
  have hh := head_first hfine (i := fr + i) (by omega)
  rw [← heads_get hfine hf] at hh
  have e3 := hcell 2 _ e2
  rw [hh.2] at e3
  refine ⟨b, off, hA, by omega, fun W hW => ?_⟩
  rw [hln]
  dsimp only
  rw [List.getD_eq_getElem?_getD, List.getElem?_eq_getElem (show fr + i < s.segs.length by omega)]
  exact hW.cell_some e3 trivial
 have HAL : Hid (∀ i k, i < m → k < ln i → ∃ (r : RecP) (b off ix : Nat) (Aq : Option Addr) (cq : Nat), (s.segs.drop fr)[i]?.bind (fun l => l[k]?) = some r ∧ v.Aa = some ⟨b, off, none⟩ ∧ IntKind.u64.wrap (ta i + (k : Int) - 1) = (ix : Int) ∧ (ix : Int) < (v.na : Int) ∧ r.seq = ta i + (k : Int) ∧
   ∀ W, New w W → W.cell? ⟨b, off + ix * 3, none⟩ = some (.int .i64 r.kind) ∧ W.cell? ⟨b, off + ix * 3 + 1, none⟩ = some (.int .u64 r.seq) ∧ W.cell? ⟨b, off + ix * 3 + 2, none⟩ = some (.slice Aq r.body.length cq) ∧ Bs W (fun _ => True) Aq r.body.length r.body) := Lib.hid fun i k hi hk => by
  have hil : fr + i < s.segs.length := by omega
  rw [hln] at hk
  dsimp only at hk
  rw [List.getD_eq_getElem?_getD, List.getElem?_eq_getElem hil] at hk
  have hk : k < s.segs[fr + i].length := hk
  have hra := recs_at hfine hil hk
  obtain ⟨hx, hrr⟩ := List.getElem?_eq_some_iff.1 hra
  have ht := next_take hfine (fr + i)
  obtain ⟨b, off, us, hA, hD, hlt, ⟨Aq, cq, e0, e1, e2, e3, hbq, _⟩, _, hcell⟩ := hal.at_ (k := (logOf id21 (s.segs.take (fr + i))).recs.length + k) hx
  rw [hrr] at e0 e1 e2 hbq
  refine ⟨s.segs[fr + i][k], b, off, (logOf id21 (s.segs.take (fr + i))).recs.length + k, Aq, cq, ?_, hA, ?_, by omega, ?_, fun W hW => ⟨hW.cell_some (hcell 0 _ e0) trivial, hW.cell_some (hcell 1 _ e1) trivial, hW.cell_some (hcell 2 _ e2) trivial, (hbq.new hW).imp fun _ _ _ => trivial⟩⟩
  ·rw [List.getElem?_drop, List.getElem?_eq_getElem hil]; exact List.getElem?_eq_getElem hk
  ·rw [hta]; dsimp only; rw [IntKind.wrap_u64]; omega
  ·rw [(hfine.fine (fr + i) hil).seqs k hk, hta]
 have HDL : Hid (∀ i, i < m → ∃ l, (s.segs.drop fr)[i]? = some l ∧ l.length = ln i) := Lib.hid fun i hi => by
  refine ⟨s.segs[fr + i], ?_, ?_⟩
  ·rw [List.getElem?_drop]; exact List.getElem?_eq_getElem (by omega)
  ·rw [hln]; dsimp only; rw [List.getD_eq_getElem?_getD, List.getElem?_eq_getElem (show fr + i < s.segs.length by omega)]; rfl
 have HLB : Hid (∀ i, i < m → ln i ≤ 100) := Lib.hid fun i hi => by
  have h1 := (hfine.fine (fr + i) (by omega)).many
  rw [hln]
  dsimp only
  rw [List.getD_eq_getElem?_getD, List.getElem?_eq_getElem (show fr + i < s.segs.length by omega)]
  show s.segs[fr + i].length ≤ 100
  omega
 have hwm : IntKind.i64.wrap ((v.nh : Int) - (fr : Int)) = (m : Int) := by rw [IntWalk.i64_in _ (by omega)]; omega
 have hmm : m ≤ 1000 := by omega
 have hfm : fr + m ≤ 1000 := by omega
 have hmn : v.m = refOf id21 v.g s := h.m
 have HM := Lib.hid hmn
 have hnext : v.m.next = (logOf id21 s.segs).next + (v.nw : Int) := by rw [hmn, hnw]; rfl
 have hwn : IntKind.u64.wrap (v.nw : Int) = (v.nw : Int) := by rw [IntKind.wrap_u64]; omega
 have hwx : IntKind.u64.wrap (v.m.next - (v.nw : Int)) = (logOf id21 s.segs).next := by rw [hnext, IntKind.wrap_u64]; omega
 have HH := Lib.hid h
 have HNB : Hid (1 ≤ (logOf id21 s.segs).next ∧ (logOf id21 s.segs).next ≤ 1000000) := Lib.hid (by omega)
 have hnx0 : fr = 0 → nx = 1 := fun e => by rw [hnx, e]; rfl
 replace hnx := Lib.hid hnx
 replace hhb := Lib.hid hhb
 replace hm := Lib.hid hm
 replace hta := Lib.hid hta
 replace hln := Lib.hid hln
 clear hsd hal hon hdoc hcells hl hs h hbd hht hok hfine hnx1 hnx2 hnx3 hnn hhl htime hroom hfew hna hnh hnw hmn hnext hch hhs
 go_enter Tryz.func24, Tryz.ntmps24
 go_upto_if 14 with fail
 go_cut [5] (fun s5 wx => s5 = .int .u64 nx ∧ New w wx)
 case first =>
  by_cases h0 : fr = 0
  ·have hf0 : ¬ (0 : Int) < (fr : Int) := by omega
   have hq1 := hnx0 h0
   clear hnx0 h0
   subst hq1
   go_wp2_with fail
   go_meet
   exact ⟨rfl, New.refl _⟩
  ·obtain ⟨b, off, f, cnt, fst, hA, hwf, hfl, e1, e2, hw1, hw2⟩ := HHP.out h0
   have hf0 : (0 : Int) < (fr : Int) := by omega
   rw [hA] at x14
   clear hnx0 h0 HHP
   go_wp2_with fail
   go_quiet (fail)
   rename_i nq
   have kq := (New.refl w).drewN nq
   generalize w.drewN nq = wq at *
   go_wp2_with fail
   go_meet
   exact ⟨rfl, kq⟩
 case rest =>
  obtain ⟨rfl, k0⟩ := hcut
  have HK0 := Lib.hid k0
  replace c0 := fun W (hW : New wc W) => c0 W (Keep.new k0 hW)
  replace c1 := fun W (hW : New wc W) => c1 W (Keep.new k0 hW)
  replace c2 := fun W (hW : New wc W) => c2 W (Keep.new k0 hW)
  replace c3 := fun W (hW : New wc W) => c3 W (Keep.new k0 hW)
  replace c14 := fun W (hW : New wc W) => c14 W (Keep.new k0 hW)
  clear k0 x14 HHP hnx0
  go_upto_region 4 with fail
  refine hold_begin (by kernel_rfl) ?_
  have n0 : New wc wc.drew := (New.refl wc).drew
  replace c0 := fun W (hW : New wc.drew W) => c0 W (Keep.new n0 hW)
  replace c1 := fun W (hW : New wc.drew W) => c1 W (Keep.new n0 hW)
  replace c2 := fun W (hW : New wc.drew W) => c2 W (Keep.new n0 hW)
  replace c3 := fun W (hW : New wc.drew W) => c3 W (Keep.new n0 hW)
  replace c14 := fun W (hW : New wc.drew W) => c14 W (Keep.new n0 hW)
  refine take1 0 ?_
  refine take1 1 ?_
  refine take1 2 ?_
  refine take1 3 ?_
  refine take1 4 ?_
  refine take1 5 ?_
  refine take1 6 ?_
  refine take1 7 ?_
  refine take1 9 ?_
  refine take1 11 ?_
  refine take1 12 ?_
  refine take1 13 ?_
  refine take1 14 ?_
  refine take1 15 ?_
  refine take1 16 ?_
  refine take1 18 ?_
  refine hold_step (i := 8) (by kernel_rfl) rfl rfl (fun K hK => ?_)
  go_simp
  refine (id21_any _).mono ?_
  rintro e w1 ⟨⟨A1, rfl, hb1⟩, k1⟩; replace hb1 := Lib.hid hb1
  go_wp2_with fail
  refine hK.out _ _ k1 ?_
  clear hK K
  try simp only [Act.put, ly1, ly2, ly3, ly4, ly5, ly6]
  replace n0 := Keep.new n0 k1
  replace c0 := fun W (hW : New w1 W) => c0 W (Keep.new k1 hW)
  replace c1 := fun W (hW : New w1 W) => c1 W (Keep.new k1 hW)
  replace c2 := fun W (hW : New w1 W) => c2 W (Keep.new k1 hW)
  replace c3 := fun W (hW : New w1 W) => c3 W (Keep.new k1 hW)
  replace c14 := fun W (hW : New w1 W) => c14 W (Keep.new k1 hW)
  refine hold_step (i := 10) (by kernel_rfl) rfl rfl (fun K hK => ?_)
  go_simp
  refine (id21_any _).mono ?_
  rintro e w2 ⟨⟨A2, rfl, hb2⟩, k2⟩; replace hb2 := Lib.hid hb2; replace hb1 := Lib.hid (hb1.out.new k2)
  go_wp2_with fail
  refine hK.out _ _ k2 ?_
  clear hK K
  try simp only [Act.put, ly1, ly2, ly3, ly4, ly5, ly6]
  replace n0 := Keep.new n0 k2
  replace c0 := fun W (hW : New w2 W) => c0 W (Keep.new k2 hW)
  replace c1 := fun W (hW : New w2 W) => c1 W (Keep.new k2 hW)
  replace c2 := fun W (hW : New w2 W) => c2 W (Keep.new k2 hW)
  replace c3 := fun W (hW : New w2 W) => c3 W (Keep.new k2 hW)
  replace c14 := fun W (hW : New w2 W) => c14 W (Keep.new k2 hW)
  refine hold_step (i := 17) (by kernel_rfl) rfl rfl (fun K hK => ?_)
  go_simp
  refine (HHD.out _ (HK0.out.new n0) A2 16 _ hb2.out).mono ?_
  rintro e w3 ⟨⟨A3, cq3, rfl, o3⟩, k3⟩; replace o3 := Lib.hid o3; replace hb1 := Lib.hid (hb1.out.new k3)
  go_wp2_with fail
  refine hK.out _ _ k3 ?_
  clear hK K
  try simp only [Act.put, ly1, ly2, ly3, ly4, ly5, ly6]
  replace n0 := Keep.new n0 k3
  replace c0 := fun W (hW : New w3 W) => c0 W (Keep.new k3 hW)
  replace c1 := fun W (hW : New w3 W) => c1 W (Keep.new k3 hW)
  replace c2 := fun W (hW : New w3 W) => c2 W (Keep.new k3 hW)
  replace c3 := fun W (hW : New w3 W) => c3 W (Keep.new k3 hW)
  replace c14 := fun W (hW : New w3 W) => c14 W (Keep.new k3 hW)
  refine hold_step (i := 19) (by kernel_rfl) rfl rfl (fun K hK => ?_)
  go_simp
  refine (HOP.out _ (HK0.out.new n0) _ _ A3 A1 _ 16 (Row.of_own o3.out) hb1.out (Nat.le_refl _)).mono ?_
  rintro e w4 ⟨k4, bl, Ao, co, fd, hfd, rfl, hbl, hlo, hro⟩; obtain ⟨hf1, hf2, hf3, hf4⟩ := HFX.out fd hfd; rw [hf1, hf2] at hro; rw [hf1, hf3, hf4] at hlo; rw [hf1]; have HLR := Lib.hid (And.intro hbl (And.intro hlo (And.intro hro (HK0.out.new n0).size))); clear hfd hf1 hf2 hf3 hf4 hbl hlo hro fd
  go_wp2_with fail
  refine hK.out _ _ k4 ?_
  clear hK K
  try simp only [Act.put, ly1, ly2, ly3, ly4, ly5, ly6]
  replace n0 := Keep.new n0 k4
  replace c0 := fun W (hW : New w4 W) => c0 W (Keep.new k4 hW)
  replace c1 := fun W (hW : New w4 W) => c1 W (Keep.new k4 hW)
  replace c2 := fun W (hW : New w4 W) => c2 W (Keep.new k4 hW)
  replace c3 := fun W (hW : New w4 W) => c3 W (Keep.new k4 hW)
  replace c14 := fun W (hW : New w4 W) => c14 W (Keep.new k4 hW)
  refine take1 20 ?_
  refine take1 21 ?_
  refine take1 22 ?_
  refine take1 23 ?_
  refine take1 24 ?_
  refine take1 25 ?_
  refine take1 26 ?_
  refine wpAnyH_done (by kernel_rfl) ?_ _
  have HK4 := Lib.hid (HK0.out.new n0)
  obtain ⟨hbl, hlo, hro, hn3⟩ := HLR.out
  have HLO := Lib.hid hlo
  have HRO := Lib.hid hro.sl
  have HBL : Hid (w3.heap.size ≤ bl ∧ w.heap.size ≤ w3.heap.size) := Lib.hid ⟨hbl, hn3⟩
  have y14 : w4.cell? ⟨bw, 14, none⟩ = some (.slice v.Ah v.nh v.ch) := (HH.out.mid.doc.cells.new HK4.out).cell rfl
  clear HLR hbl hlo hro hn3 n0 k1 k2 k3 k4 c0 c1 c2 c3 c14 HFX HOP HHD hb1 hb2 o3
  go_wp2_with fail
  clear y14
  go_loopw [9, 10] (fun at' i wx => ∃ i0 : Nat, i0 ≤ m ∧ i = .int .i64 (i0 : Int) ∧ at' = .int .u64 (ta i0) ∧ New w4 wx) (fun _ i _ => m - (intOf i).toNat)
  case atStart => exact ⟨0, Nat.zero_le _, rfl, by rw [HTA.out.1], New.refl _⟩
  case round =>
   obtain ⟨i0, hi0, rfl, rfl, hK⟩ := hrel
   have HKi := Lib.hid hK
   clear hK
   by_cases hlt : i0 < m
   ·skip
    obtain ⟨ls, hls, hll⟩ := HDL.out i0 hlt
    obtain ⟨hx, hgx⟩ := List.getElem?_eq_some_iff.1 hls
    obtain ⟨bo, oo, us, hAo, _, _, ⟨Ak, ck, e0, hck, hck9, hsk⟩, _, hcell⟩ := HRO.out.at_ (k := i0) hx
    rw [hgx, hll] at e0 hck hsk
    subst hAo
    have r0 : wr.cell? ⟨bo, oo + i0, none⟩ = some (.slice Ak (ln i0) ck) := by have h1 := HKi.out.cell_some (hcell 0 _ e0) trivial; rwa [show oo + i0 * (slElt recElt).size + 0 = oo + i0 from by show oo + i0 * 1 + 0 = _; omega] at h1
    obtain ⟨bh, oh, hAh, hfi, hc2⟩ := HHC.out i0 hlt
    have x14 : wr.cell? ⟨bw, 14, none⟩ = some (.slice v.Ah v.nh v.ch) := (HH.out.mid.doc.cells.new (HK4.out.new HKi.out)).cell rfl
    rw [hAh] at x14
    have xc := hc2 wr (HK4.out.new HKi.out)
    have hwi : IntKind.i64.wrap ((fr : Int) + (i0 : Int)) = (fr : Int) + (i0 : Int) := IntWalk.i64_in _ (by omega)
    have hfi : (fr : Int) + (i0 : Int) < (v.nh : Int) := by omega
    have hil : (i0 : Int) < (m : Int) := by omega
    have hee : (((ln i0 : Nat) : Int) != ((ln i0 : Nat) : Int)) = false := by simp
    have HSK := Lib.hid (hsk.new HKi.out)
    have HCK := Lib.hid (And.intro hck hck9)
    clear hcell e0 hck hck9 hsk hgx hx hAh hc2
    replace hls := Lib.hid hls
    replace hll := Lib.hid hll
    go_wp2_with fail
    go_quiet (fail)
    rename_i nq
    have r0 := ((New.refl wr).drewN nq).cell_some r0 trivial
    have HKi := Lib.hid (HKi.out.drewN nq)
    have HSK := Lib.hid (HSK.out.new ((New.refl wr).drewN nq))
    generalize wr.drewN nq = wi at *
    clear x14 xc hee
    go_wp2_with fail
    go_loopw [9, 11] (fun at' k wx => ∃ k0 : Nat, k0 ≤ ln i0 ∧ k = .int .i64 (k0 : Int) ∧ at' = .int .u64 (ta i0 + (k0 : Int)) ∧ New wi wx) (fun _ k _ => ln i0 - (intOf k).toNat)
    case atStart => exact ⟨0, Nat.zero_le _, rfl, by rw [Int.natCast_zero, Int.add_zero], New.refl _⟩
    case round =>
     obtain ⟨k0, hk0, rfl, rfl, hK⟩ := hrel
     have HKk := Lib.hid hK
     clear hK
     have r0 := HKk.out.cell_some r0 trivial
     by_cases hlk : k0 < ln i0
     ·skip
      have HLK := Lib.hid hlk
      have hkl : (k0 : Int) < ((ln i0 : Nat) : Int) := by omega
      go_upto_region 16 with fail
      obtain ⟨r, ba, oa, ix, Aq, cq, hr, hAa, hix, hxl, hsq, hall⟩ := HAL.out i0 k0 hlt hlk
      have HKw := Lib.hid (HK4.out.new (HKi.out.new HKk.out))
      obtain ⟨q0, q1, q2, hbq⟩ := hall wr HKw.out
      have hlr : k0 < ls.length := by have := hll.out; omega
      have hrr : ls[k0] = r := by have h1 := hls.out; rw [h1] at hr; have h2 : ls[k0]? = some r := hr; rw [List.getElem?_eq_getElem hlr] at h2; injection h2
      obtain ⟨bk, ok, us2, hAk, _, _, ⟨Ab, cb, d0, d1, d2, _, hbb, _⟩, _, hcell⟩ := (HSK.out.new HKk.out).at_ (k := k0) hlr
      rw [hrr] at d0 d1 d2 hbb
      subst hAk
      have p0 := hcell 0 _ d0
      have p1 := hcell 1 _ d1
      have p2 := hcell 2 _ d2
      have x15 : wr.cell? ⟨bw, 15, none⟩ = some (.slice v.Aa v.na v.ca) := (HH.out.mid.doc.cells.new HKw.out).cell rfl
      rw [hAa] at x15
      have hkt := (HTA.out.2.2 i0)
      have hwa : IntKind.u64.wrap (ta i0 + (k0 : Int) + 1) = ta i0 + (k0 : Int) + 1 := by have h1 := HTA.out.2.1 i0 hlt; have h2 := HTA.out.2.2 (i0 + 1); rw [IntKind.wrap_u64]; omega
      have es : (r.seq != ta i0 + (k0 : Int)) = false := by rw [hsq]; simp
      have ek : (r.kind != r.kind) = false := by simp
      have kA := (New.refl wr).alloc (.cells #[.int .i64 r.kind, .int .u64 r.seq, .slice Aq r.body.length cq] 70)
      have hA := heap_alloc_new wr (.cells #[.int .i64 r.kind, .int .u64 r.seq, .slice Aq r.body.length cq] 70)
      have HG := Lib.hid (And.intro (kA.cell_some r0 trivial) (And.intro (show _ = some (Value.int .i64 r.kind) from kA.cell_some (show wr.cell? ⟨bk, ok + k0 * 3, none⟩ = some (.int .i64 r.kind) from p0) trivial) (And.intro (kA.cell_some (show wr.cell? ⟨bk, ok + k0 * 3 + 1, none⟩ = some (.int .u64 r.seq) from p1) trivial) (kA.cell_some (show wr.cell? ⟨bk, ok + k0 * 3 + 2, none⟩ = some (.slice Ab r.body.length cb) from p2) trivial))))
      have HS1 : Hid (∀ m, (convert 25 9 (.slice Ab r.body.length cb)).run Tryz.prog ((wr.alloc (.cells #[.int .i64 r.kind, .int .u64 r.seq, .slice Aq r.body.length cq] 70)).drewN m) = .ok (.string (strOf r.body)) ((wr.alloc (.cells #[.int .i64 r.kind, .int .u64 r.seq, .slice Aq r.body.length cq] 70)).drewN m)) := Lib.hid (fun m => run_str (Row.new hbb (kA.drewN m)))
      have HS2 : Hid (∀ m, (convert 25 9 (.slice Aq r.body.length cq)).run Tryz.prog ((wr.alloc (.cells #[.int .i64 r.kind, .int .u64 r.seq, .slice Aq r.body.length cq] 70)).drewN m) = .ok (.string (strOf r.body)) ((wr.alloc (.cells #[.int .i64 r.kind, .int .u64 r.seq, .slice Aq r.body.length cq] 70)).drewN m)) := Lib.hid (fun m => run_str (Row.new hbq (kA.drewN m)))
      have hwk : IntKind.i64.wrap ((k0 : Int) + 1) = (k0 : Int) + 1 := IntWalk.i64_in _ (by have := HLB.out i0 hlt; omega)
      have HEE := Lib.hid (And.intro es (And.intro ek (And.intro hwa hwk)))
      have HA := Lib.hid hA
      have HKA := Lib.hid kA
      replace hrr := Lib.hid hrr
      clear hr hAa hall d0 d1 d2 hcell hkt p0 p1 p2 hbb hbq es ek hwa hsq hA kA r0 hwk
      go_upto_region 17 with fail
      generalize wr.alloc (.cells #[.int .i64 r.kind, .int .u64 r.seq, .slice Aq r.body.length cq] 70) = wA at *
      generalize wr.heap.size = gA at *
      clear q0 q1 q2 x15 hix hxl
      obtain ⟨z0, z1, z2⟩ := cs3 HA.out
      obtain ⟨g0, g1, g2, g3⟩ := HG.out
      have s1 := HS1.out
      have s2 := HS2.out
      obtain ⟨es, ek, hwa, hwk⟩ := HEE.out
      have hbe : (r.body == r.body) = true := by simp
      have kA := HKA.out
      go_quiet (fail)
      rename_i nq
      have kB := kA.drewN nq
      generalize wA.drewN nq = wB at *
      clear g0 g1 g2 g3 z0 z1 z2 s1 s2
      go_wp2_with fail
      go_roundw
      case rel => exact ⟨k0 + 1, by have := HLK.out; omega, by go_num, by go_num, HKk.out.new kB⟩
      case measure => simp [intOf]; have := HLK.out; omega
     ·obtain rfl : k0 = ln i0 := by omega
      have hkl : ¬ ((ln i0 : Nat) : Int) < ((ln i0 : Nat) : Int) := by omega
      go_wp2_with fail
      go_roundw
      case rel => exact ⟨i0 + 1, by omega, by go_num, by rw [HTA.out.2.1 i0 hlt], HKi.out.new HKk.out⟩
      case measure => simp [intOf]; omega
   ·obtain rfl : i0 = m := by omega
    have hil : ¬ (i0 : Int) < (i0 : Int) := by omega
    have hc := HH.out.mid.doc.cells.new (HK4.out.new HKi.out)
    have d7 := hc.free 7
    have c7 : wr.cell? ⟨bw, 7, none⟩ = some (.pointer (some ⟨v.bl, 0, none⟩)) := hc.cell rfl
    have h7 : W21At (wr.setCell ⟨bw, 7, none⟩ (.pointer (some ⟨bl, 0, none⟩))) bw { v with bl := bl } := hc.set 7 _ rfl
    have kS := keep_cell wr bw 7 (.pointer (some ⟨bl, 0, none⟩))
    go_upto_region 21 with fail
    generalize wr.setCell ⟨bw, 7, none⟩ (.pointer (some ⟨bl, 0, none⟩)) = ws at *
    clear d7 c7 hc
    refine holdW_begin [16] (Keep (fun j => j ≠ bw) ws.drew) (New ws.drew) (by kernel_rfl) ?_
    replace h7 := h7.new (New.refl ws).drew
    have kS := Keep.new kS (New.refl ws).drew
    generalize ws.drew = wt at *
    have s0 : Keep (fun j => j ≠ bw) wt wt := Keep.refl _ _
    have t0 : New wt wt := New.refl _
    have r12 : ∀ W, New wt W → W.cell? ⟨bw, 12, none⟩ = some (.int .u64 v.m.next) := fun W hW => (h7.new hW).cell rfl
    have r13 : ∀ W, New wt W → W.cell? ⟨bw, 13, none⟩ = some (.slice v.Aw v.nw v.cw) := fun W hW => (h7.new hW).cell rfl
    refine holdW_read (i := 0) (v := ?_) ⟨s0, fun _ => t0⟩ rfl (by kernel_rfl) (by kernel_rfl) (by kernel_rfl) rfl (fun _ _ _ h => h) rfl ?_ ?_
    rotate_left
    ·intro w' hN
     go_simp
     try with_reducible rfl
    simp only [Act.put, ly1, ly3, ly4, ly5, ly6]
    refine holdW_read (i := 1) (v := ?_) ⟨s0, fun _ => t0⟩ rfl (by kernel_rfl) (by kernel_rfl) (by kernel_rfl) rfl (fun _ _ _ h => h) rfl ?_ ?_
    rotate_left
    ·intro w' hN
     go_simp
     try with_reducible rfl
    simp only [Act.put, ly1, ly2, ly3, ly4, ly5, ly6]
    refine holdW_read (i := 2) (v := ?_) ⟨s0, fun _ => t0⟩ rfl (by kernel_rfl) (by kernel_rfl) (by kernel_rfl) rfl (fun _ _ _ h => h) rfl ?_ ?_
    rotate_left
    ·intro w' hN
     go_simp
     try with_reducible rfl
    simp only [Act.put, ly1, ly2, ly3, ly4, ly5, ly6]
    refine holdW_read (i := 3) (v := ?_) ⟨s0, fun _ => t0⟩ rfl (by kernel_rfl) (by kernel_rfl) (by kernel_rfl) rfl (fun _ _ _ h => h) rfl ?_ ?_
    rotate_left
    ·intro w' hN
     go_simp
     try with_reducible rfl
    simp only [Act.put, ly1, ly2, ly3, ly4, ly5, ly6]
    refine holdW_read (i := 4) (v := ?_) ⟨s0, fun _ => t0⟩ rfl (by kernel_rfl) (by kernel_rfl) (by kernel_rfl) rfl (fun _ _ _ h => h) rfl ?_ ?_
    rotate_left
    ·intro w' hN
     go_simp
     try with_reducible rfl
    simp only [Act.put, ly1, ly2, ly3, ly4, ly5, ly6]
    refine holdW_readT (i := 5) (v := ?_) ⟨s0, fun _ => t0⟩ rfl (by kernel_rfl) (by kernel_rfl) (by kernel_rfl) (by kernel_rfl) (by kernel_rfl) (fun _ _ _ h => h) rfl ?_ ?_
    rotate_left
    ·intro w' hN
     go_simp
     try with_reducible rfl
    simp only [Act.put, ly1, ly2, ly3, ly4, ly5, ly6]
    refine holdW_read (i := 6) (v := ?_) ⟨s0, fun _ => t0⟩ rfl (by kernel_rfl) (by kernel_rfl) (by kernel_rfl) rfl (fun _ _ _ h => h) rfl ?_ ?_
    rotate_left
    ·intro w' hN
     go_simp
     try with_reducible rfl
    simp only [Act.put, ly1, ly2, ly3, ly4, ly5, ly6]
    refine holdW_read (i := 7) (v := ?_) ⟨s0, fun _ => t0⟩ rfl (by kernel_rfl) (by kernel_rfl) (by kernel_rfl) rfl (fun _ _ _ h => h) rfl ?_ ?_
    rotate_left
    ·intro w' hN
     go_simp
     try with_reducible rfl
    simp only [Act.put, ly1, ly2, ly3, ly4, ly5, ly6]
    refine holdW_read (i := 8) (v := ?_) ⟨s0, fun _ => t0⟩ rfl (by kernel_rfl) (by kernel_rfl) (by kernel_rfl) rfl (fun _ _ _ h => h) rfl ?_ ?_
    rotate_left
    ·intro w' hN
     go_simp
     try with_reducible rfl
    simp only [Act.put, ly1, ly2, ly3, ly4, ly5, ly6]
    refine holdW_readT (i := 9) (v := ?_) ⟨s0, fun _ => t0⟩ rfl (by kernel_rfl) (by kernel_rfl) (by kernel_rfl) (by kernel_rfl) (by kernel_rfl) (fun _ _ _ h => h) rfl ?_ ?_
    rotate_left
    ·intro w' hN
     go_simp
     try with_reducible rfl
    simp only [Act.put, ly1, ly2, ly3, ly4, ly5, ly6]
    refine holdW_read (i := 10) (v := ?_) ⟨s0, fun _ => t0⟩ rfl (by kernel_rfl) (by kernel_rfl) (by kernel_rfl) rfl (fun _ _ _ h => h) rfl ?_ ?_
    rotate_left
    ·intro w' hN
     go_simp
     try with_reducible rfl
    simp only [Act.put, ly1, ly2, ly3, ly4, ly5, ly6]
    refine holdW_read (i := 11) (v := ?_) ⟨s0, fun _ => t0⟩ rfl (by kernel_rfl) (by kernel_rfl) (by kernel_rfl) rfl (fun _ _ _ h => h) rfl ?_ ?_
    rotate_left
    ·intro w' hN
     go_simp
     try with_reducible rfl
    simp only [Act.put, ly1, ly2, ly3, ly4, ly5, ly6]
    refine holdW_read (i := 12) (v := ?_) ⟨s0, fun _ => t0⟩ rfl (by kernel_rfl) (by kernel_rfl) (by kernel_rfl) rfl (fun _ _ _ h => h) rfl ?_ ?_
    rotate_left
    ·intro w' hN
     go_simp
     try with_reducible rfl
    simp only [Act.put, ly1, ly2, ly3, ly4, ly5, ly6]
    refine holdW_read (i := 13) (v := ?_) ⟨s0, fun _ => t0⟩ rfl (by kernel_rfl) (by kernel_rfl) (by kernel_rfl) rfl (fun _ _ _ h => h) rfl ?_ ?_
    rotate_left
    ·intro w' hN
     go_simp
     try with_reducible rfl
    simp only [Act.put, ly1, ly2, ly3, ly4, ly5, ly6]
    refine holdW_read (i := 14) (v := ?_) ⟨s0, fun _ => t0⟩ rfl (by kernel_rfl) (by kernel_rfl) (by kernel_rfl) rfl (fun _ _ _ h => h) rfl ?_ ?_
    rotate_left
    ·intro w' hN
     go_simp
     try with_reducible rfl
    simp only [Act.put, ly1, ly2, ly3, ly4, ly5, ly6]
    refine holdW_read (i := 15) (v := ?_) ⟨s0, fun _ => t0⟩ rfl (by kernel_rfl) (by kernel_rfl) (by kernel_rfl) rfl (fun _ _ _ h => h) rfl ?_ ?_
    rotate_left
    ·intro w' hN
     go_simp
     try with_reducible rfl
    simp only [Act.put, ly1, ly2, ly3, ly4, ly5, ly6]
    clear r12 r13
    have d12 : wt.cell? ⟨bw, 12, none⟩ = some (.int .u64 v.m.next) := h7.cell rfl
    have f12 := h7.free 12
    refine holdW_step (i := 16) (by kernel_rfl) rfl rfl (fun K hK => ?_)
    go_simp
    obtain ⟨nn, hnn⟩ : ∃ nn, nn = (logOf id21 s.segs).next := ⟨_, rfl⟩
    rw [← hnn]
    have h8 : W21At (wt.setCell ⟨bw, 12, none⟩ (.int .u64 nn)) bw { v with bl := bl, m := { v.m with next := nn } } := h7.set 12 _ rfl
    have s1 := s0.trans (keep_cell wt bw 12 (.int .u64 nn))
    refine hK.out _ _ ⟨s1, fun h => absurd h (by decide)⟩ ?_
    clear hK K d12 f12 h7
    try simp only [Act.put, ly1, ly2, ly3, ly4, ly5, ly6]
    generalize wt.setCell _ _ = wu at *
    replace hnn := Lib.hid hnn
    refine wpAnyW_done (by kernel_rfl) ?_ _
    have kU := kS.trans s1
    clear s0 s1 t0 kS hwx hwn
    have f10 := h8.free 10
    have f11 := h8.free 11
    have f13 := h8.free 13
    have d10 : wu.cell? ⟨bw, 10, none⟩ = some (.int .i64 v.m.bytes) := h8.cell rfl
    have d11 : wu.cell? ⟨bw, 11, none⟩ = some (.int .i64 v.m.waits) := h8.cell rfl
    have d13 : wu.cell? ⟨bw, 13, none⟩ = some (.slice v.Aw v.nw v.cw) := h8.cell rfl
    have h9 : W21At (((wu.setCell ⟨bw, 10, none⟩ (.int .i64 0)).setCell ⟨bw, 11, none⟩ (.int .i64 0)).setCell ⟨bw, 13, none⟩ (.slice none 0 0)) bw (v.reopen bl { v.m with next := nn, bytes := 0, waits := 0 }) := ((h8.set 10 (.int .i64 0) (v' := { v with bl := bl, m := { v.m with next := nn, bytes := 0 } }) rfl).set 11 (.int .i64 0) (v' := { v with bl := bl, m := { v.m with next := nn, bytes := 0, waits := 0 } }) rfl).set 13 (.slice none 0 0) rfl
    have k9 : Keep (fun j => j ≠ bw) wr (((wu.setCell ⟨bw, 10, none⟩ (.int .i64 0)).setCell ⟨bw, 11, none⟩ (.int .i64 0)).setCell ⟨bw, 13, none⟩ (.slice none 0 0)) := ((kU.trans (keep_cell wu bw 10 (.int .i64 0))).trans (keep_cell _ bw 11 (.int .i64 0))).trans (keep_cell _ bw 13 (.slice none 0 0))
    have hfin : WAt J (((wu.setCell ⟨bw, 10, none⟩ (.int .i64 0)).setCell ⟨bw, 11, none⟩ (.int .i64 0)).setCell ⟨bw, 13, none⟩ (.slice none 0 0)) (fun b => D b ∧ b < w.heap.size) (fun b => w3.heap.size ≤ b ∧ b ≠ bl) base bw q (v.reopen bl { v.m with next := nn, bytes := 0, waits := 0 }) ⟨s.segs, []⟩ none 0 S := by
     refine ⟨Mid.again HH.out.mid (HK4.out.new HKi.out) HBL.out.2 HBL.out.1 (HLO.out.new HKi.out) k9 h9, HH.out.st.again, ?_, HH.out.laid⟩
     show (⟨v.m.segments, v.m.sealed, 0, 0, nn⟩ : RefL) = _
     rw [HM.out, hnn.out]
     simp [refOf, waitBytes, leavesOf, W21V.reopen]
    have HSM := Lib.hid hfin.same
    have HF := Lib.hid hfin
    have HKE := Lib.hid ((Keep.of_new (D := fun b => b < w.heap.size ∧ FarOf bw q v A b) (HK4.out.new HKi.out)).trans (k9.imp fun b _ hb e => hb.2.1 e))
    clear hfin h9 k9 kU
    go_wp2_with fail
    refine HSM.out.mono ?_
    rintro e wz ⟨rfl, kz⟩
    go_wp2_with fail
    go_ret
    unfold Do1Ret
    exact ⟨rfl, HKE.out.new kz, _, _, _, none, 0, S, HF.out.new kz, rfl, rfl, rfl, fun b hb hf => by obtain ⟨f1, f2, f3, f4, f5, f6⟩ := hf; have h1 := HBL.out; exact ⟨f1, by show b ≠ bl; omega, f3, fun e => (by cases e), fun e => (by cases e), f6⟩, fun b hb => ⟨fun h => .inl h.1, fun h => by have h1 := HBL.out; have h2 := h.1; omega⟩⟩
end
end Go.Proofs.YtajnkbfcnmajoaaGreatDoor
