/-
  PROVED HERE: texts that belong together, one behind the other; what each proves, and under which conditions, its own opening remark says: Opens21, CLack.
-/
import Derived.Test.YtajnkbfcnmajoaaGreatDoorPkB08
import Derived.Test.YtajnkbfcnmajoaaGreatDoorPkB43
import Derived.Test.YtajnkbfcnmajoaaGreatDoorPkB47
/-
  PROVED HERE: the law LogOpens answers true; conditions: arguments as they may come in.
-/
namespace Go.Proofs.YtajnkbfcnmajoaaGreatDoor
open Go.RowKit

set_option maxRecDepth 100000 in
set_option maxHeartbeats 4000000 in
theorem opens21_any (A : Option Addr) (n c : Nat) (ls : List AskP) (z : Int) (w : World) (hB : Sl askElt w (fun _ => True) A n ls) (hz : -9223372036854775808 ≤ z ∧ z ≤ 9223372036854775807) : Calls Tryz.prog 6 #[.slice A n c, .int .i64 z] w fun e w' => e = .returned (.bool true) ∧ New w w' := by
  have hln := hB.len
  have HBE := Lib.hid (begin21_st 120 (by decide) (by decide) w)
  have HKN := Lib.hid (fun W => known21_any W)
  have HB := Lib.hid hB.old
  clear hB
  go_enter Tryz.func6, Tryz.ntmps6
  go_wp2_with fail
  refine HBE.out.mono ?_
  rintro e w1 ⟨k1, bw, rfl, h1⟩
  have HK1 := Lib.hid k1
  have H1 := Lib.hid h1
  clear k1 h1 HBE
  go_wp2_with fail
  go_loopw [6] (fun i wx => ∃ (i0 : Nat) (s : LogS), i0 ≤ n ∧ i0 ≤ 30 ∧ i = .int .i64 (i0 : Int) ∧ s.nxt ≤ 1 + (i0 : Int) ∧ W21 wx (fun b => b < w.heap.size) bw 120 s ∧ Keep (fun b => b < w.heap.size) w1 wx) (fun i _ => 30 - (intOf i).toNat)
  case atStart => exact ⟨0, ⟨[], []⟩, Nat.zero_le _, Nat.zero_le _, rfl, by decide +kernel, H1.out, Keep.refl _ _⟩
  case round =>
    obtain ⟨i0, s, hin, hi5, rfl, hnx, hs, hkb⟩ := hrel
    have HS := Lib.hid hs
    have HKB := Lib.hid hkb
    have HNX := Lib.hid hnx
    clear hs hkb hnx
    by_cases hlt : i0 < n ∧ i0 < 30
    · obtain ⟨hl1, hl2⟩ := hlt
      have hx : i0 < ls.length := by omega
      have HBR := Lib.hid (HB.out.keep ((Keep.of_new (D := fun b => b < w.heap.size) HK1.out).trans HKB.out) fun b hb _ => hb)
      obtain ⟨b, off, us, hA, _, _, ⟨Ab, cb, e0, e1, e2, e3, hcb, hcm, hbb, hfi⟩, _, hcell⟩ := HBR.out.at_ (k := i0) hx
      obtain ⟨x, hxx⟩ : ∃ x, x = ls[i0] := ⟨_, rfl⟩
      rw [← hxx] at e0 e1 e2 e3 hcb hbb hfi
      subst hA
      have HDO := Lib.hid (HS.out.act x hfi Ab cb hbb hcb hcm (by have := HNX.out; omega))
      have c0 : wr.cell? ⟨b, off + i0 * 4, none⟩ = some (.int .i64 x.kind) := hcell 0 _ e0
      have c1 : wr.cell? ⟨b, off + i0 * 4 + 1, none⟩ = some (.int .i64 x.turn) := hcell 1 _ e1
      have c2 : wr.cell? ⟨b, off + i0 * 4 + 2, none⟩ = some (.bool x.mark) := hcell 2 _ e2
      have c3 : wr.cell? ⟨b, off + i0 * 4 + 3, none⟩ = some (.slice Ab x.body.length cb) := hcell 3 _ e3
      have hl3 : (i0 : Int) < (n : Int) := by omega
      have hl4 : (i0 : Int) < 30 := by omega
      clear hxx e0 e1 e2 e3 hcb hcm hbb hfi hcell hx
      have hd3 : decide ((i0 : Int) < (n : Int)) = true := decide_eq_true hl3
      have hd4 : decide ((i0 : Int) < 30) = true := decide_eq_true hl4
      by_cases hk3 : x.kind < 3
      · have hd5 : decide (x.kind < 3) = true := decide_eq_true hk3
        go_wp2_with fail
        refine HDO.out.mono ?_
        rintro e w2 ⟨rfl, b2, h2⟩
        have HF := Lib.hid (And.intro b2 h2)
        clear b2 h2 HDO c0 c1 c2 c3
        go_wp2_with fail
        go_roundw
        case rel => exact ⟨i0 + 1, _, by omega, by omega, by go_num, by have h1 := step_nxt (segsOf 120) s x; have h2 := HNX.out; omega, HF.out.2, HKB.out.trans HF.out.1⟩
        case measure => simp [intOf]; omega
      · have hd5 : decide (x.kind < 3) = false := decide_eq_false hk3
        go_wp2_with fail
        go_roundw
        case rel => exact ⟨i0 + 1, s, by omega, by omega, by go_num, by have h2 := HNX.out; omega, HS.out, HKB.out⟩
        case measure => simp [intOf]; omega
    · skip
      have hor : ¬ (i0 : Int) < (n : Int) ∨ ((i0 : Int) < (n : Int) ∧ ¬ (i0 : Int) < 30) := by omega
      clear hlt
      rcases hor with hl3 | ⟨hl3, hl4⟩
      · have hd3 : decide ((i0 : Int) < (n : Int)) = false := decide_eq_false hl3
        obtain ⟨s1, hs1⟩ : ∃ s1, s.step (segsOf 120) ⟨2, 0, false, []⟩ = s1 := ⟨_, rfl⟩
        obtain ⟨s2, hs2⟩ : ∃ s2, s1.step (segsOf 120) ⟨3, z, false, []⟩ = s2 := ⟨_, rfl⟩
        obtain ⟨s3, hs3⟩ : ∃ s3, s2.step (segsOf 120) ⟨1, 0, true, []⟩ = s3 := ⟨_, rfl⟩
        obtain ⟨s4, hs4⟩ : ∃ s4, s3.step (segsOf 120) ⟨2, 0, false, []⟩ = s4 := ⟨_, rfl⟩
        have hn1 := step_nxt (segsOf 120) s ⟨2, 0, false, []⟩
        have hn2 := step_nxt (segsOf 120) s1 ⟨3, z, false, []⟩
        have hn3 := step_nxt (segsOf 120) s2 ⟨1, 0, true, []⟩
        have hn0 := HNX.out
        rw [hs1] at hn1
        rw [hs2] at hn2
        rw [hs3] at hn3
        have HN := Lib.hid (show s.nxt < 1000000 ∧ s1.nxt < 1000000 ∧ s2.nxt < 1000000 ∧ s3.nxt < 1000000 by omega)
        clear hn0 hn1 hn2 hn3
        replace hs1 := Lib.hid hs1
        replace hs2 := Lib.hid hs2
        replace hs3 := Lib.hid hs3
        replace hs4 := Lib.hid hs4
        have HD1 := Lib.hid (HS.out.actNil 2 0 false (by decide) (by decide) HN.out.1 hs1.out)
        go_wp2_with fail
        refine HD1.out.mono ?_
        rintro e wa ⟨rfl, ba, ha⟩
        have HBA := Lib.hid (HKB.out.trans ba)
        have HD2 := Lib.hid (ha.actNil 3 z false (by decide) hz HN.out.2.1 hs2.out)
        clear ba ha HD1
        go_wp2_with fail
        refine HD2.out.mono ?_
        rintro e wb ⟨rfl, ba, ha⟩
        have HBA := Lib.hid (HBA.out.trans ba)
        have HD3 := Lib.hid (ha.actNil 1 0 true (by decide) (by decide) HN.out.2.2.1 hs3.out)
        clear ba ha HD2
        go_wp2_with fail
        refine HD3.out.mono ?_
        rintro e wc ⟨rfl, ba, ha⟩
        have HBA := Lib.hid (HBA.out.trans ba)
        have HD4 := Lib.hid (ha.actNil 2 0 false (by decide) (by decide) HN.out.2.2.2 hs4.out)
        clear ba ha HD3
        go_wp2_with fail
        refine HD4.out.mono ?_
        rintro e wd ⟨rfl, ba, ha⟩
        have HBA := Lib.hid (HBA.out.trans ba)
        have HSF := Lib.hid ha.safe
        clear ba ha HD4
        go_wp2_with fail
        refine HSF.out.mono ?_
        rintro e w2 ⟨rfl, k2⟩
        go_wp2_with fail
        refine (HKN.out _).mono ?_
        rintro e w3 ⟨rfl, k3⟩
        go_wp2_with fail
        go_ret
        exact ⟨rfl, (((Keep.of_new (D := fun b => b < w.heap.size) HK1.out).trans ((HBA.out.new k2).new k3)).toNew fun b hb => hb)⟩
      · have hd3 : decide ((i0 : Int) < (n : Int)) = true := decide_eq_true hl3
        have hd4 : decide ((i0 : Int) < 30) = false := decide_eq_false hl4
        obtain ⟨s1, hs1⟩ : ∃ s1, s.step (segsOf 120) ⟨2, 0, false, []⟩ = s1 := ⟨_, rfl⟩
        obtain ⟨s2, hs2⟩ : ∃ s2, s1.step (segsOf 120) ⟨3, z, false, []⟩ = s2 := ⟨_, rfl⟩
        obtain ⟨s3, hs3⟩ : ∃ s3, s2.step (segsOf 120) ⟨1, 0, true, []⟩ = s3 := ⟨_, rfl⟩
        obtain ⟨s4, hs4⟩ : ∃ s4, s3.step (segsOf 120) ⟨2, 0, false, []⟩ = s4 := ⟨_, rfl⟩
        have hn1 := step_nxt (segsOf 120) s ⟨2, 0, false, []⟩
        have hn2 := step_nxt (segsOf 120) s1 ⟨3, z, false, []⟩
        have hn3 := step_nxt (segsOf 120) s2 ⟨1, 0, true, []⟩
        have hn0 := HNX.out
        rw [hs1] at hn1
        rw [hs2] at hn2
        rw [hs3] at hn3
        have HN := Lib.hid (show s.nxt < 1000000 ∧ s1.nxt < 1000000 ∧ s2.nxt < 1000000 ∧ s3.nxt < 1000000 by omega)
        clear hn0 hn1 hn2 hn3
        replace hs1 := Lib.hid hs1
        replace hs2 := Lib.hid hs2
        replace hs3 := Lib.hid hs3
        replace hs4 := Lib.hid hs4
        have HD1 := Lib.hid (HS.out.actNil 2 0 false (by decide) (by decide) HN.out.1 hs1.out)
        go_wp2_with fail
        refine HD1.out.mono ?_
        rintro e wa ⟨rfl, ba, ha⟩
        have HBA := Lib.hid (HKB.out.trans ba)
        have HD2 := Lib.hid (ha.actNil 3 z false (by decide) hz HN.out.2.1 hs2.out)
        clear ba ha HD1
        go_wp2_with fail
        refine HD2.out.mono ?_
        rintro e wb ⟨rfl, ba, ha⟩
        have HBA := Lib.hid (HBA.out.trans ba)
        have HD3 := Lib.hid (ha.actNil 1 0 true (by decide) (by decide) HN.out.2.2.1 hs3.out)
        clear ba ha HD2
        go_wp2_with fail
        refine HD3.out.mono ?_
        rintro e wc ⟨rfl, ba, ha⟩
        have HBA := Lib.hid (HBA.out.trans ba)
        have HD4 := Lib.hid (ha.actNil 2 0 false (by decide) (by decide) HN.out.2.2.2 hs4.out)
        clear ba ha HD3
        go_wp2_with fail
        refine HD4.out.mono ?_
        rintro e wd ⟨rfl, ba, ha⟩
        have HBA := Lib.hid (HBA.out.trans ba)
        have HSF := Lib.hid ha.safe
        clear ba ha HD4
        go_wp2_with fail
        refine HSF.out.mono ?_
        rintro e w2 ⟨rfl, k2⟩
        go_wp2_with fail
        refine (HKN.out _).mono ?_
        rintro e w3 ⟨rfl, k3⟩
        go_wp2_with fail
        go_ret
        exact ⟨rfl, (((Keep.of_new (D := fun b => b < w.heap.size) HK1.out).trans ((HBA.out.new k2).new k3)).toNew fun b hb => hb)⟩
end Go.Proofs.YtajnkbfcnmajoaaGreatDoor
/-
  PROVED HERE: what a claim over a base without them asks for beside it (XRow has the same: never build both); each says its own conditions.
-/
namespace Go.Proofs.YtajnkbfcnmajoaaGreatDoor
open Go.ChangeShapes Go.WideShapes Go.ChangeAt Go.RowKit Go.Joins Go.Deep
theorem laid_out : laidOutB Tryz.prog = true := by kernel_rfl
theorem own_knob : ownKnob Tryz.prog.godebug = none := by kernel_rfl
section
variable {H : Type} {enc : TypeId × Value → H} {P : Program} {W W' : World}
theorem trodAll_stays (hl : laidOutB P = true) {sp' : Nat → Bool} : ∀ {ts : List TypeId} {vs : List Value} {ds : List (DataW H)} {ps : List MemPlace}, (ts.all fun t => P.readableRec t && decide (t < P.types.size)) = true →
  DataW.TrodAll enc P W 0 (fun _ => true) true ts vs ds ps → (∀ p ∈ ps, W.sameAt W' p) → (∀ p ∈ ps, sp' p.block = true) → DataW.TrodAll enc P W' 0 sp' true ts vs ds ps
 | [], [], [], _, _, h, _, _ => h
 | t :: ts, v :: vs, d :: ds, ps, hr, h, hs, hp => by
  obtain ⟨p, q, h1, h2, rfl⟩ := h
  simp only [List.all_cons, Bool.and_eq_true, decide_eq_true_eq] at hr
  refine ⟨p, q, WideElems.Trod_stays hl hr.1.1 hr.1.2 h1 (fun x hx => hs x (by simp [hx])) (fun x hx => hp x (by simp [hx])), trodAll_stays hl (by simpa using hr.2) h2 (fun x hx => hs x (by simp [hx])) (fun x hx => hp x (by simp [hx])), rfl⟩
theorem post_of_below {f : Func} {s : ChangeSpec} {apart fresh handsOn again : Bool} {args : Array Value} {v : Value} {ds gs : List (DataW H)} {before pa pv : List MemPlace}
  (hW : DataW.Whole enc P f.params.toList s.vars apart W args.toList ds gs before)
  (hres : ∀ (b : Nat) (sp : Nat → Bool) (hd : Bool), DataW.TrodAll enc P W' b sp hd f.resultTypes.toList (v.resultList f.resultTypes.size) (s.fn H (ds ++ gs)).results [])
  (hargs : ∀ sp : Nat → Bool, (∀ p ∈ before, sp p.block = true) → DataW.TrodAll enc P W' 0 sp true f.params.toList args.toList (s.fn H (ds ++ gs)).args pa)
  (hvars : ∀ sp : Nat → Bool, (∀ p ∈ before, sp p.block = true) → DataW.TrodVars enc P W' sp s.vars (s.fn H (ds ++ gs)).vars pv)
  (hps : before = pa ++ pv) (hb : Below W.heap.size W W')
  (hok : ∀ (j : Nat) (t : TypeId) (r : Value), f.resultTypes[j]? = some t → (v.resultList f.resultTypes.size)[j]? = some r → Value.okWide P W' .any 0 t r) :
  s.post enc P f apart fresh handsOn again W args v W' := by
 have hlt : ∀ p ∈ before, p.block < W.heap.size := fun p hp => hW.lt p hp
 have hold : ∀ p ∈ before, (fun b => decide (b < W.heap.size)) p.block = true := fun p hp => by simpa using hlt p hp
 refine ⟨ds, gs, before, [], pa, pv, hW, hres _ _ _, hargs _ hold, hvars _ hold, World.keptBut_mono (fun p hp => ⟨hp, ?_⟩) (hb.frame (· ∈ before)), fun _ => ?_⟩
 ·rw [hps, List.mem_append] at hp
  exact Or.inr hp
 ·obtain ⟨_, _, _, _, _, hz, hn⟩ := hW
  refine ⟨hok, _, _, ([] ++ pa) ++ pv, ⟨[] ++ pa, pv, trodAll_append (hargs _ (fun _ _ => rfl)) (hres _ _ _), hvars _ (fun _ _ => rfl), rfl, ?_, ?_⟩, ?_⟩
  ·intro b off hp
   have hin : MemPlace.cell b off ∈ before := by rw [hps]; simpa using hp
   rw [hb.frozen (hlt _ hin)]
   exact hz b off hin
  ·intro ha
   have := hn ha
   rw [hps] at this
   simpa using this
  ·intro p hp _
   rw [hps]
   simpa using hp
theorem law_post {f : Func} {s : ChangeSpec} {apart fresh handsOn again : Bool} {args : Array Value} {tb : TypeId} {ds gs : List (DataW H)} {before : List MemPlace}
  (hl : laidOutB P = true) (hts : (f.params.toList.all fun t => P.readableRec t && decide (t < P.types.size)) = true) (hv : s.vars = []) (hrt : f.resultTypes = #[tb]) (htb : P.underlying tb = some .bool)
  (hW : DataW.Whole enc P f.params.toList s.vars apart W args.toList ds gs before)
  (hr : (s.fn H (ds ++ gs)).results = [.lit (.bool true)]) (ha : (s.fn H (ds ++ gs)).args = ds) (hva : (s.fn H (ds ++ gs)).vars = []) (hN : New W W') :
  s.post enc P f apart fresh handsOn again W args (.bool true) W' := by
 have hW' := hW
 obtain ⟨p, q, hA, hV, rfl, hfz, hnd⟩ := hW
 rw [hv] at hV
 have hq : gs = [] ∧ q = [] := by
  cases gs with
  | nil => exact ⟨rfl, hV⟩
  | cons _ _ => exact hV.elim
 obtain ⟨rfl, rfl⟩ := hq
 have hb : Below W.heap.size W W' := hN.below
 refine post_of_below (pa := p) (pv := []) hW' (fun _ _ _ => ?_) (fun sp hsp => ?_) (fun _ _ => ?_) rfl hb ?_
 ·rw [hr, hrt]; exact trodAll_cons_mk (shut_bool htb _) trodAll_mk0
 ·rw [ha]; exact trodAll_stays hl hts hA (fun x hx => hb.same (hW'.lt x (by simp [hx]))) (fun x hx => hsp x (by simp [hx]))
 ·rw [hva, hv]; rfl
 ·exact ok_one hrt rfl (okWide_bool_mk htb _)
end
end Go.Proofs.YtajnkbfcnmajoaaGreatDoor
