/-
  PROVED HERE: texts that belong together, one behind the other; what each proves, and under which conditions, its own opening remark says: Priv21, CLack.
-/
import Derived.Test.YtajnkbfcnmajoaaGreatDoorPkB08
import Derived.Test.YtajnkbfcnmajoaaGreatDoorPkH07
/-
  PROVED HERE: chapter 21's world beside a row of strings that is the caller's own: whatever is asked, the row stays, and the world stays where the row is written; conditions: its Seqs are small.
-/
namespace Go.Proofs.YtajnkbfcnmajoaaGreatDoor
open Go.RowKit
def W21P (w : World) (F G : Nat → Prop) (bw n : Nat) (s : LogS) : Prop := ∃ (base : Nat) (q : DiskB) (v : W21V) (D DL : Nat → Prop) (A : Option Addr) (c : Nat) (S : List UInt8), WAt False w D DL base bw q v s A c S ∧ v.k = n ∧ (∀ b, F b → b < w.heap.size ∧ FarOf bw q v A b) ∧ ∀ b, G b → (b < w.heap.size ∧ FarOf bw q v A b) ∧ ¬ D b ∧ ¬ DL b
section
variable {w w' : World} {F G : Nat → Prop} {bw n : Nat} {s : LogS}
theorem W21P.pub (h : W21P w F G bw n s) : W21 w F bw n s := by
 obtain ⟨base, q, v, D, DL, A, c, S, h, hn, hF, _⟩ := h
 exact ⟨base, q, v, D, DL, A, c, S, h, hn, hF⟩
theorem W21P.new (h : W21P w F G bw n s) (hk : New w w') : W21P w' F G bw n s := by
 obtain ⟨base, q, v, D, DL, A, c, S, h, hn, hF, hG⟩ := h
 exact ⟨base, q, v, D, DL, A, c, S, h.new hk, hn, fun b hb => ⟨Nat.lt_of_lt_of_le (hF b hb).1 hk.size, (hF b hb).2⟩, fun b hb => ⟨⟨Nat.lt_of_lt_of_le (hG b hb).1.1 hk.size, (hG b hb).1.2⟩, (hG b hb).2⟩⟩
theorem WAt.trim {J : Prop} {base : Nat} {q : DiskB} {v : W21V} {D DL : Nat → Prop} {A : Option Addr} {c : Nat} {S : List UInt8} (h : WAt J w D DL base bw q v s A c S) : WAt J w (fun b => D b ∧ b < w.heap.size) (fun b => DL b ∧ b < w.heap.size) base bw q v s A c S := by
 have m := h.mid
 refine ⟨⟨m.doc.imp (fun b hb hd => ⟨hd, hb⟩) (fun b hb => m.doc.out b hb.1), ⟨m.on.log.imp (fun b hb hd => ⟨hd, hb⟩) (fun hd => m.on.log.out hd.1), m.on.disk, m.on.size, m.on.plan, m.on.apart, m.on.row, fun b hb => m.on.data b hb.1⟩, m.bd, fun b hb => m.cross1 b hb.1, fun b hb => m.cross2 b hb.1, m.low, m.size⟩, h.st, h.m, h.laid⟩
theorem W21.priv (h : W21 w F bw n s) (hk : New w w') : W21P w' F (fun b => w.heap.size ≤ b ∧ b < w'.heap.size) bw n s := by
 obtain ⟨base, q, v, D, DL, A, c, S, h, hn, hF⟩ := h
 have ht := h.trim
 exact ⟨base, q, v, _, _, A, c, S, ht.new hk, hn, fun b hb => ⟨Nat.lt_of_lt_of_le (hF b hb).1 hk.size, (hF b hb).2⟩, fun b hb => ⟨⟨hb.2, h.mid.newFar b hb.1⟩, fun hd => absurd hd.2 (by omega), fun hd => absurd hd.2 (by omega)⟩⟩
theorem W21P.more (h : W21P w F G bw n s) (hk : New w w') : W21P w' F (fun b => G b ∨ (w.heap.size ≤ b ∧ b < w'.heap.size)) bw n s := by
 obtain ⟨base, q, v, D, DL, A, c, S, h, hn, hF, hG⟩ := h
 have ht := h.trim
 exact ⟨base, q, v, _, _, A, c, S, ht.new hk, hn, fun b hb => ⟨Nat.lt_of_lt_of_le (hF b hb).1 hk.size, (hF b hb).2⟩, fun b hb => hb.elim (fun hb => ⟨⟨Nat.lt_of_lt_of_le (hG b hb).1.1 hk.size, (hG b hb).1.2⟩, fun hd => (hG b hb).2.1 hd.1, fun hd => (hG b hb).2.2 hd.1⟩) (fun hb => ⟨⟨hb.2, h.mid.newFar b hb.1⟩, fun hd => absurd hd.2 (by omega), fun hd => absurd hd.2 (by omega)⟩)⟩
theorem W21P.imp {E : Nat → Prop} (h : W21P w F G bw n s) (hE : ∀ b, E b → G b) : W21P w F E bw n s := by
 obtain ⟨base, q, v, D, DL, A, c, S, h, hn, hF, hG⟩ := h
 exact ⟨base, q, v, D, DL, A, c, S, h, hn, hF, fun b hb => hG b (hE b hb)⟩
theorem W21P.act (h : W21P w F G bw n s) (hFG : ∀ b, F b → ¬ G b) (x : AskP) (hx : x.Fine) (Ab : Option Addr) (cb : Nat) (hB : Bs w F Ab x.body.length x.body) (hcb : x.body.length ≤ cb) (hcm : cb ≤ 9223372036854775807) (ht : s.nxt < 1000000) :
  Calls Tryz.prog 10 #[.pointer (some ⟨bw, 0, none⟩), .agg #[.int .i64 x.kind, .int .i64 x.turn, .bool x.mark, .slice Ab x.body.length cb]] w fun e w' => e = .returned (.bool true) ∧ Keep (fun b => F b ∨ G b) w w' ∧ W21P w' F G bw n (s.step (segsOf n) x) := by
 obtain ⟨base, q, v, D, DL, A, c, S, h, hn, hF, hG⟩ := h
 have hg := h.segs.1
 rw [hn] at hg
 refine (do_anyB h hF x hx Ab cb hB hcb hcm (by rw [h.next]; exact ht)).mono ?_
 rintro e w' ⟨he, hk, v', D', DL', A', c', S', h', hk', _, _, hf, hd⟩
 rw [hg] at h'
 have hz := hk.size
 exact ⟨he, hk.imp fun b _ hb => hb.elim (hF b) (fun hb => (hG b hb).1), base, q, v', D', DL', A', c', S', h', hk'.trans hn, fun b hb => ⟨by have := (hF b hb).1; omega, hf b (hF b hb).1 (hF b hb).2⟩, fun b hb => ⟨⟨by have := (hG b hb).1.1; omega, hf b (hG b hb).1.1 (hG b hb).1.2⟩, fun h1 => ((hd b (hG b hb).1.1).1 h1).elim (hG b hb).2.1 (fun h2 => hFG b h2 hb), fun h1 => (hG b hb).2.2 ((hd b (hG b hb).1.1).2 h1)⟩⟩
theorem WAt.write {J : Prop} {base : Nat} {q : DiskB} {v : W21V} {D DL : Nat → Prop} {A : Option Addr} {c : Nat} {S : List UInt8} (h : WAt J w D DL base bw q v s A c S) (hG : ∀ b, G b → (b < w.heap.size ∧ FarOf bw q v A b) ∧ ¬ D b ∧ ¬ DL b) {g : Option Nat} (hg : ∀ k, g = some k → G k) (hk : Keep (fun b => some b ≠ g) w w') : WAt J w' D DL base bw q v s A c S := by
 have hz := hk.size
 have key : ∀ {b : Nat}, (∀ k, G k → b ≠ k) → some b ≠ g := fun {b} hb e => hb b (hg b e.symm) rfl
 have m := h.mid
 have fw : ∀ k, G k → bw ≠ k := fun k hk e => (hG k hk).1.2.1 e.symm
 have fr : ∀ {B : Option Addr}, (∀ k, G k → some k ≠ blk B) → ∀ j, blk B = some j → some j ≠ g := fun hB j hj e => hB j (hg j e.symm) hj.symm
 have dD : ∀ b, D b → some b ≠ g := fun b hb e => (hG b (hg b e.symm)).2.1 hb
 have dL : ∀ b, DL b → some b ≠ g := fun b hb e => (hG b (hg b e.symm)).2.2 hb
 have hd := m.doc.keep hk (key fw) (fr fun k hk => (hG k hk).1.2.2.2.2.2.1) (fr fun k hk => (hG k hk).1.2.2.2.2.2.2.1) (fr fun k hk => (hG k hk).1.2.2.2.2.2.2.2.1) (fr fun k hk => (hG k hk).1.2.2.2.2.2.2.2.2) dD
 have hl := m.on.keep hk (key fun k hk e => (hG k hk).1.2.2.1 e.symm) (fr fun k hk => (hG k hk).1.2.2.2.2.1) dL (fun b hb => key fun k hk e => by subst e; exact diskOf_not hb (hG b hk).1.2.2.2.1)
 exact ⟨⟨hd, hl, m.bd, m.cross1, m.cross2, m.low, by have := m.size; omega⟩, h.st, h.m, h.laid⟩
theorem W21P.andRow (h : W21P w F G bw n s) {g r : Option Nat} (hg : ∀ k, g = some k → G k) (hk : Keep (fun b => some b ≠ g) w w') (hr : r = g ∨ r = some w.heap.size) (hl : ∀ k, r = some k → k < w'.heap.size) : W21P w' F (fun b => G b ∨ r = some b) bw n s := by
 obtain ⟨base, q, v, D, DL, A, c, S, h, hn, hF, hG⟩ := h
 have hz := hk.size
 have hq := h.trim.write (fun b hb => ⟨(hG b hb).1, fun hd => (hG b hb).2.1 hd.1, fun hd => (hG b hb).2.2 hd.1⟩) hg hk
 have old : ∀ b, G b → (b < w'.heap.size ∧ FarOf bw q v A b) ∧ ¬ (D b ∧ b < w.heap.size) ∧ ¬ (DL b ∧ b < w.heap.size) := fun b hb => ⟨⟨by have := (hG b hb).1.1; omega, (hG b hb).1.2⟩, fun hd => (hG b hb).2.1 hd.1, fun hd => (hG b hb).2.2 hd.1⟩
 refine ⟨base, q, v, _, _, A, c, S, hq, hn, fun b hb => ⟨by have := (hF b hb).1; omega, (hF b hb).2⟩, fun b hb => hb.elim (old b) (fun e => ?_)⟩
 rcases hr with h1 | h1
 ·exact old b (hg b (h1.symm.trans e))
 ·have hb : w.heap.size = b := by rw [h1] at e; exact Option.some.inj e
  exact ⟨⟨hl b e, h.mid.newFar b (by omega)⟩, fun hd => by have := hd.2; omega, fun hd => by have := hd.2; omega⟩
end
theorem step_turns {n : Nat} {s : LogS} {x : AskP} (h3 : x.kind ≠ 3) : (((s.step n x).segs = s.segs) ∨ ((s.step n x).segs.length = s.segs.length + 1)) ∧ ((s.step n x).nxt = s.nxt ∨ (s.step n x).nxt = s.nxt + 1) := by
 have shut : ((s.shut.segs = s.segs) ∨ (s.shut.segs.length = s.segs.length + 1)) := by
  unfold LogS.shut
  split
  ·exact .inl rfl
  ·right; simp
 unfold LogS.step
 split
 ·have hn := ask_nxt n s s.nxt x.mark x.turn x.body
  refine ⟨?_, by omega⟩
  unfold LogS.ask
  split
  ·exact .inl rfl
  ·split
   ·rename_i s' he
    unfold LogS.append at he
    split at he
    ·cases he
    ·split at he
     ·injection he with he; subst he; exact .inl rfl
     ·split at he
      ·cases he
      ·injection he with he; subst he; right; simp
   ·exact .inl rfl
 ·split
  ·exact ⟨shut, .inl (shut_nxt s)⟩
  ·exact ⟨.inl rfl, .inl rfl⟩
end Go.Proofs.YtajnkbfcnmajoaaGreatDoor
/-
  PROVED HERE: what a claim over a base without them asks for beside it (XRow has the same: never build both); each says its own conditions.
-/
namespace Go.Proofs.YtajnkbfcnmajoaaGreatDoor
open Go.ChangeShapes Go.WideShapes Go.ChangeAt Go.RowKit Go.Joins Go.Deep
theorem laid_out : laidOutB Tryz.prog = true := by kernel_rfl
theorem own_knob : ownKnob Tryz.prog.godebug = none := by kernel_rfl
section
variable {H : Type} {enc : TypeId × Value → H} {P : Program} {W W' : World}
theorem trodAll_stays (hl : laidOutB P = true) {sp' : Nat → Bool} : ∀ {ts : List TypeId} {vs : List Value} {ds : List (DataW H)} {ps : List MemPlace}, (ts.all fun t => P.readableRec t && decide (t < P.types.size)) = true →
  DataW.TrodAll enc P W 0 (fun _ => true) true ts vs ds ps → (∀ p ∈ ps, W.sameAt W' p) → (∀ p ∈ ps, sp' p.block = true) → DataW.TrodAll enc P W' 0 sp' true ts vs ds ps
 | [], [], [], _, _, h, _, _ => h
 | t :: ts, v :: vs, d :: ds, ps, hr, h, hs, hp => by
  obtain ⟨p, q, h1, h2, rfl⟩ := h
  simp only [List.all_cons, Bool.and_eq_true, decide_eq_true_eq] at hr
  refine ⟨p, q, WideElems.Trod_stays hl hr.1.1 hr.1.2 h1 (fun x hx => hs x (by simp [hx])) (fun x hx => hp x (by simp [hx])), trodAll_stays hl (by simpa using hr.2) h2 (fun x hx => hs x (by simp [hx])) (fun x hx => hp x (by simp [hx])), rfl⟩
theorem post_of_below {f : Func} {s : ChangeSpec} {apart fresh handsOn again : Bool} {args : Array Value} {v : Value} {ds gs : List (DataW H)} {before pa pv : List MemPlace}
  (hW : DataW.Whole enc P f.params.toList s.vars apart W args.toList ds gs before)
  (hres : ∀ (b : Nat) (sp : Nat → Bool) (hd : Bool), DataW.TrodAll enc P W' b sp hd f.resultTypes.toList (v.resultList f.resultTypes.size) (s.fn H (ds ++ gs)).results [])
  (hargs : ∀ sp : Nat → Bool, (∀ p ∈ before, sp p.block = true) → DataW.TrodAll enc P W' 0 sp true f.params.toList args.toList (s.fn H (ds ++ gs)).args pa)
  (hvars : ∀ sp : Nat → Bool, (∀ p ∈ before, sp p.block = true) → DataW.TrodVars enc P W' sp s.vars (s.fn H (ds ++ gs)).vars pv)
  (hps : before = pa ++ pv) (hb : Below W.heap.size W W')
  (hok : ∀ (j : Nat) (t : TypeId) (r : Value), f.resultTypes[j]? = some t → (v.resultList f.resultTypes.size)[j]? = some r → Value.okWide P W' .any 0 t r) :
  s.post enc P f apart fresh handsOn again W args v W' := by
 have hlt : ∀ p ∈ before, p.block < W.heap.size := fun p hp => hW.lt p hp
 have hold : ∀ p ∈ before, (fun b => decide (b < W.heap.size)) p.block = true := fun p hp => by simpa using hlt p hp
 refine ⟨ds, gs, before, [], pa, pv, hW, hres _ _ _, hargs _ hold, hvars _ hold, World.keptBut_mono (fun p hp => ⟨hp, ?_⟩) (hb.frame (· ∈ before)), fun _ => ?_⟩
 ·rw [hps, List.mem_append] at hp
  exact Or.inr hp
 ·obtain ⟨_, _, _, _, _, hz, hn⟩ := hW
  refine ⟨hok, _, _, ([] ++ pa) ++ pv, ⟨[] ++ pa, pv, trodAll_append (hargs _ (fun _ _ => rfl)) (hres _ _ _), hvars _ (fun _ _ => rfl), rfl, ?_, ?_⟩, ?_⟩
  ·intro b off hp
   have hin : MemPlace.cell b off ∈ before := by rw [hps]; simpa using hp
   rw [hb.frozen (hlt _ hin)]
   exact hz b off hin
  ·intro ha
   have := hn ha
   rw [hps] at this
   simpa using this
  ·intro p hp _
   rw [hps]
   simpa using hp
theorem law_post {f : Func} {s : ChangeSpec} {apart fresh handsOn again : Bool} {args : Array Value} {tb : TypeId} {ds gs : List (DataW H)} {before : List MemPlace}
  (hl : laidOutB P = true) (hts : (f.params.toList.all fun t => P.readableRec t && decide (t < P.types.size)) = true) (hv : s.vars = []) (hrt : f.resultTypes = #[tb]) (htb : P.underlying tb = some .bool)
  (hW : DataW.Whole enc P f.params.toList s.vars apart W args.toList ds gs before)
  (hr : (s.fn H (ds ++ gs)).results = [.lit (.bool true)]) (ha : (s.fn H (ds ++ gs)).args = ds) (hva : (s.fn H (ds ++ gs)).vars = []) (hN : New W W') :
  s.post enc P f apart fresh handsOn again W args (.bool true) W' := by
 have hW' := hW
 obtain ⟨p, q, hA, hV, rfl, hfz, hnd⟩ := hW
 rw [hv] at hV
 have hq : gs = [] ∧ q = [] := by
  cases gs with
  | nil => exact ⟨rfl, hV⟩
  | cons _ _ => exact hV.elim
 obtain ⟨rfl, rfl⟩ := hq
 have hb : Below W.heap.size W W' := hN.below
 refine post_of_below (pa := p) (pv := []) hW' (fun _ _ _ => ?_) (fun sp hsp => ?_) (fun _ _ => ?_) rfl hb ?_
 ·rw [hr, hrt]; exact trodAll_cons_mk (shut_bool htb _) trodAll_mk0
 ·rw [ha]; exact trodAll_stays hl hts hA (fun x hx => hb.same (hW'.lt x (by simp [hx]))) (fun x hx => hsp x (by simp [hx]))
 ·rw [hva, hv]; rfl
 ·exact ok_one hrt rfl (okWide_bool_mk htb _)
end
end Go.Proofs.YtajnkbfcnmajoaaGreatDoor
