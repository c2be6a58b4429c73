/-
  PROVED HERE: texts that belong together, one behind the other; what each proves, and under which conditions, its own opening remark says: Recs, Row, Raws, Leaves, Concat, Merkle.
-/
import Derived.Test.YtfegdgaanmcecaaGreatDoorRows
import Derived.WalkKit
import Derived.ProofKit
import Derived.OpenShut
import Derived.Carry
import Derived.ChangeSlices
import Derived.Lib.SmallJoins
import Derived.Deep.SlicePairs
import Derived.Lib.AppendZerosOnto
import Derived.Lib.SliceRun
import Derived.Deep.RegionHeld3
import Derived.Test.YtfegdgaanmcecaaGreatDoorPkK00
import Derived.Test.YtfegdgaanmcecaaGreatDoorPkK08
/-
  PROVED HERE: what segment.Fits and segment.Leaves answer; conditions: lengths that a slice may have.
-/
namespace Go.Proofs.YtfegdgaanmcecaaGreatDoor
open Go.RowKit

/-- a record that lies at a place. -/
def RecAt (w : World) (D : Nat → Prop) (vs : List Value) (i : Nat) (r : RecP) : Prop :=
  ∃ A c, vs[i]? = some (.int .i64 r.kind) ∧ vs[i + 1]? = some (.int .u64 r.seq) ∧ vs[i + 2]? = some (.slice A r.body.length c) ∧ r.body.length ≤ c ∧ Bs w D A r.body.length r.body ∧ 0 ≤ r.seq ∧ r.seq ≤ 18446744073709551615 ∧ r.body.length ≤ 9223372036854770000 ∧ c ≤ 9223372036854775807
theorem RecAt.keep {w w' : World} {D E : Nat → Prop} {vs : List Value} {i : Nat} {r : RecP} (h : RecAt w D vs i r) (hk : Keep E w w') (hE : ∀ b, b < w.heap.size → D b → E b) : RecAt w' D vs i r := by
  obtain ⟨A, c, h1, h2, h3, h4, h5, h6, h7, h8⟩ := h
  exact ⟨A, c, h1, h2, h3, h4, h5.keep hk hE, h6, h7, h8⟩
theorem RecAt.imp {w : World} {D E : Nat → Prop} {vs : List Value} {i : Nat} {r : RecP} (h : RecAt w D vs i r) (hE : ∀ b, b < w.heap.size → D b → E b) : RecAt w E vs i r := by
  obtain ⟨A, c, h1, h2, h3, h4, h5, h6, h7, h8⟩ := h
  exact ⟨A, c, h1, h2, h3, h4, h5.imp hE, h6, h7, h8⟩
/-- a slice of records. -/
def Recs (w : World) (D : Nat → Prop) (A : Option Addr) (n : Nat) (rs : List RecP) : Prop :=
  ∃ vs : List Value, Row w D A n 3 vs ∧ rs.length = n ∧ ∀ k (h : k < rs.length), RecAt w D vs (k * 3) rs[k]
section
variable {w w' : World} {D E : Nat → Prop} {A : Option Addr} {n : Nat} {rs : List RecP}
theorem Recs.len (h : Recs w D A n rs) : rs.length = n := by obtain ⟨_, _, h, _⟩ := h; exact h
theorem Recs.imp (h : Recs w D A n rs) (hE : ∀ b, b < w.heap.size → D b → E b) : Recs w E A n rs := by
  obtain ⟨vs, h1, h2, h3⟩ := h
  exact ⟨vs, h1.imp hE, h2, fun k hk => (h3 k hk).imp hE⟩
theorem Recs.keep (h : Recs w D A n rs) (hk : Keep E w w') (hE : ∀ b, b < w.heap.size → D b → E b) : Recs w' D A n rs := by
  obtain ⟨vs, h1, h2, h3⟩ := h
  exact ⟨vs, h1.keep hk hE, h2, fun k hk' => (h3 k hk').keep hk hE⟩
theorem Recs.new (h : Recs w D A n rs) (hk : New w w') : Recs w' D A n rs := h.keep hk fun _ _ _ => trivial
theorem Recs.nil (w : World) (D : Nat → Prop) (A : Option Addr) : Recs w D A 0 [] := ⟨[], Row.nil w D A 3, rfl, fun k hk => absurd hk (by simp)⟩
theorem Recs.at_ (h : Recs w D A n rs) {k : Nat} (hk : k < rs.length) :
    ∃ b off A' c', A = some ⟨b, off, none⟩ ∧ w.cell? ⟨b, off + k * 3, none⟩ = some (.int .i64 rs[k].kind) ∧ w.cell? ⟨b, off + k * 3 + 1, none⟩ = some (.int .u64 rs[k].seq) ∧
      w.cell? ⟨b, off + k * 3 + 2, none⟩ = some (.slice A' rs[k].body.length c') ∧ rs[k].body.length ≤ c' ∧ Bs w D A' rs[k].body.length rs[k].body ∧ 0 ≤ rs[k].seq ∧ rs[k].seq ≤ 18446744073709551615 ∧ rs[k].body.length ≤ 9223372036854770000 ∧ c' ≤ 9223372036854775807 := by
  obtain ⟨vs, h1, h2, h3⟩ := h
  obtain ⟨A', c', e1, e2, e3, hc, hb, h5, h6, h7⟩ := h3 k hk
  obtain ⟨b, off, hA, _, _, hcell⟩ := h1.2 (by omega)
  refine ⟨b, off, A', c', hA, hcell _ _ e1, ?_, ?_, hc, hb, h5, h6, h7⟩
  · rw [Nat.add_assoc]; exact hcell _ _ e2
  · rw [Nat.add_assoc]; exact hcell _ _ e3
end
/-- how many records have room. -/
def fitsIn : Nat → List RecP → Nat
  | _, [] => 0
  | left, r :: rs => if recRight r = true ∧ recSize r ≤ left then fitsIn (left - recSize r) rs + 1 else 0







theorem fits_step (left k : Nat) (rs : List RecP) (hk : k < rs.length) (hr : recRight rs[k] = true) (hs : recSize rs[k] ≤ left) : fitsIn left (rs.drop k) = fitsIn (left - recSize rs[k]) (rs.drop (k + 1)) + 1 := by
  rw [List.drop_eq_getElem_cons hk, fitsIn, if_pos ⟨hr, hs⟩]
theorem fits_stop (left k : Nat) (rs : List RecP) (hk : k < rs.length) (h : ¬ (recRight rs[k] = true ∧ recSize rs[k] ≤ left)) : fitsIn left (rs.drop k) = 0 := by
  rw [List.drop_eq_getElem_cons hk, fitsIn, if_neg h]


















































































end Go.Proofs.YtfegdgaanmcecaaGreatDoor
/-
  PROVED HERE: from a law's walk to its row: what was read reads as it did; a row of bytes that came in; no condition.
-/
namespace Go.Proofs.YtfegdgaanmcecaaGreatDoor
open Go.ChangeShapes Go.WideShapes Go.ChangeAt Go.RowKit Go.Joins Go.Deep

theorem laid_out : laidOutB Tryz.prog = true := by kernel_rfl
theorem own_knob : ownKnob Tryz.prog.godebug = none := by kernel_rfl
section
variable {H : Type} {enc : TypeId × Value → H} {P : Program} {W W' : World}
theorem trodAll_stays (hl : laidOutB P = true) {sp' : Nat → Bool} : ∀ {ts : List TypeId} {vs : List Value} {ds : List (DataW H)} {ps : List MemPlace}, (ts.all fun t => P.readableRec t && decide (t < P.types.size)) = true →
    DataW.TrodAll enc P W 0 (fun _ => true) true ts vs ds ps → (∀ p ∈ ps, W.sameAt W' p) → (∀ p ∈ ps, sp' p.block = true) → DataW.TrodAll enc P W' 0 sp' true ts vs ds ps
  | [], [], [], _, _, h, _, _ => h
  | t :: ts, v :: vs, d :: ds, ps, hr, h, hs, hp => by
    obtain ⟨p, q, h1, h2, rfl⟩ := h
    simp only [List.all_cons, Bool.and_eq_true, decide_eq_true_eq] at hr
    refine ⟨p, q, WideElems.Trod_stays hl hr.1.1 hr.1.2 h1 (fun x hx => hs x (by simp [hx])) (fun x hx => hp x (by simp [hx])), trodAll_stays hl (by simpa using hr.2) h2 (fun x hx => hs x (by simp [hx])) (fun x hx => hp x (by simp [hx])), rfl⟩
theorem post_of_below {f : Func} {s : ChangeSpec} {apart fresh handsOn again : Bool} {args : Array Value} {v : Value} {ds gs : List (DataW H)} {before pa pv : List MemPlace}
    (hW : DataW.Whole enc P f.params.toList s.vars apart W args.toList ds gs before)
    (hres : ∀ (b : Nat) (sp : Nat → Bool) (hd : Bool), DataW.TrodAll enc P W' b sp hd f.resultTypes.toList (v.resultList f.resultTypes.size) (s.fn H (ds ++ gs)).results [])
    (hargs : ∀ sp : Nat → Bool, (∀ p ∈ before, sp p.block = true) → DataW.TrodAll enc P W' 0 sp true f.params.toList args.toList (s.fn H (ds ++ gs)).args pa)
    (hvars : ∀ sp : Nat → Bool, (∀ p ∈ before, sp p.block = true) → DataW.TrodVars enc P W' sp s.vars (s.fn H (ds ++ gs)).vars pv)
    (hps : before = pa ++ pv) (hb : Below W.heap.size W W')
    (hok : ∀ (j : Nat) (t : TypeId) (r : Value), f.resultTypes[j]? = some t → (v.resultList f.resultTypes.size)[j]? = some r → Value.okWide P W' .any 0 t r) :
    s.post enc P f apart fresh handsOn again W args v W' := by
  have hlt : ∀ p ∈ before, p.block < W.heap.size := fun p hp => hW.lt p hp
  have hold : ∀ p ∈ before, (fun b => decide (b < W.heap.size)) p.block = true := fun p hp => by simpa using hlt p hp
  refine ⟨ds, gs, before, [], pa, pv, hW, hres _ _ _, hargs _ hold, hvars _ hold, World.keptBut_mono (fun p hp => ⟨hp, ?_⟩) (hb.frame (· ∈ before)), fun _ => ?_⟩
  · rw [hps, List.mem_append] at hp
    exact Or.inr hp
  · obtain ⟨_, _, _, _, _, hz, hn⟩ := hW
    refine ⟨hok, _, _, ([] ++ pa) ++ pv, ⟨[] ++ pa, pv, trodAll_append (hargs _ (fun _ _ => rfl)) (hres _ _ _), hvars _ (fun _ _ => rfl), rfl, ?_, ?_⟩, ?_⟩
    · intro b off hp
      have hin : MemPlace.cell b off ∈ before := by rw [hps]; simpa using hp
      rw [hb.frozen (hlt _ hin)]
      exact hz b off hin
    · intro ha
      have := hn ha
      rw [hps] at this
      simpa using this
    · intro p hp _
      rw [hps]
      simpa using hp
/-- A law that returned true, and left all that was as it was: its row's post. -/
theorem law_post {f : Func} {s : ChangeSpec} {apart fresh handsOn again : Bool} {args : Array Value} {tb : TypeId} {ds gs : List (DataW H)} {before : List MemPlace}
    (hl : laidOutB P = true) (hts : (f.params.toList.all fun t => P.readableRec t && decide (t < P.types.size)) = true) (hv : s.vars = []) (hrt : f.resultTypes = #[tb]) (htb : P.underlying tb = some .bool)
    (hW : DataW.Whole enc P f.params.toList s.vars apart W args.toList ds gs before)
    (hr : (s.fn H (ds ++ gs)).results = [.lit (.bool true)]) (ha : (s.fn H (ds ++ gs)).args = ds) (hva : (s.fn H (ds ++ gs)).vars = []) (hN : New W W') :
    s.post enc P f apart fresh handsOn again W args (.bool true) W' := by
  have hW' := hW
  obtain ⟨p, q, hA, hV, rfl, hfz, hnd⟩ := hW
  rw [hv] at hV
  have hq : gs = [] ∧ q = [] := by
    cases gs with
    | nil => exact ⟨rfl, hV⟩
    | cons _ _ => exact hV.elim
  obtain ⟨rfl, rfl⟩ := hq
  have hb : Below W.heap.size W W' := hN.below
  refine post_of_below (pa := p) (pv := []) hW' (fun _ _ _ => ?_) (fun sp hsp => ?_) (fun _ _ => ?_) rfl hb ?_
  · rw [hr, hrt]; exact trodAll_cons_mk (shut_bool htb _) trodAll_mk0
  · rw [ha]; exact trodAll_stays hl hts hA (fun x hx => hb.same (hW'.lt x (by simp [hx]))) (fun x hx => hsp x (by simp [hx]))
  · rw [hva, hv]; rfl
  · exact ok_one hrt rfl (okWide_bool_mk htb _)
end
theorem spot_none {W : World} {a : Addr} {u : Value} (h : W.cell? (a.add 0) = some u) : a.spot = none := by
  obtain ⟨b, o, s⟩ := a
  cases s with
  | none => rfl
  | some i =>
    exfalso
    have e : (Addr.mk b o (some i)).add 0 = ⟨b, o, some i⟩ := rfl
    rw [e] at h
    unfold World.cell? at h
    split at h
    · simp at h
    · cases h
/-- A row of bytes that came in. -/
theorem read_bytes {H : Type} {enc : TypeId × Value → H} {W : World} {base : Nat} {sp : Nat → Bool} {held : Bool} {fuel : Nat} {v : Value} {x : DataW H × List MemPlace} (h : DataW.trod enc Tryz.prog W base sp held fuel 31 [v] = some x) :
    ∃ (A : Option Addr) (n c : Nat) (bs : List UInt8), v = .slice A n c ∧ n ≤ c ∧ c ≤ maxLen ∧ Bs W (fun _ => True) A n bs := by
  rcases open_ints Tryz.underlying31 Tryz.underlying5 (by kernel_rfl) h with ⟨hc, _⟩ | ⟨a, len, cap, zs, hc, _, hl, hm, hz, _, hcell, hwf⟩
  · injection hc with hc
    exact ⟨none, 0, 0, [], hc, Nat.le_refl _, Nat.zero_le _, Row.nil _ _ _ _⟩
  · injection hc with hc
    have hzl : len ≤ zs.length := by rw [hz]; split <;> omega
    refine ⟨some a, len, cap, (zs.take len).map fun z => UInt8.ofNat z.toNat, hc, hl, hm, by rw [List.length_map, List.length_map, List.length_take]; omega, fun hn => ?_⟩
    have h0 := hcell 0 (by omega)
    have hsp : a.spot = none := spot_none h0
    obtain ⟨b, off, sp'⟩ := a
    simp only at hsp
    subst hsp
    have hlt := World.block_lt_of_cell? W _ h0
    refine ⟨b, off, rfl, trivial, hlt, fun k u hu => ?_⟩
    have hk : k < len := by
      have := (List.getElem?_eq_some_iff.1 hu).1
      rw [List.length_map, List.length_map, List.length_take] at this; omega
    have hck := hcell k (by omega)
    have hadd : (Addr.mk b off none).add k = ⟨b, off + k, none⟩ := by
      unfold Addr.add; split
      · rename_i e; subst e; rfl
      · rfl
    rw [hadd] at hck
    rw [hck, ← hu, List.getElem?_map, List.getElem?_map, List.getElem?_take, if_pos hk, List.getElem?_eq_getElem (by omega : k < zs.length)]
    have hw := hwf (zs[k]'(by omega)) (List.getElem_mem _)
    simp only [Lit.wf, IntKind.min, IntKind.max, IntKind.signed, IntKind.bits] at hw
    simp at hw
    simp only [Option.map_some, byteVal, bv, List.getD_eq_getElem?_getD, List.getElem?_eq_getElem (by omega : k < zs.length), Option.getD_some]
    rw [UInt8.toNat_ofNat_of_lt' (by show _ < 256; omega)]
    congr 2
    omega
end Go.Proofs.YtfegdgaanmcecaaGreatDoor
/-
  PROVED HERE: a slice of a law's raw records that came in: how it reads; no condition.
-/
namespace Go.Proofs.YtfegdgaanmcecaaGreatDoor
open Go.ChangeShapes Go.WideShapes Go.ChangeAt Go.RowKit Go.Joins Go.Deep

/-- a raw record, as data. -/
structure RawP where
  mark : Bool
  body : List UInt8
instance : Inhabited RawP := ⟨⟨false, []⟩⟩
/-- a slice of raw records. -/
def Raws (w : World) (D : Nat → Prop) (A : Option Addr) (n : Nat) (ls : List RawP) : Prop :=
  ∃ vs : List Value, Row w D A n 2 vs ∧ ls.length = n ∧ ∀ k (h : k < ls.length), ∃ A' c', vs[k * 2]? = some (.bool ls[k].mark) ∧ vs[k * 2 + 1]? = some (.slice A' ls[k].body.length c') ∧ ls[k].body.length ≤ c' ∧ c' ≤ 9223372036854775807 ∧ Bs w D A' ls[k].body.length ls[k].body
section
variable {w w' : World} {D E : Nat → Prop} {A : Option Addr} {n : Nat} {ls : List RawP}
theorem Raws.len (h : Raws w D A n ls) : ls.length = n := by obtain ⟨_, _, h, _⟩ := h; exact h
theorem Raws.keep (h : Raws w D A n ls) (hk : Keep E w w') (hE : ∀ b, b < w.heap.size → D b → E b) : Raws w' D A n ls := by
  obtain ⟨vs, h1, h2, h3⟩ := h
  refine ⟨vs, h1.keep hk hE, h2, fun k hk' => ?_⟩
  obtain ⟨A', c', e1, e2, e3, e4, hb⟩ := h3 k hk'
  exact ⟨A', c', e1, e2, e3, e4, hb.keep hk hE⟩
theorem Raws.new (h : Raws w D A n ls) (hk : New w w') : Raws w' D A n ls := h.keep hk fun _ _ _ => trivial
theorem Raws.imp (h : Raws w D A n ls) (hE : ∀ b, b < w.heap.size → D b → E b) : Raws w E A n ls := by
  obtain ⟨vs, h1, h2, h3⟩ := h
  refine ⟨vs, h1.imp hE, h2, fun k hk' => ?_⟩
  obtain ⟨A', c', e1, e2, e3, e4, hb⟩ := h3 k hk'
  exact ⟨A', c', e1, e2, e3, e4, hb.imp hE⟩
theorem Raws.at_ (h : Raws w D A n ls) {k : Nat} (hk : k < ls.length) :
    ∃ b off A' c', A = some ⟨b, off, none⟩ ∧ w.cell? ⟨b, off + k * 2, none⟩ = some (.bool ls[k].mark) ∧ w.cell? ⟨b, off + k * 2 + 1, none⟩ = some (.slice A' ls[k].body.length c') ∧ ls[k].body.length ≤ c' ∧ c' ≤ 9223372036854775807 ∧ Bs w D A' ls[k].body.length ls[k].body := by
  obtain ⟨vs, h1, h2, h3⟩ := h
  obtain ⟨A', c', e1, e2, hc, h4, hb⟩ := h3 k hk
  obtain ⟨b, off, hA, _, _, hcell⟩ := h1.2 (by omega)
  exact ⟨b, off, A', c', hA, hcell _ _ e1, by rw [Nat.add_assoc]; exact hcell _ _ e2, hc, h4, hb⟩
end























































/-- what a law makes of a raw record. -/
def rawRec (r : RawP) (seq : Int) (most : Nat) : RecP := if r.mark = true then ⟨2, seq, []⟩ else ⟨1, seq, r.body.take most⟩
def rawRecs (first : Int) (most : Nat) (l : List RawP) (k : Nat) : List RecP := (List.range k).map fun i => rawRec (l.getD i default) (IntKind.u64.wrap (first + i)) most





end Go.Proofs.YtfegdgaanmcecaaGreatDoor
/-
  PROVED HERE: what segment.Leaves and slices.Concat answer; conditions: lengths that a slice may have.
-/
namespace Go.Proofs.YtfegdgaanmcecaaGreatDoor
open Go.RowKit

/-! ### rows of rows of bytes that the call made -/
theorem info_bytes : (Tryz.prog.info? 31).map (fun i => (i.zero, i.size, i.bytes)) = some (some (.slice none 0 0), 1, 24) := by kernel_rfl
theorem app_rows {ops : Array Oper} {rest : List Oper} {o : Oper} {a : Act} {Q : Exit → Act → World → Prop} (w : World) (hgd : o.guard = none) (s x : Operand)
    (ho : o.op = .call { callee := .builtin .append, args := #[s, x], argTypes := #[23, 23] })
    (base : Nat) (A : Option Addr) (n c : Nat) (xs : List Value) (hs : a.eval s = .slice A n c) (hown : Own w base 31 1 A n c xs)
    (D : Nat → Prop) (A2 : Option Addr) (m c2 : Nat) (news : List Value) (hx : a.eval x = .slice A2 m c2) (hr : Row w D A2 m 1 news) (h1 : ∀ u ∈ news, u.oneCell' = true)
    (h63 : n + m ≤ 1099511627776) (hbase : base ≤ w.heap.size)
    (h : ∀ A' c' w', Own w' base 31 1 A' (n + m) c' (xs ++ news) → w.grownBy w' (blk A) → (blk A' = blk A ∨ blk A' = some w.heap.size) → wpList Tryz.prog ops Q rest (a.put o.dst (.slice A' (n + m) c')) w') : wpList Tryz.prog ops Q (o :: rest) a w := by
  obtain ⟨i, hi, hz0, hz1, hz2⟩ := info_parts info_bytes
  exact wpList_append_row w hgd s x 23 ho base 31 i (.slice none 0 0) 1 24 Tryz.underlying23 hi hz0 hz1 hz2 rfl (by decide) A n c xs hs hown D A2 m c2 news hx hr h1 (by unfold maxLen; omega) (by omega) hbase h
/-- rows of bytes, the outer row of the call's own; the rows within lie in blocks that meet D, none in the outer one's. -/
def OwnBss (w : World) (base : Nat) (D : Nat → Prop) (A : Option Addr) (n c : Nat) (ls : List (List UInt8)) : Prop :=
  ∃ vs : List Value, Own w base 31 1 A n c vs ∧ ls.length = n ∧ ∀ k (h : k < ls.length), ∃ A' c', vs[k]? = some (.slice A' ls[k].length c') ∧ ls[k].length ≤ c' ∧ Bs w (fun b => D b ∧ some b ≠ blk A) A' ls[k].length ls[k]
section
variable {w w' : World} {base base' : Nat} {D E : Nat → Prop} {A : Option Addr} {n c : Nat} {ls : List (List UInt8)}
theorem OwnBss.bss (h : OwnBss w base D A n c ls) : Bss w (fun b => base ≤ b ∨ D b) A n ls := by
  obtain ⟨vs, h1, h2, h3⟩ := h
  refine ⟨vs, (Row.of_own h1).imp (fun _ _ h => .inl h), h2, fun k hk => ?_⟩
  obtain ⟨A', c', e, hc, hb⟩ := h3 k hk
  exact ⟨A', c', e, hc, hb.imp fun _ _ h => .inr h.1⟩
theorem OwnBss.nil (w : World) (base : Nat) (D : Nat → Prop) : OwnBss w base D none 0 0 [] := ⟨[], Own.nil _ _ _ _, rfl, fun k hk => absurd hk (by simp)⟩
theorem OwnBss.new (h : OwnBss w base D A n c ls) (hk : New w w') : OwnBss w' base D A n c ls := by
  obtain ⟨vs, h1, h2, h3⟩ := h
  refine ⟨vs, own_keep h1 hk (fun _ _ => trivial), h2, fun k hk' => ?_⟩
  obtain ⟨A', c', e, hc, hb⟩ := h3 k hk'
  exact ⟨A', c', e, hc, hb.new hk⟩
theorem OwnBss.rebase (h : OwnBss w base' D A n c ls) (hb : base ≤ base') : OwnBss w base D A n c ls := by
  obtain ⟨vs, h1, h2, h3⟩ := h
  exact ⟨vs, own_base h1 hb, h2, h3⟩
theorem OwnBss.imp (h : OwnBss w base D A n c ls) (hE : ∀ b, b < w.heap.size → D b → E b) : OwnBss w base E A n c ls := by
  obtain ⟨vs, h1, h2, h3⟩ := h
  refine ⟨vs, h1, h2, fun k hk' => ?_⟩
  obtain ⟨A', c', e, hc, hb⟩ := h3 k hk'
  exact ⟨A', c', e, hc, hb.imp fun b hb h => ⟨hE b hb h.1, h.2⟩⟩
theorem OwnBss.len (h : OwnBss w base D A n c ls) : ls.length = n := by obtain ⟨_, _, h, _⟩ := h; exact h
theorem OwnBss.cap (h : OwnBss w base D A n c ls) : n ≤ c := by obtain ⟨_, h, _⟩ := h; exact own_cap h
theorem own_capMax {w : World} {base : Nat} {e : TypeId} {size n c : Nat} {A : Option Addr} {xs : List Value} (h : Own w base e size A n c xs) : c ≤ 9223372036854775807 := by
  rcases h.2 with ⟨hv, hn⟩ | ⟨g, cap, cur, hv, hb, hg, h1, h2, h3, h4⟩
  · injection hv with h5 h6 h7; omega
  · injection hv with h5 h6 h7; unfold maxLen at h2; omega
theorem OwnBss.capMax (h : OwnBss w base D A n c ls) : c ≤ 9223372036854775807 := by obtain ⟨_, h, _⟩ := h; exact own_capMax h
theorem OwnBss.lt (h : OwnBss w base D A n c ls) : ∀ k, blk A = some k → base ≤ k ∧ k < w.heap.size := by obtain ⟨_, h, _⟩ := h; exact own_lt h
end
/-- rows of different element types never share a block. -/
theorem own_u8_ne {w : World} {base base' : Nat} {A A' : Option Addr} {n c n' c' : Nat} {xs : List Value} {bs : List UInt8} (h : Own w base 31 1 A n c xs) (hb : OwnB w base' 5 A' n' c' bs) : Bs w (fun b => base' ≤ b ∧ some b ≠ blk A) A' n' bs := by
  have hr := Row.of_own hb
  refine ⟨hr.1, fun hn => ?_⟩
  obtain ⟨b, off, rfl, hd, hlt, hc⟩ := hr.2 hn
  refine ⟨b, off, rfl, ⟨hd, fun e => ?_⟩, hlt, hc⟩
  rcases hb.2 with ⟨hv, _⟩ | ⟨g, cap, cur, hv, _, hg, _⟩
  · cases hv
  · injection hv with hA; injection hA with hA; injection hA with hA; subst hA
    rcases h.2 with ⟨hv2, _⟩ | ⟨g2, cap2, cur2, hv2, _, hg2, _⟩
    · injection hv2 with hA; subst hA; cases e
    · injection hv2 with hA; subst hA
      have : b = g2 := by injection e
      subst this
      rw [hg] at hg2
      injection hg2 with hg2
      injection hg2 with _ ht
      exact absurd ht (by decide)
theorem OwnBss.apart {w : World} {base base' : Nat} {D : Nat → Prop} {A A' : Option Addr} {n c n' c' : Nat} {ls : List (List UInt8)} {bs : List UInt8} (h : OwnBss w base D A n c ls) (hb : OwnB w base' 5 A' n' c' bs) : Bs w (fun b => base' ≤ b ∧ some b ≠ blk A) A' n' bs := by
  obtain ⟨_, h, _⟩ := h; exact own_u8_ne h hb
theorem row_one (w : World) (t : TypeId) (v : Value) : Row (w.alloc (.cells #[v] t)) (fun b => w.heap.size ≤ b) (some ⟨w.heap.size, 0, none⟩) 1 1 [v] := Row.made w t #[v] 1 1 rfl
/-- one row more. -/
theorem app_bss {ops : Array Oper} {rest : List Oper} {o : Oper} {a : Act} {Q : Exit → Act → World → Prop} (w : World) (hgd : o.guard = none) (s x : Operand)
    (ho : o.op = .call { callee := .builtin .append, args := #[s, x], argTypes := #[23, 23] })
    (base : Nat) (D : Nat → Prop) (A : Option Addr) (n c : Nat) (ls : List (List UInt8)) (hs : a.eval s = .slice A n c) (hown : OwnBss w base D A n c ls)
    (D2 : Nat → Prop) (A2 : Option Addr) (c2 : Nat) (A' : Option Addr) (m c' : Nat) (y : List UInt8) (hx : a.eval x = .slice A2 1 c2) (hr : Row w D2 A2 1 1 [.slice A' m c']) (hy : Bs w (fun b => D b ∧ some b ≠ blk A) A' m y) (hmc : m ≤ c')
    (h63 : n + 1 ≤ 1099511627776) (hbase : base ≤ w.heap.size)
    (h : ∀ A3 c3 w3, OwnBss w3 base D A3 (n + 1) c3 (ls ++ [y]) → w.grownBy w3 (blk A) → (blk A3 = blk A ∨ blk A3 = some w.heap.size) → wpList Tryz.prog ops Q rest (a.put o.dst (.slice A3 (n + 1) c3)) w3) : wpList Tryz.prog ops Q (o :: rest) a w := by
  obtain ⟨vs, h1, h2, h3⟩ := hown
  refine app_rows w hgd s x ho base A n c vs hs h1 D2 A2 1 c2 [.slice A' m c'] hx hr (by intro u hu; simp at hu; subst hu; rfl) h63 hbase ?_
  intro A3 c3 w3 hown3 hg3 hbk3
  refine h A3 c3 w3 ⟨vs ++ [.slice A' m c'], hown3, by simp [h2], fun k hk => ?_⟩ hg3 hbk3
  have hvl : vs.length = n := by have := h1.1; simpa using this
  have hyl := hy.len
  have move : ∀ {A0 : Option Addr} {m0 : Nat} {z : List UInt8}, Bs w (fun b => D b ∧ some b ≠ blk A) A0 m0 z → Bs w3 (fun b => D b ∧ some b ≠ blk A3) A0 m0 z := fun {A0 m0 z} hb => by
    have hk3 : Keep (fun b => some b ≠ blk A) w w3 := (Keep.refl _ w).grown hg3 (fun k hk hd => absurd hk.symm hd)
    have hb3 : Bs w (fun b => (D b ∧ some b ≠ blk A) ∧ some b ≠ blk A3) A0 m0 z := hb.imp fun b hlt hd => ⟨hd, by
      rcases hbk3 with e | e
      · rw [e]; exact hd.2
      · rw [e]; intro e'; injection e'; omega⟩
    exact (Row.keep hb3 hk3 (fun b _ hd => hd.1.2)).imp fun b _ hd => ⟨hd.1.1, hd.2⟩
  by_cases hkn : k < ls.length
  · rw [List.getElem_append_left hkn]
    obtain ⟨A0, c0, e, hc, hb⟩ := h3 k hkn
    exact ⟨A0, c0, by rw [List.getElem?_append_left (by omega)]; exact e, hc, move hb⟩
  · have hk' : k = ls.length := by simp at hk; omega
    subst hk'
    rw [List.getElem_append_right (Nat.le_refl _)]
    simp only [Nat.sub_self, List.getElem_singleton]
    refine ⟨A', c', by rw [List.getElem?_append_right (by omega), show ls.length - vs.length = 0 from by omega, hyl]; rfl, by omega, ?_⟩
    have := move hy
    rwa [← hyl] at this
/-- the leaves. -/
def leavesOf (rs : List RecP) : List (List UInt8) := rs.map fun r => if recRight r = true then recEnc r else []
theorem leaves_take (rs : List RecP) (k : Nat) (hk : k < rs.length) : leavesOf (rs.take (k + 1)) = leavesOf (rs.take k) ++ [if recRight rs[k] = true then recEnc rs[k] else []] := by
  unfold leavesOf; rw [List.take_succ_eq_append_getElem hk, List.map_append]; rfl


set_option maxRecDepth 100000 in
set_option maxHeartbeats 2000000 in
theorem leaves_any (D : Nat → Prop) (A : Option Addr) (n c : Nat) (rs : List RecP) (w : World) (hB : Recs w D A n rs) (hn : n ≤ 1099511620000) :
    Calls Tryz.prog 35 #[.slice A n c] w fun e w' => (∃ A' c', e = .returned (.slice A' n c') ∧ OwnBss w' w.heap.size (fun b => w.heap.size ≤ b) A' n c' (leavesOf rs)) ∧ New w w' := by
  have hl := hB.len
  have HB := Lib.hid hB
  clear hB
  go_enter Tryz.func35, Tryz.ntmps35
  go_wp2_with fail
  go_loopw [3, 10] (fun s3 i wx => ∃ (k : Nat) (A' : Option Addr) (c' : Nat), k ≤ n ∧ i = .int .i64 (k : Int) ∧ s3 = .slice A' k c' ∧ OwnBss wx w.heap.size (fun b => w.heap.size ≤ b) A' k c' (leavesOf (rs.take k)) ∧ New w wx) (fun _ i _ => n - (intOf i).toNat)
  case atStart => exact ⟨0, none, 0, Nat.zero_le _, rfl, rfl, OwnBss.nil _ _ _, New.refl _⟩
  case round =>
    obtain ⟨k, A1, c1, hk, rfl, rfl, hown, hK⟩ := hrel
    by_cases hlt : k < n
    · obtain ⟨b, off, A', c', rfl, h1, h2, h3, hc', hb, hs0, hs1, hc9⟩ := (HB.out.new hK).at_ (k := k) (by omega)
      have HLT := Lib.hid (leaves_take rs k (by omega))
      generalize rs[k]'_ = r at *
      have hK0 : New w (wr.alloc (.cells #[.int .i64 r.kind, .int .u64 r.seq, .slice A' r.body.length c'] 42)) := hK.alloc _
      have hN0 : New wr (wr.alloc (.cells #[.int .i64 r.kind, .int .u64 r.seq, .slice A' r.body.length c'] 42)) := (New.refl wr).alloc _
      by_cases hr : recRight r = true
      · have HE := Lib.hid (encode_yes D A' r.body.length c' r _ (hb.new hN0) hc' (by omega) hs0 hs1 hr)
        rw [if_pos hr] at HLT
        clear hb hc' hs0 hs1 hr
        go_wp2_with fail
        refine HE.out.mono ?_
        rintro e w1 ⟨⟨A2, c2, rfl, hown2⟩, hK1⟩
        have hN1 := hN0.new hK1
        have hown1 := hown.new hN1
        have hK01 := hK.new hN1
        have hge : w.heap.size ≤ (wr.alloc (.cells #[.int .i64 r.kind, .int .u64 r.seq, .slice A' r.body.length c'] 42)).heap.size := hK0.size
        have hy := (Row.imp (hown1.apart hown2) (E := fun b => w.heap.size ≤ b ∧ some b ≠ blk A1) (fun b _ h => ⟨Nat.le_trans hge h.1, h.2⟩)).alloc (.cells #[.slice A2 (recEnc r).length c2] 31)
        have hmc := own_cap hown2
        have hown1' := hown1.new ((New.refl w1).alloc (.cells #[.slice A2 (recEnc r).length c2] 31))
        have hrow := row_one w1 31 (.slice A2 (recEnc r).length c2)
        have hbd : k + 1 ≤ 1099511627776 := by omega
        have hsz : w.heap.size ≤ (w1.alloc (.cells #[.slice A2 (recEnc r).length c2] 31)).heap.size := (hK01.alloc _).size
        clear hown hK hN1 hN0 hK0 hK1 h1 h2 h3 HE hown2 hge
        go_wp2_with (at_builtin; refine app_bss _ rfl (.tmp 19) (.tmp 21) rfl w.heap.size (fun b => w.heap.size ≤ b) A1 k c1 _ rfl hown1' (fun g => w1.heap.size ≤ g) _ 1 A2 _ c2 _ rfl hrow hy hmc hbd hsz ?_; intro A3 c3 w3 hown3 hg3 hbk3)
        have hK3 := (hK01.alloc (.cells #[.slice A2 (recEnc r).length c2] 31)).grown hg3 (fun k hk _ => (hown1.lt k hk).1)
        clear hown1 hown1' hrow hy hmc hg3 hbk3 hK01 hsz
        go_roundw
        case rel => exact ⟨k + 1, _, _, by omega, by go_num, rfl, by rw [HLT.out]; exact hown3, hK3⟩
        case measure => simp [intOf]; omega
      · have hr' : recRight r = false := by simpa using hr
        have HE := Lib.hid (encode_no D A' r.body.length c' r _ (hb.new hN0) hc' (by omega) hs0 hs1 hr')
        rw [if_neg hr] at HLT
        clear hb hc' hs0 hs1 hr hr'
        go_wp2_with fail
        refine HE.out.mono ?_
        rintro e w1 ⟨rfl, hK1⟩
        have hN1 := hN0.new hK1
        have hown1 := hown.new hN1
        have hK01 := hK.new hN1
        have hy : Bs (w1.alloc (.cells #[.slice none 0 0] 31)) (fun b => w.heap.size ≤ b ∧ some b ≠ blk A1) none 0 [] := Row.nil _ _ _ _
        have hown1' := hown1.new ((New.refl w1).alloc (.cells #[.slice none 0 0] 31))
        have hrow := row_one w1 31 (.slice none 0 0)
        have hbd : k + 1 ≤ 1099511627776 := by omega
        have hsz : w.heap.size ≤ (w1.alloc (.cells #[.slice none 0 0] 31)).heap.size := (hK01.alloc _).size
        clear hown hK hN1 hN0 hK0 hK1 h1 h2 h3 HE
        go_wp2_with (at_builtin; refine app_bss _ rfl (.tmp 19) (.tmp 21) rfl w.heap.size (fun b => w.heap.size ≤ b) A1 k c1 _ rfl hown1' (fun g => w1.heap.size ≤ g) _ 1 none _ 0 _ rfl hrow hy (Nat.le_refl _) hbd hsz ?_; intro A3 c3 w3 hown3 hg3 hbk3)
        have hK3 := (hK01.alloc (.cells #[.slice none 0 0] 31)).grown hg3 (fun k hk _ => (hown1.lt k hk).1)
        clear hown1 hown1' hrow hy hg3 hbk3 hK01 hsz
        go_roundw
        case rel => exact ⟨k + 1, _, _, by omega, by go_num, rfl, by rw [HLT.out]; exact hown3, hK3⟩
        case measure => simp [intOf]; omega
    · obtain rfl : k = n := by omega
      rw [List.take_of_length_le (by omega)] at hown
      go_wp2_with fail
      go_ret
      exact ⟨⟨_, _, rfl, hown⟩, hK⟩
end Go.Proofs.YtfegdgaanmcecaaGreatDoor
/-
  PROVED HERE: what slices.Concat answers at rows of bytes; condition: fewer than 2^40 bytes in all.
-/
namespace Go.Proofs.YtfegdgaanmcecaaGreatDoor
open Go.RowKit








































































































end Go.Proofs.YtfegdgaanmcecaaGreatDoor
/-
  PROVED HERE: what merkle.part and merkle.Root answer; condition: fewer than 2^40 bytes in all.
-/
namespace Go.Proofs.YtfegdgaanmcecaaGreatDoor
open Go.RowKit

/-- the greatest power of two below n. -/
def partN (n : Nat) : Nat := 2 ^ (n - 1).log2
theorem partN_eq {n j : Nat} (h2 : 2 ≤ n) (h : 2 ^ j < n) (h' : n ≤ 2 ^ j + 2 ^ j) : 2 ^ j = partN n := by
  unfold partN
  rw [(Nat.log2_eq_iff (by omega)).2 ⟨(by omega : 2 ^ j ≤ n - 1), by rw [Nat.pow_succ]; omega⟩]
theorem partN_lt {n : Nat} (h : 2 ≤ n) : partN n < n := by
  have := Nat.log2_self_le (n := n - 1) (by omega); unfold partN; omega
theorem partN_pos (n : Nat) : 0 < partN n := Nat.pow_pos (by decide)
set_option maxRecDepth 100000 in
theorem part_any (n : Nat) (w : World) (h2 : 2 ≤ n) (hn : n ≤ 4611686018427387904) :
    Calls Tryz.prog 128 #[.int .i64 n] w fun e w' => e = .returned (.int .i64 (partN n)) ∧ w = w' := by
  go_enter Tryz.func128, Tryz.ntmps128
  go_wp2_with fail
  go_loop [3] (fun s3 => ∃ k : Nat, (∃ j, k = 2 ^ j) ∧ k < n ∧ s3 = .int .i64 (k : Int)) (fun s3 => n - (intOf s3).toNat)
  case atStart => exact ⟨1, ⟨0, rfl⟩, by omega, rfl⟩
  case round =>
    obtain ⟨k, hj, hk, rfl⟩ := hrel
    have hpos : 0 < k := by obtain ⟨j, rfl⟩ := hj; exact Nat.pow_pos (by decide)
    have HJ := Lib.hid hj
    clear hj
    by_cases hlt : k < n - k
    · have hlt' : (k : Int) < (n : Int) - k := by omega
      go_wp2_with fail
      go_round
      case rel => exact ⟨k + k, by obtain ⟨j, h⟩ := HJ.out; exact ⟨j + 1, by rw [Nat.pow_succ, ← h]; omega⟩, by omega, by go_num⟩
      case measure => simp [intOf]; omega
    · have hlt' : ¬ (k : Int) < (n : Int) - k := by omega
      go_wp2_with fail
      go_ret
      exact ⟨by obtain ⟨j, h⟩ := HJ.out; rw [h, ← partN_eq h2 (j := j) (by omega) (by omega)]; rfl, rfl⟩
/-- a tree's hash. -/
def rootIn : Nat → List (List UInt8) → List UInt8
  | 0, _ => []
  | f + 1, ls => if ls.length = 0 then shaSum [] else if ls.length = 1 then shaSum (0 :: ls.getD 0 []) else shaSum (1 :: (rootIn f (ls.take (partN ls.length)) ++ rootIn f (ls.drop (partN ls.length))))
def rootOf (ls : List (List UInt8)) : List UInt8 := rootIn (ls.length + 1) ls
theorem rootIn_fuel : ∀ (f g : Nat) (ls : List (List UInt8)), ls.length < f → ls.length < g → rootIn f ls = rootIn g ls
  | 0, _, _, h, _ => absurd h (by omega)
  | _ + 1, 0, _, _, h => absurd h (by omega)
  | f + 1, g + 1, ls, hf, hg => by
    unfold rootIn
    by_cases h0 : ls.length = 0
    · rw [if_pos h0, if_pos h0]
    · by_cases h1 : ls.length = 1
      · rw [if_neg h0, if_neg h0, if_pos h1, if_pos h1]
      · rw [if_neg h0, if_neg h0, if_neg h1, if_neg h1]
        have hp := partN_lt (n := ls.length) (by omega)
        have hq := partN_pos ls.length
        rw [rootIn_fuel f g (ls.take (partN ls.length)) (by rw [List.length_take]; omega) (by rw [List.length_take]; omega),
          rootIn_fuel f g (ls.drop (partN ls.length)) (by rw [List.length_drop]; omega) (by rw [List.length_drop]; omega)]
theorem rootOf_nil : rootOf [] = shaSum [] := rfl
theorem rootOf_one (l : List UInt8) : rootOf [l] = shaSum (0 :: l) := rfl
theorem rootOf_more (ls : List (List UInt8)) (h : 2 ≤ ls.length) : rootOf ls = shaSum (1 :: (rootOf (ls.take (partN ls.length)) ++ rootOf (ls.drop (partN ls.length)))) := by
  have hp := partN_lt h
  have hq := partN_pos ls.length
  unfold rootOf
  rw [rootIn, if_neg (by omega), if_neg (by omega),
    rootIn_fuel ls.length ((ls.take (partN ls.length)).length + 1) (ls.take (partN ls.length)) (by rw [List.length_take]; omega) (by omega),
    rootIn_fuel ls.length ((ls.drop (partN ls.length)).length + 1) (ls.drop (partN ls.length)) (by rw [List.length_drop]; omega) (by omega)]
theorem rootOf_length (ls : List (List UInt8)) : (rootOf ls).length = 32 := by
  rcases Nat.lt_or_ge ls.length 2 with h | h
  · match ls, h with
    | [], _ => rfl
    | [l], _ => rfl
  · rw [rootOf_more ls h]; rfl
theorem Bss.cutTo {w : World} {D : Nat → Prop} {A : Option Addr} {n : Nat} {ls : List (List UInt8)} (h : Bss w D A n ls) {k : Nat} (hk : k ≤ n) : Bss w D A k (ls.take k) := by
  obtain ⟨vs, h1, h2, h3⟩ := h
  have := h1.cutTo (hi := k) hk
  rw [Nat.mul_one] at this
  refine ⟨vs.take k, this, by rw [List.length_take]; omega, fun i hi => ?_⟩
  have hi' : i < k := by rw [List.length_take] at hi; omega
  obtain ⟨A', c', e, hc, hb⟩ := h3 i (by omega)
  rw [List.getElem_take]
  exact ⟨A', c', by rw [List.getElem?_take, if_pos hi']; exact e, hc, hb⟩
theorem Bss.from_ {w : World} {D : Nat → Prop} {A : Option Addr} {n : Nat} {ls : List (List UInt8)} (h : Bss w D A n ls) {k : Nat} (hk : k ≤ n) : Bss w D (Option.map (fun x => x.add k) A) (n - k) (ls.drop k) := by
  obtain ⟨vs, h1, h2, h3⟩ := h
  have := h1.from_ (l := k) hk
  rw [Nat.mul_one] at this
  refine ⟨vs.drop k, this, by rw [List.length_drop]; omega, fun i hi => ?_⟩
  rw [List.length_drop] at hi
  obtain ⟨A', c', e, hc, hb⟩ := h3 (k + i) (by omega)
  rw [List.getElem_drop]
  exact ⟨A', c', by rw [List.getElem?_drop]; exact e, hc, hb⟩
set_option maxRecDepth 100000 in
set_option maxHeartbeats 2000000 in
theorem root_any (n : Nat) : ∀ (D : Nat → Prop) (A : Option Addr) (c : Nat) (ls : List (List UInt8)) (w : World) (_hB : Bss w D A n ls) (_hc : n ≤ c) (_hb : ls.flatten.length ≤ 1099511620000) (_hn : n ≤ 1099511627776) (_hc9 : c ≤ 9223372036854775807),
    Calls Tryz.prog 92 #[.slice A n c] w fun e w' => (∃ A' c', e = .returned (.slice A' 32 c') ∧ OwnB w' w.heap.size 5 A' 32 c' (rootOf ls)) ∧ New w w' := by
  induction n using Nat.strongRecOn with
  | _ n ih =>
    intro D A c ls w hB hc hb hn hc9
    have hl := hB.len
    have IH := Lib.hid ih
    clear ih
    by_cases h0 : n = 0
    · subst h0
      obtain rfl : ls = [] := List.eq_nil_of_length_eq_zero hl
      rw [rootOf_nil]
      have hnil : Bs w (fun _ => True) none 0 [] := Row.nil _ _ _ _
      go_enter Tryz.func92, Tryz.ntmps92
      go_wp2_with fail
      refine (shaSum_any _ none 0 0 [] w hnil (Nat.le_refl _) (by omega)).mono ?_
      rintro e w1 ⟨⟨A1, c1, rfl, hown⟩, hK⟩
      go_wp2_with fail
      go_ret
      exact ⟨⟨_, _, rfl, hown⟩, hK⟩
    · by_cases h1 : n = 1
      · subst h1
        obtain ⟨b, off, A', c', rfl, hcell, hcap, hbs⟩ := hB.at_ (k := 0) (by omega)
        rw [Nat.add_zero] at hcell
        have hx : ls = [ls[0]'(by omega)] := by
          match ls, hl with
          | [x], _ => rfl
        have hlen : (ls[0]'(by omega)).length ≤ 1099511620000 := by
          have := flatten_take_le ls 0 (by omega); omega
        generalize ls[0]'_ = x at *
        subst hx
        rw [rootOf_one]
        clear hB
        go_enter Tryz.func92, Tryz.ntmps92
        go_wp2_with fail
        refine (leaf_any _ A' _ c' x w hbs hcap hlen).mono ?_
        rintro e w1 ⟨⟨A1, c1, rfl, hown⟩, hK⟩
        go_wp2_with fail
        go_ret
        exact ⟨⟨_, _, rfl, hown⟩, hK⟩
      · have h2 : 2 ≤ n := by omega
        have hp := partN_lt h2
        have hq := partN_pos n
        have e0 : ((n : Int) == 0) = false := by simp; omega
        have e1 : ((n : Int) == 1) = false := by simp; omega
        have HR := Lib.hid (rootOf_more ls (by omega))
        rw [hl] at HR
        have HPA := Lib.hid (fun w' => part_any n w' h2 (by omega))
        have hB1 := hB.cutTo (k := partN n) (by omega)
        have hB2 := hB.from_ (k := partN n) (by omega)
        have hf1 : (ls.take (partN n)).flatten.length ≤ 1099511620000 := by
          have h := congrArg (fun l : List (List UInt8) => l.flatten.length) (List.take_append_drop (partN n) ls)
          simp only [List.flatten_append, List.length_append] at h; omega
        have hf2 : (ls.drop (partN n)).flatten.length ≤ 1099511620000 := by
          have h := congrArg (fun l : List (List UInt8) => l.flatten.length) (List.take_append_drop (partN n) ls)
          simp only [List.flatten_append, List.length_append] at h; omega
        generalize partN n = k at *
        have HC1 : Hid (∀ w', New w w' → Calls Tryz.prog 92 #[.slice A k c] w' fun e w'' => (∃ A' c', e = .returned (.slice A' 32 c') ∧ OwnB w'' w'.heap.size 5 A' 32 c' (rootOf (ls.take k))) ∧ New w' w'') :=
          Lib.hid fun w' hN => IH.out k hp D A c _ w' (hB1.keep hN (fun _ _ _ => trivial)) (by omega) hf1 (by omega) hc9
        have HC2 : Hid (∀ w', New w w' → Calls Tryz.prog 92 #[.slice (Option.map (fun x => x.add k) A) (n - k) (c - k)] w' fun e w'' => (∃ A' c', e = .returned (.slice A' 32 c') ∧ OwnB w'' w'.heap.size 5 A' 32 c' (rootOf (ls.drop k))) ∧ New w' w'') :=
          Lib.hid fun w' hN => IH.out (n - k) (by omega) D _ (c - k) _ w' (hB2.keep hN (fun _ _ _ => trivial)) (by omega) hf2 (by omega) (by omega)
        have b1 : (0 : Int) ≤ (k : Int) := by omega
        have b2 : (k : Int) ≤ n := by omega
        have b3 : (k : Int) ≤ c := by omega
        have b4 : (n : Int) ≤ c := by omega
        have b5 : ¬ c = k := by omega
        clear hB hB1 hB2 IH hl hf1 hf2 hb
        go_enter Tryz.func92, Tryz.ntmps92
        go_wp2_with fail
        refine (HPA.out _).mono ?_
        rintro e w1 ⟨rfl, rfl⟩
        go_wp2_with fail
        go_region_held3 (fun w' => New w w') (first | exact New.refl w | exact (New.refl w).drew | exact Keep.new (by assumption) hK3 | exact Keep.new (by assumption) hK4 | exact Keep.new (by assumption) hK5)
          ((first
            | (go_at_call 92; (with_reducible refine (HC1.out _ (by assumption)).mono ?_); rintro e w3 ⟨⟨A3, c3, rfl, hown3⟩, hK3⟩)
            | (go_at_call 92; (with_reducible refine (HC2.out _ (by assumption)).mono ?_); rintro e w4 ⟨⟨A4, c4, rfl, hown4⟩, hK4⟩)
            | (go_at_call 129; refine (pair_any _ _ A3 A4 32 c3 32 c4 _ _ _ ((Row.of_own hown3).new hK4) (own_cap hown3) (Row.of_own hown4) (own_cap hown4) (by omega)).mono ?_; rintro e w5 ⟨⟨A5, c5, rfl, hown5⟩, hK5⟩)))
        have hN5 : New w w5 := by assumption
        have hsz : w.heap.size ≤ w4.heap.size := Nat.le_trans hK3.size hK4.size
        clear hK3 hK4 hown3 hown4 hK5
        go_wp2_with fail
        go_ret
        exact ⟨⟨_, _, rfl, by rw [HR.out]; exact own_base hown5 hsz⟩, hN5⟩
end Go.Proofs.YtfegdgaanmcecaaGreatDoor
