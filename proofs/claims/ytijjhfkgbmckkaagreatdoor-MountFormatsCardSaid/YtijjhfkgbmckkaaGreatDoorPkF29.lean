/-
  PROVED HERE: texts that belong together, one behind the other; what each proves, and under which conditions, its own opening remark says: Pair, ChainMem, Hold4, Hold5, Elt, Float, Elt2.
-/
import Derived.Test.YtijjhfkgbmckkaaGreatDoorPkF17
import Derived.Test.YtijjhfkgbmckkaaGreatDoorPkF28
/-
  PROVED HERE: slices of images; heads and records that a call makes lie beside each other; what walks answer; no program is in sight.
-/
namespace Go.Proofs.YtijjhfkgbmckkaaGreatDoor
open Go.RowKit
theorem own_apart6 {w : World} {b1 b2 : Nat} {t1 t2 : TypeId} {s1 s2 : Nat} {A A' : Option Addr} {n c n' c' : Nat} {xs ys : List Value} (h : Own w b1 t1 s1 A n c xs) (h' : Own w b2 t2 s2 A' n' c' ys) (ht : t1 ≠ t2) : ∀ k, blk A' = some k → some k ≠ blk A := by
 intro k hk e
 rcases h.2 with ⟨hv, _⟩ | ⟨g, cap, cur, hv, _, hg, _⟩
 ·injection hv with hA; subst hA; cases e
 ·rcases h'.2 with ⟨hv2, _⟩ | ⟨g2, cap2, cur2, hv2, _, hg2, _⟩
  ·injection hv2 with hA; subst hA; cases hk
  ·injection hv with hA
   injection hv2 with hA2
   subst hA
   subst hA2
   have e1 : k = g := by injection e
   have e2 : g2 = k := by injection hk
   subst e1
   subst e2
   rw [hg] at hg2
   injection hg2 with hg2
   injection hg2 with _ ht'
   exact ht ht'
theorem OwnHeads.imp {w : World} {base : Nat} {D E : Nat → Prop} {A : Option Addr} {n c : Nat} {hs : List HeadP} (h : OwnHeads w base D A n c hs) (hE : ∀ b, b < w.heap.size → D b → E b) : OwnHeads w base E A n c hs := by
 obtain ⟨vs, h1, h2, h3⟩ := h
 exact ⟨vs, h1, h2, fun k hk => (h3 k hk).imp fun b hb hd => ⟨hE b hb hd.1, hd.2⟩⟩
theorem keep_blk {w w' : World} {A : Option Addr} (hg : w.grownBy w' (blk A)) : Keep (fun b => some b ≠ blk A) w w' := (Keep.refl _ w).grown hg (fun _ hj hd => absurd hj.symm hd)
theorem ne_blk {w : World} {A A3 : Option Addr} (hbk : blk A3 = blk A ∨ blk A3 = some w.heap.size) {b : Nat} (hb : b < w.heap.size) (hne : some b ≠ blk A) : some b ≠ blk A3 := by
 rcases hbk with e | e
 ·rw [e]; exact hne
 ·rw [e]; intro q; injection q; omega
theorem recs_beside {w w' : World} {b1 b2 : Nat} {t : TypeId} {s : Nat} {D : Nat → Prop} {A A' A3 : Option Addr} {n c n' c' : Nat} {xs : List Value} {rs : List RecP} (h : Own w b1 t s A n c xs) (ht : t ≠ 66) (h' : OwnRecs w b2 (fun b => D b ∧ some b ≠ blk A) A' n' c' rs) (hg : w.grownBy w' (blk A))
  (hbk : blk A3 = blk A ∨ blk A3 = some w.heap.size) : OwnRecs w' b2 (fun b => D b ∧ some b ≠ blk A3) A' n' c' rs := by
 obtain ⟨vs, h1, h2, h3⟩ := h'
 exact ⟨vs, own_keep h1 (keep_blk hg) (own_apart6 h h1 ht), h2, fun k hk' => ((((h3 k hk').imp (E := fun b => ((D b ∧ some b ≠ blk A3) ∧ some b ≠ blk A') ∧ some b ≠ blk A) fun b hb hd => ⟨⟨⟨hd.1.1, ne_blk hbk hb hd.1.2⟩, hd.2⟩, hd.1.2⟩).keep (keep_blk hg) fun b _ hd => hd.2)).imp fun b _ hd => hd.1⟩
theorem heads_beside {w w' : World} {b1 b2 : Nat} {t : TypeId} {s : Nat} {D : Nat → Prop} {A A' A3 : Option Addr} {n c n' c' : Nat} {xs : List Value} {hs : List HeadP} (h : Own w b1 t s A n c xs) (ht : t ≠ 139) (h' : OwnHeads w b2 (fun b => D b ∧ some b ≠ blk A) A' n' c' hs) (hg : w.grownBy w' (blk A))
  (hbk : blk A3 = blk A ∨ blk A3 = some w.heap.size) : OwnHeads w' b2 (fun b => D b ∧ some b ≠ blk A3) A' n' c' hs := by
 obtain ⟨vs, h1, h2, h3⟩ := h'
 exact ⟨vs, own_keep h1 (keep_blk hg) (own_apart6 h h1 ht), h2, fun k hk' => ((((h3 k hk').imp (E := fun b => ((D b ∧ some b ≠ blk A3) ∧ some b ≠ blk A') ∧ some b ≠ blk A) fun b hb hd => ⟨⟨⟨hd.1.1, ne_blk hbk hb hd.1.2⟩, hd.2⟩, hd.1.2⟩).keep (keep_blk hg) fun b _ hd => hd.2)).imp fun b _ hd => hd.1⟩
structure Pair (w : World) (base : Nat) (A : Option Addr) (n c : Nat) (hs : List HeadP) (A' : Option Addr) (n' c' : Nat) (rs : List RecP) : Prop where
 heads : OwnHeads w base (fun b => base ≤ b ∧ some b ≠ blk A') A n c hs
 recs : OwnRecs w base (fun b => base ≤ b ∧ some b ≠ blk A) A' n' c' rs
section
variable {w w' w2 : World} {base : Nat} {A A' : Option Addr} {n c n' c' : Nat} {hs : List HeadP} {rs : List RecP}
theorem Pair.nil (w : World) (base : Nat) : Pair w base none 0 0 [] none 0 0 [] := ⟨OwnHeads.nil _ _ _, OwnRecs.nil _ _ _⟩
theorem Pair.new (h : Pair w base A n c hs A' n' c' rs) (hk : New w w') : Pair w' base A n c hs A' n' c' rs := ⟨h.heads.new hk, h.recs.new hk⟩
theorem Pair.head (h : Pair w base A n c hs A' n' c' rs) {A3 : Option Addr} {n3 c3 : Nat} {hs3 : List HeadP} (h3 : OwnHeads w' base (fun b => base ≤ b ∧ some b ≠ blk A') A3 n3 c3 hs3) (hg : w.grownBy w' (blk A)) (hbk : blk A3 = blk A ∨ blk A3 = some w.heap.size) : Pair w' base A3 n3 c3 hs3 A' n' c' rs := by
 refine ⟨h3, ?_⟩
 obtain ⟨_, h1, _⟩ := h.heads
 exact recs_beside h1 (by decide) h.recs hg hbk
theorem Pair.more (h : Pair w base A n c hs A' n' c' rs) {A3 : Option Addr} {n3 c3 : Nat} {rs3 : List RecP} (h3 : OwnRecs w' base (fun b => base ≤ b ∧ some b ≠ blk A) A3 n3 c3 rs3) (hg : w.grownBy w' (blk A')) (hbk : blk A3 = blk A' ∨ blk A3 = some w.heap.size) : Pair w' base A n c hs A3 n3 c3 rs3 := by
 refine ⟨?_, h3⟩
 obtain ⟨_, h1, _⟩ := h.recs
 exact heads_beside h1 (by decide) h.heads hg hbk
theorem Pair.read (h : Pair w base A n c hs A' n' c' rs) {w0 : World} (hlt : ∀ k, blk A = some k → k < w0.heap.size) {A2 : Option Addr} {n2 c2 : Nat} {ls : List RecP} (h2 : OwnRecs w w0.heap.size (fun b => w0.heap.size ≤ b) A2 n2 c2 ls) {A3 : Option Addr} (hg : w.grownBy w' (blk A)) (hbk : blk A3 = blk A ∨ blk A3 = some w.heap.size) :
  OwnRecs w' w0.heap.size (fun b => w0.heap.size ≤ b ∧ some b ≠ blk A3) A2 n2 c2 ls := by
 obtain ⟨_, h1, _⟩ := h.heads
 exact recs_beside h1 (by decide) (h2.imp fun b hd => ⟨hd, fun e => by have := hlt b e.symm; omega⟩) hg hbk
end
theorem read_first (bs : List UInt8) : 0 ≤ (segRead bs).1.first ∧ (segRead bs).1.first ≤ 18446744073709551615 := by
 have hf : 0 ≤ (headOf bs).first ∧ (headOf bs).first ≤ 18446744073709551615 := by
  have h := num_lt ((RdS.mk bs 0).num 2).2 8
  refine ⟨Int.natCast_nonneg _, ?_⟩
  show ((((RdS.mk bs 0).num 2).2.num 8).1 : Int) ≤ _
  omega
 have nil : 0 ≤ noHead.first ∧ noHead.first ≤ 18446744073709551615 := by simp [noHead]
 unfold segRead
 split
 ·exact nil
 split
 ·exact nil
 split
 ·exact nil
 split
 ·exact nil
 ·split
  ·exact nil
  split
  ·exact nil
  ·exact hf
/-
  PROVED HERE: images and the document's records that a call makes lie beside each other; no condition.
-/
structure Chn (w : World) (base : Nat) (A : Option Addr) (n c : Nat) (ls : List (List UInt8)) (A' : Option Addr) (n' c' : Nat) (rs : List RecP) : Prop where
 imgs : OwnImgs w base (fun b => base ≤ b ∧ some b ≠ blk A') A n c ls
 refs : OwnRefs w base (fun b => b < base) A' n' c' rs
section
variable {w w' : World} {base : Nat} {A A' : Option Addr} {n c n' c' : Nat} {ls : List (List UInt8)} {rs : List RecP}
theorem Chn.nil (w : World) (base : Nat) : Chn w base none 0 0 [] none 0 0 [] := ⟨OwnImgs.nil _ _ _, OwnRefs.nil _ _ _⟩
theorem Chn.new (h : Chn w base A n c ls A' n' c' rs) (hk : New w w') : Chn w' base A n c ls A' n' c' rs := ⟨h.imgs.new hk, h.refs.new hk⟩
theorem Chn.ne (h : Chn w base A n c ls A' n' c' rs) : (∀ k, blk A' = some k → some k ≠ blk A) ∧ (∀ k, blk A = some k → some k ≠ blk A') := by
 obtain ⟨_, h1, _⟩ := h.imgs
 obtain ⟨_, h2, _⟩ := h.refs
 exact ⟨own_apart6 h1 h2 (by decide), own_apart6 h2 h1 (by decide)⟩
theorem Chn.image (h : Chn w base A n c ls A' n' c' rs) {A3 : Option Addr} {n3 c3 : Nat} {ls3 : List (List UInt8)} (h3 : OwnImgs w' base (fun b => base ≤ b ∧ some b ≠ blk A') A3 n3 c3 ls3) (hg : w.grownBy w' (blk A)) : Chn w' base A3 n3 c3 ls3 A' n' c' rs :=
 ⟨h3, h.refs.keepE (keep_blk hg) h.ne.1 (fun b hb e => by have := (h.imgs.lt b e.symm).1; omega)⟩
theorem Chn.more (h : Chn w base A n c ls A' n' c' rs) {A3 : Option Addr} {n3 c3 : Nat} {rs3 : List RecP} (h3 : OwnRefs w' base (fun b => b < base) A3 n3 c3 rs3) (hg : w.grownBy w' (blk A')) (hbk : blk A3 = blk A' ∨ blk A3 = some w.heap.size) : Chn w' base A n c ls A3 n3 c3 rs3 :=
 ⟨((h.imgs.imp (E := fun b => (base ≤ b ∧ some b ≠ blk A3) ∧ some b ≠ blk A') fun _ hb hd => ⟨⟨hd.1, ne_blk hbk hb hd.2⟩, hd.2⟩).keepE (keep_blk hg) h.ne.2 (fun _ hd => hd.2)).imp fun _ _ hd => hd.1, h3⟩
end
theorem fits_right : ∀ {left : Nat} {rs : List RecP}, (∀ r ∈ rs, recRight r = true) → (leavesOf rs).flatten.length ≤ left → rs.length ≤ fitsIn left rs
 | left, [], _, _ => Nat.zero_le _
 | left, r :: rs, h, hl => by
  have h1 := h r (by simp)
  rw [leavesOf_cons h1, List.flatten_cons, List.length_append, recEnc_size r h1] at hl
  have := fits_right (left := left - recSize r) (rs := rs) (fun x hx => h x (by simp [hx])) (by omega)
  unfold fitsIn
  rw [if_pos ⟨h1, by omega⟩, List.length_cons]
  omega
/-
  PROVED HERE: laws for a region that draws its order where what was made is marked: conditions of one's own on the worlds; what is common to all orders is proved once; a row of bytes that is marked reads as before; no condition.
-/
section
variable {P : Program} {ops : Array Oper} {Q : Exit → Act → World → Prop} {md : Region.Mode}
end
structure Like (w w' : World) : Prop where
 size : w.heap.size = w'.heap.size
 cell : ∀ p, w'.cell? p = w.cell? p
theorem Row.like {w w' : World} {D : Nat → Prop} {A : Option Addr} {n s : Nat} {vs : List Value} (h : Row w D A n s vs) (hl : Like w w') : Row w' D A n s vs :=
 ⟨h.1, fun hn => let ⟨b, off, e, hd, hlt, hc⟩ := h.2 hn; ⟨b, off, e, hd, hl.size ▸ hlt, fun k u hu => (hl.cell _).trans (hc k u hu)⟩⟩
theorem conv_mark {w : World} {g : Nat} {C : Array Value} {e : TypeId} (n c : Nat) (h : w.heap[g]? = some (.cells C e (0, 0))) :
  ∃ w', (convert 22 22 (.slice (some ⟨g, 0, none⟩) n c)).run Tryz.prog w = .ok (.slice (some ⟨g, 0, none⟩) n c) w' ∧ Keep (fun b => b ≠ g) w w' ∧ Like w w' := by
 have hsh : w.shape? g = some (e, C.size) := by
  unfold World.shape?
  rw [h]
 refine ⟨w.freeze ⟨g, C.size, none⟩ 1, ?_, ?_, ?_⟩
 ·simp [convert, run_underlying Tryz.underlying22, run_underlying Tryz.underlying5, markStringish, hsh]
 ·unfold World.freeze
  rw [if_neg (by decide)]
  refine ⟨rfl, rfl, rfl, by simp, fun k hk hne => ?_⟩
  show (w.heap.modify g _)[k]? = w.heap[k]?
  rw [Array.getElem?_modify]
  rw [if_neg (fun e => hne e.symm)]
 ·unfold World.freeze
  rw [if_neg (by decide)]
  refine ⟨by simp, fun p => ?_⟩
  by_cases hp : p.block = g
  ·simp [World.cell?, Array.getElem?_modify, hp, h]
  ·have hp' : ¬ g = p.block := fun e => hp e.symm
   simp [World.cell?, Array.getElem?_modify, hp']
/-
  PROVED HERE: a law for a region in which several operations may come up in any order: an induction over the sets of those that have; no condition; no program is named.
-/
section
variable {P : Program} {ops : Array Oper} {Q : Exit → Act → World → Prop} {md : Region.Mode} {S : World → Prop} {σ : Type}
theorem held_masks {F : Nat} (lst : σ → Array Bool) (G : σ → Nat → Prop) (nx : σ → Nat → σ) (left : σ → Nat) (ok : σ → Prop) (I : σ → Act → World → Prop)
  (h0 : ∀ m a w, ok m → left m = 0 → I m a w → wpAnyH P md ops Q S F (lst m) a w)
  (h1 : ∀ m, ok m → 0 < left m → Region.ready md ops (lst m) ≠ [] ∧ ∀ i ∈ Region.ready md ops (lst m), G m i ∧ ok (nx m i) ∧ left (nx m i) + 1 = left m ∧ (lst m).setIfInBounds i true = lst (nx m i))
  (h2 : ∀ m i a w, G m i → I m a w → ∀ K : Act → World → Prop, Hid (∀ a' w', S w' → I (nx m i) a' w' → K a' w') → wpOp P ops Q i K a w) :
  ∀ (k : Nat) (m : σ) (a : Act) (w : World), ok m → left m = k → I m a w → wpAnyH P md ops Q S (F + k) (lst m) a w
 | 0, m, a, w, hm, hl, hI => h0 m a w hm hl hI
 | k + 1, m, a, w, hm, hl, hI => by
  obtain ⟨hne, hall⟩ := h1 m hm (by omega)
  refine ⟨fun h => absurd h hne, fun i hi => ?_⟩
  obtain ⟨hg, hok, hll, hst⟩ := hall i hi
  refine h2 m i a w hg hI _ (Lib.hid fun a' w' hS hI' => ⟨hS, ?_⟩)
  rw [hst]
  exact held_masks lst G nx left ok I h0 h1 h2 k (nx m i) a' w' hok (by omega) hI'
theorem wpOp_wanted {i : Nat} {o : Oper} {a : Act} {w : World} {K : Act → World → Prop} (ho : ops[i]? = some o) (hw : Region.wanted o (yielded ops a.tmps) = true) (h : Oper.wp P o a w K Q) : wpOp P ops Q i K a w := by
 unfold wpOp
 simp only [ho, hw, if_true]
 exact .inl h
end
def waits (md : Region.Mode) (ops : Array Oper) (i j : Nat) : Bool := (ops[i]?).any fun o => o.after.any fun e => Region.binds md e && e.on == j
def only (md : Region.Mode) (ops : Array Oper) (i : Nat) (L : List Nat) : Bool := (ops[i]?).any fun o => o.after.all fun e => !Region.binds md e || L.contains e.on
/-
  PROVED HERE: slices of whatever lies in cells, and rows of such a call's own, with the law of append at them, once for all kinds of elements; no condition; no program is named.
-/
structure Elt (α : Type) where
 size : Nat
 At : World → (Nat → Prop) → List Value → Nat → α → Prop
 pos : 0 < size
 keep : ∀ {w w' : World} {D E : Nat → Prop} {vs : List Value} {i : Nat} {a : α}, At w D vs i a → Keep E w w' → (∀ b, b < w.heap.size → D b → E b) → At w' D vs i a
 imp : ∀ {w : World} {D E : Nat → Prop} {vs : List Value} {i : Nat} {a : α}, At w D vs i a → (∀ b, b < w.heap.size → D b → E b) → At w E vs i a
 shift : ∀ {w : World} {D : Nat → Prop} {vs us : List Value} {i j : Nat} {a : α}, At w D vs i a → (∀ k, k < size → ∀ u, vs[i + k]? = some u → us[j + k]? = some u) → At w D us j a
 one : ∀ {w : World} {D : Nat → Prop} {vs : List Value} {i : Nat} {a : α}, At w D vs i a → ∀ k, k < size → ∃ u, vs[i + k]? = some u ∧ u.oneCell' = true
section
variable {α : Type} {E : Elt α} {w w' : World} {base base' : Nat} {t : TypeId} {D F : Nat → Prop} {A : Option Addr} {n c : Nat} {ls : List α}
def Sl (E : Elt α) (w : World) (D : Nat → Prop) (A : Option Addr) (n : Nat) (ls : List α) : Prop :=
 ∃ vs : List Value, Row w D A n E.size vs ∧ ls.length = n ∧ ∀ k (h : k < ls.length), E.At w D vs (k * E.size) ls[k]
theorem Sl.len (h : Sl E w D A n ls) : ls.length = n := by obtain ⟨_, _, h, _⟩ := h; exact h
theorem Sl.keep (h : Sl E w D A n ls) (hk : Keep F w w') (hE : ∀ b, b < w.heap.size → D b → F b) : Sl E w' D A n ls := by
 obtain ⟨vs, h1, h2, h3⟩ := h
 exact ⟨vs, h1.keep hk hE, h2, fun k hk' => E.keep (h3 k hk') hk hE⟩
theorem Sl.new (h : Sl E w D A n ls) (hk : New w w') : Sl E w' D A n ls := h.keep hk fun _ _ _ => trivial
theorem Sl.imp (h : Sl E w D A n ls) (hE : ∀ b, b < w.heap.size → D b → F b) : Sl E w F A n ls := by
 obtain ⟨vs, h1, h2, h3⟩ := h
 exact ⟨vs, h1.imp hE, h2, fun k hk => E.imp (h3 k hk) hE⟩
theorem Sl.any (h : Sl E w D A n ls) : Sl E w (fun _ => True) A n ls := h.imp fun _ _ _ => trivial
theorem Sl.old (h : Sl E w D A n ls) : Sl E w (fun b => b < w.heap.size) A n ls := h.imp fun _ hb _ => hb
theorem Sl.nil (E : Elt α) (w : World) (D : Nat → Prop) (A : Option Addr) : Sl E w D A 0 [] := ⟨[], by have := Row.nil w D A E.size; exact this, rfl, fun k hk => absurd hk (by simp)⟩
theorem Sl.cutTo (h : Sl E w D A n ls) {m : Nat} (hm : m ≤ n) : Sl E w D A m (ls.take m) := by
 obtain ⟨vs, h1, h2, h3⟩ := h
 refine ⟨vs.take (m * E.size), h1.cutTo hm, by rw [List.length_take]; omega, fun k hk => ?_⟩
 have hk' : k < m ∧ k < ls.length := by rw [List.length_take] at hk; omega
 rw [List.getElem_take]
 refine E.shift (h3 k hk'.2) fun j hj u hu => ?_
 rw [List.getElem?_take, if_pos]
 ·exact hu
 ·have := Nat.mul_le_mul_right E.size (show k + 1 ≤ m from hk'.1)
  rw [Nat.add_mul] at this
  omega
theorem Sl.from_ (h : Sl E w D A n ls) {m : Nat} (hm : m ≤ n) : Sl E w D (Option.map (fun x => x.add (m * E.size)) A) (n - m) (ls.drop m) := by
 obtain ⟨vs, h1, h2, h3⟩ := h
 refine ⟨vs.drop (m * E.size), h1.from_ hm, by rw [List.length_drop]; omega, fun k hk => ?_⟩
 rw [List.getElem_drop]
 have hk' : m + k < ls.length := by rw [List.length_drop] at hk; omega
 refine E.shift (h3 (m + k) hk') fun j hj u hu => ?_
 rw [List.getElem?_drop, ← Nat.add_assoc, ← Nat.add_mul]
 exact hu
theorem Sl.at_ (h : Sl E w D A n ls) {k : Nat} (hk : k < ls.length) : ∃ b off us, A = some ⟨b, off, none⟩ ∧ D b ∧ b < w.heap.size ∧ E.At w D us 0 ls[k] ∧ us.length = E.size ∧ ∀ j u, us[j]? = some u → w.cell? ⟨b, off + k * E.size + j, none⟩ = some u := by
 obtain ⟨vs, h1, h2, h3⟩ := h
 obtain ⟨b, off, hA, hD, hb, hcell⟩ := h1.2 (by omega)
 have hl := h1.1
 have h4 := Nat.mul_le_mul_right E.size (show k + 1 ≤ n by omega)
 rw [Nat.add_mul] at h4
 refine ⟨b, off, (vs.drop (k * E.size)).take E.size, hA, hD, hb, E.shift (h3 k hk) (fun j hj u hu => ?_), by rw [List.length_take, List.length_drop]; omega, fun j u hu => ?_⟩
 ·rw [Nat.zero_add, List.getElem?_take, if_pos hj, List.getElem?_drop]
  exact hu
 ·rw [List.getElem?_take] at hu
  split at hu
  ·rw [List.getElem?_drop] at hu
   rw [Nat.add_assoc]
   exact hcell _ _ hu
  ·cases hu
def OwnSl (t : TypeId) (E : Elt α) (w : World) (base : Nat) (D : Nat → Prop) (A : Option Addr) (n c : Nat) (ls : List α) : Prop :=
 ∃ vs : List Value, Own w base t E.size A n c vs ∧ ls.length = n ∧ ∀ k (h : k < ls.length), E.At w (fun b => D b ∧ some b ≠ blk A) vs (k * E.size) ls[k]
theorem OwnSl.nil (t : TypeId) (E : Elt α) (w : World) (base : Nat) (D : Nat → Prop) : OwnSl t E w base D none 0 0 [] := ⟨[], Own.nil _ _ _ _, rfl, fun k hk => absurd hk (by simp)⟩
theorem OwnSl.new (h : OwnSl t E w base D A n c ls) (hk : New w w') : OwnSl t E w' base D A n c ls := by
 obtain ⟨vs, h1, h2, h3⟩ := h
 exact ⟨vs, own_keep h1 hk (fun _ _ => trivial), h2, fun k hk' => E.keep (h3 k hk') hk fun _ _ _ => trivial⟩
theorem OwnSl.len (h : OwnSl t E w base D A n c ls) : ls.length = n := by obtain ⟨_, _, h, _⟩ := h; exact h
theorem OwnSl.cap (h : OwnSl t E w base D A n c ls) : n ≤ c := by obtain ⟨_, h, _⟩ := h; exact own_cap h
theorem OwnSl.capMax (h : OwnSl t E w base D A n c ls) : c ≤ 9223372036854775807 := by obtain ⟨_, h, _⟩ := h; exact own_capMax h
theorem OwnSl.lt (h : OwnSl t E w base D A n c ls) : ∀ k, blk A = some k → base ≤ k ∧ k < w.heap.size := by obtain ⟨_, h, _⟩ := h; exact own_lt h
theorem OwnSl.imp (h : OwnSl t E w base D A n c ls) (hE : ∀ b, b < w.heap.size → D b → F b) : OwnSl t E w base F A n c ls := by
 obtain ⟨vs, h1, h2, h3⟩ := h
 exact ⟨vs, h1, h2, fun k hk => E.imp (h3 k hk) fun b hb hd => ⟨hE b hb hd.1, hd.2⟩⟩
theorem OwnSl.rebase (h : OwnSl t E w base' D A n c ls) (hb : base ≤ base') : OwnSl t E w base D A n c ls := by
 obtain ⟨vs, h1, h2, h3⟩ := h
 exact ⟨vs, own_base h1 hb, h2, h3⟩
theorem OwnSl.keepE (h : OwnSl t E w base D A n c ls) (hk : Keep F w w') (hb : ∀ k, blk A = some k → F k) (hD : ∀ b, D b → F b) : OwnSl t E w' base D A n c ls := by
 obtain ⟨vs, h1, h2, h3⟩ := h
 exact ⟨vs, own_keep h1 hk hb, h2, fun k hk' => E.keep (h3 k hk') hk fun b _ hd => hD b hd.1⟩
theorem OwnSl.sl (h : OwnSl t E w base D A n c ls) : Sl E w (fun b => base ≤ b ∨ D b) A n ls := by
 obtain ⟨vs, h1, h2, h3⟩ := h
 exact ⟨vs, (Row.of_own h1).imp (fun _ _ h => .inl h), h2, fun k hk => E.imp (h3 k hk) fun _ _ h => .inr h.1⟩
theorem OwnSl.any (h : OwnSl t E w base D A n c ls) : Sl E w (fun _ => True) A n ls := h.sl.any
theorem OwnSl.beside {b1 : Nat} {t1 : TypeId} {s1 : Nat} {A1 A3 : Option Addr} {n1 c1 : Nat} {xs : List Value} (h1 : Own w b1 t1 s1 A1 n1 c1 xs) (ht : t1 ≠ t) (h : OwnSl t E w base (fun b => D b ∧ some b ≠ blk A1) A n c ls) (hg : w.grownBy w' (blk A1)) (hbk : blk A3 = blk A1 ∨ blk A3 = some w.heap.size) : OwnSl t E w' base (fun b => D b ∧ some b ≠ blk A3) A n c ls := by
 obtain ⟨vs, h2, h3, h4⟩ := h
 refine ⟨vs, own_keep h2 (keep_blk hg) (own_apart6 h1 h2 ht), h3, fun k hk' => ?_⟩
 have h5 := E.imp (h4 k hk') (E := fun b => ((D b ∧ some b ≠ blk A3) ∧ some b ≠ blk A) ∧ some b ≠ blk A1) fun b hb hd => ⟨⟨⟨hd.1.1, ne_blk hbk hb hd.1.2⟩, hd.2⟩, hd.1.2⟩
 exact E.imp (E.keep h5 (keep_blk hg) fun b _ hd => hd.2) fun b _ hd => hd.1
theorem OwnSl.own (h : OwnSl t E w base D A n c ls) : ∃ xs, Own w base t E.size A n c xs := by obtain ⟨vs, h, _⟩ := h; exact ⟨vs, h⟩
theorem app_slM {P : Program} {ops : Array Oper} {rest : List Oper} {o : Oper} {a : Act} {Q : Exit → Act → World → Prop} (w : World) (hgd : o.guard = none) (s x : Operand) (T t : TypeId)
  (ho : o.op = .call { callee := .builtin .append, args := #[s, x], argTypes := #[T, T] })
  (i : TypeInfo) (z : Value) (bytes : Nat) (ht : P.underlying T = some (.slice t)) (hi : P.info? t = some i) (hz : i.zero = some z) (hsize : i.size = E.size) (hby : i.bytes = bytes) (hzs : z.cells.size = E.size)
  (base : Nat) (D : Nat → Prop) (A : Option Addr) (n c : Nat) (ls : List α) (hs : a.eval s = .slice A n c) (hown : OwnSl t E w base D A n c ls)
  (D2 : Nat → Prop) (A2 : Option Addr) (m c2 : Nat) (us : List Value) (ms : List α) (hx : a.eval x = .slice A2 m c2) (hr : Row w D2 A2 m E.size us) (hm : ms.length = m) (hy : ∀ k (h : k < ms.length), E.At w (fun b => D b ∧ some b ≠ blk A) us (k * E.size) ms[k])
  (h63 : n + m ≤ 9223372036854775807) (hbytes : (n + m) * bytes ≤ 140737488355328) (hbase : base ≤ w.heap.size)
  (h : ∀ A3 c3 w3, OwnSl t E w3 base D A3 (n + m) c3 (ls ++ ms) → w.grownBy w3 (blk A) → (blk A3 = blk A ∨ blk A3 = some w.heap.size) → wpList P ops Q rest (a.put o.dst (.slice A3 (n + m) c3)) w3) : wpList P ops Q (o :: rest) a w := by
 obtain ⟨vs, h1, h2, h3⟩ := hown
 have hul : us.length = m * E.size := hr.1
 have hp := E.pos
 have hone : ∀ u ∈ us, u.oneCell' = true := by
  intro u hu
  obtain ⟨j, hj, rfl⟩ := List.mem_iff_getElem.1 hu
  have hjm : j / E.size < ms.length := by rw [hm]; exact Nat.div_lt_of_lt_mul (by rw [Nat.mul_comm]; omega)
  obtain ⟨u, hu1, hu2⟩ := E.one (hy (j / E.size) hjm) (j % E.size) (Nat.mod_lt _ hp)
  rw [Nat.mul_comm, Nat.div_add_mod, List.getElem?_eq_getElem hj] at hu1
  injection hu1 with hu1
  rw [hu1]
  exact hu2
 refine wpList_append_row w hgd s x T ho base t i z E.size bytes ht hi hz hsize hby hzs hp A n c vs hs h1 D2 A2 m c2 us hx hr hone (by unfold maxLen; exact h63) hbytes hbase ?_
 intro A3 c3 w3 hown3 hg3 hbk3
 refine h A3 c3 w3 ⟨vs ++ us, hown3, by rw [List.length_append]; omega, fun k hk => ?_⟩ hg3 hbk3
 have hvl : vs.length = n * E.size := h1.1
 have move : ∀ {xs : List Value} {j : Nat} {y : α}, E.At w (fun b => D b ∧ some b ≠ blk A) xs j y → E.At w3 (fun b => D b ∧ some b ≠ blk A3) xs j y := fun {xs j y} hb => by
  have hb3 := E.imp hb (E := fun b => (D b ∧ some b ≠ blk A) ∧ some b ≠ blk A3) fun b hlt hd => ⟨hd, ne_blk hbk3 hlt hd.2⟩
  exact E.imp (E.keep hb3 (keep_blk hg3) (fun b _ hd => hd.1.2)) fun b _ hd => ⟨hd.1.1, hd.2⟩
 by_cases hkn : k < ls.length
 ·rw [List.getElem_append_left hkn]
  refine move (E.shift (h3 k hkn) fun j hj u hu => ?_)
  have h4 := Nat.mul_le_mul_right E.size (show k + 1 ≤ n by omega)
  rw [Nat.add_mul] at h4
  rw [List.getElem?_append_left (by omega)]
  exact hu
 ·rw [List.getElem_append_right (by omega)]
  have hkl : k - ls.length < ms.length := by rw [List.length_append] at hk; omega
  refine move (E.shift (hy (k - ls.length) hkl) fun j hj u hu => ?_)
  have h4 : k * E.size = vs.length + (k - ls.length) * E.size := by rw [hvl, ← h2, ← Nat.add_mul]; congr 1; omega
  rw [h4, Nat.add_assoc, List.getElem?_append_right (by omega), Nat.add_sub_cancel_left]
  exact hu
theorem app_sl {P : Program} {ops : Array Oper} {rest : List Oper} {o : Oper} {a : Act} {Q : Exit → Act → World → Prop} (w : World) (hgd : o.guard = none) (s x : Operand) (T t : TypeId)
  (ho : o.op = .call { callee := .builtin .append, args := #[s, x], argTypes := #[T, T] })
  (i : TypeInfo) (z : Value) (bytes : Nat) (ht : P.underlying T = some (.slice t)) (hi : P.info? t = some i) (hz : i.zero = some z) (hsize : i.size = E.size) (hby : i.bytes = bytes) (hzs : z.cells.size = E.size)
  (base : Nat) (D : Nat → Prop) (A : Option Addr) (n c : Nat) (ls : List α) (hs : a.eval s = .slice A n c) (hown : OwnSl t E w base D A n c ls)
  (D2 : Nat → Prop) (A2 : Option Addr) (c2 : Nat) (us : List Value) (y : α) (hx : a.eval x = .slice A2 1 c2) (hr : Row w D2 A2 1 E.size us) (hy : E.At w (fun b => D b ∧ some b ≠ blk A) us 0 y)
  (h63 : n + 1 ≤ 9223372036854775807) (hbytes : (n + 1) * bytes ≤ 140737488355328) (hbase : base ≤ w.heap.size)
  (h : ∀ A3 c3 w3, OwnSl t E w3 base D A3 (n + 1) c3 (ls ++ [y]) → w.grownBy w3 (blk A) → (blk A3 = blk A ∨ blk A3 = some w.heap.size) → wpList P ops Q rest (a.put o.dst (.slice A3 (n + 1) c3)) w3) : wpList P ops Q (o :: rest) a w := by
 refine app_slM w hgd s x T t ho i z bytes ht hi hz hsize hby hzs base D A n c ls hs hown D2 A2 1 c2 us [y] hx hr rfl (fun k hk => ?_) h63 hbytes hbase h
 obtain rfl : k = 0 := by simpa using hk
 rw [Nat.zero_mul]
 exact hy
end
/-! ### kinds of elements -/
def recElt : Elt RecP where
 size := 3
 At := RecAt
 pos := by decide
 keep := RecAt.keep
 imp := RecAt.imp
 shift := by
  rintro w D vs us i j a ⟨A, c, e0, e1, e2, rest⟩ h
  exact ⟨A, c, h 0 (by decide) _ e0, h 1 (by decide) _ e1, h 2 (by decide) _ e2, rest⟩
 one := by
  rintro w D vs i a ⟨A, c, e0, e1, e2, rest⟩ k hk
  match k, hk with
  | 0, _ => exact ⟨_, e0, rfl⟩
  | 1, _ => exact ⟨_, e1, rfl⟩
  | 2, _ => exact ⟨_, e2, rfl⟩
def slElt {α : Type} (E : Elt α) : Elt (List α) where
 size := 1
 At w D vs i ls := ∃ A c, vs[i]? = some (.slice A ls.length c) ∧ ls.length ≤ c ∧ c ≤ 9223372036854775807 ∧ Sl E w D A ls.length ls
 pos := by decide
 keep := by
  rintro w w' D F vs i a ⟨A, c, e, h1, h2, h3⟩ hk hE
  exact ⟨A, c, e, h1, h2, h3.keep hk hE⟩
 imp := by
  rintro w D F vs i a ⟨A, c, e, h1, h2, h3⟩ hE
  exact ⟨A, c, e, h1, h2, h3.imp hE⟩
 shift := by
  rintro w D vs us i j a ⟨A, c, e0, rest⟩ h
  exact ⟨A, c, h 0 (by decide) _ e0, rest⟩
 one := by
  rintro w D vs i a ⟨A, c, e0, rest⟩ k hk
  match k, hk with
  | 0, _ => exact ⟨_, e0, rfl⟩
theorem recs_sl {w : World} {D : Nat → Prop} {A : Option Addr} {n : Nat} {rs : List RecP} : Recs w D A n rs ↔ Sl recElt w D A n rs := Iff.rfl
/-
  PROVED HERE: laws for a region that draws its order where one operation may come at any time: a fork under one condition, and places where the orders meet whose frame is found by the first that comes there; no condition; no program is named.
-/
section
variable {P : Program} {ops : Array Oper} {Q : Exit → Act → World → Prop} {md : Region.Mode} {S : World → Prop}
theorem hold_fork0 {i j : Nat} {o o' : Oper} {fuel : Nat} {listed : Array Bool} {a : Act} {w : World} (hr : Region.ready md ops listed = [i, j]) (ho : ops[i]? = some o) (hw : Region.wanted o (yielded ops a.tmps) = true) (ho' : ops[j]? = some o') (hw' : Region.wanted o' (yielded ops a.tmps) = true)
  (h : ∀ K : Act → World → Prop, Hid (∀ a' w', S w' → wpAnyH P md ops Q S fuel (listed.setIfInBounds i true) a' w' → K a' w') → Oper.wp P o a w K Q)
  (h' : ∀ K : Act → World → Prop, Hid (∀ a' w', S w' → wpAnyH P md ops Q S fuel (listed.setIfInBounds j true) a' w' → K a' w') → Oper.wp P o' a w K Q) : wpAnyH P md ops Q S (fuel + 1) listed a w := by
 refine wpAnyH_all hr (by simp) fun k hk => ?_
 have hk' : k = i ∨ k = j := by simpa using hk
 unfold wpOp
 rcases hk' with rfl | rfl
 ·simp only [ho, hw, if_true]
  exact .inl (h _ (Lib.hid fun a' w' hN hk => ⟨hN, hk⟩))
 ·simp only [ho', hw', if_true]
  exact .inl (h' _ (Lib.hid fun a' w' hN hk => ⟨hN, hk⟩))
end
/-
  PROVED HERE: the laws of append at rows of elements for one operation alone; no condition; no program is named.
-/
section
variable {α : Type} {E : Elt α}
end
end Go.Proofs.YtijjhfkgbmckkaaGreatDoor
