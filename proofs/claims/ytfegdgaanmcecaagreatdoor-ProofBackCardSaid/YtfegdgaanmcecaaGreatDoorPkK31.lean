/-
  PROVED HERE: texts that belong together, one behind the other; what each proves, and under which conditions, its own opening remark says: Pair, PairR, At3, Hold3, ChainMem, Hold4.
-/
import Derived.Test.YtfegdgaanmcecaaGreatDoorPkK00
import Derived.Test.YtfegdgaanmcecaaGreatDoorPkK11
import Derived.Test.YtfegdgaanmcecaaGreatDoorPkK17
import Derived.Test.YtfegdgaanmcecaaGreatDoorPkK18
import Derived.Test.YtfegdgaanmcecaaGreatDoorPkK25
import Derived.Test.YtfegdgaanmcecaaGreatDoorPkK27
import Derived.Test.YtfegdgaanmcecaaGreatDoorPkK29
import Derived.Test.YtfegdgaanmcecaaGreatDoorPkK30
/-
  PROVED HERE: slices of images; heads and records that a call makes lie beside each other; what walks answer; no program is in sight.
-/
namespace Go.Proofs.YtfegdgaanmcecaaGreatDoor
open Go.RowKit

theorem own_apart6 {w : World} {b1 b2 : Nat} {t1 t2 : TypeId} {s1 s2 : Nat} {A A' : Option Addr} {n c n' c' : Nat} {xs ys : List Value} (h : Own w b1 t1 s1 A n c xs) (h' : Own w b2 t2 s2 A' n' c' ys) (ht : t1 ≠ t2) : ∀ k, blk A' = some k → some k ≠ blk A := by
  intro k hk e
  rcases h.2 with ⟨hv, _⟩ | ⟨g, cap, cur, hv, _, hg, _⟩
  · injection hv with hA; subst hA; cases e
  · rcases h'.2 with ⟨hv2, _⟩ | ⟨g2, cap2, cur2, hv2, _, hg2, _⟩
    · injection hv2 with hA; subst hA; cases hk
    · injection hv with hA
      injection hv2 with hA2
      subst hA
      subst hA2
      have e1 : k = g := by injection e
      have e2 : g2 = k := by injection hk
      subst e1
      subst e2
      rw [hg] at hg2
      injection hg2 with hg2
      injection hg2 with _ ht'
      exact ht ht'
theorem OwnHeads.imp {w : World} {base : Nat} {D E : Nat → Prop} {A : Option Addr} {n c : Nat} {hs : List HeadP} (h : OwnHeads w base D A n c hs) (hE : ∀ b, b < w.heap.size → D b → E b) : OwnHeads w base E A n c hs := by
  obtain ⟨vs, h1, h2, h3⟩ := h
  exact ⟨vs, h1, h2, fun k hk => (h3 k hk).imp fun b hb hd => ⟨hE b hb hd.1, hd.2⟩⟩
theorem keep_blk {w w' : World} {A : Option Addr} (hg : w.grownBy w' (blk A)) : Keep (fun b => some b ≠ blk A) w w' := (Keep.refl _ w).grown hg (fun _ hj hd => absurd hj.symm hd)
theorem ne_blk {w : World} {A A3 : Option Addr} (hbk : blk A3 = blk A ∨ blk A3 = some w.heap.size) {b : Nat} (hb : b < w.heap.size) (hne : some b ≠ blk A) : some b ≠ blk A3 := by
  rcases hbk with e | e
  · rw [e]; exact hne
  · rw [e]; intro q; injection q; omega
/-- records stay where another row grows. -/
theorem recs_beside {w w' : World} {b1 b2 : Nat} {t : TypeId} {s : Nat} {D : Nat → Prop} {A A' A3 : Option Addr} {n c n' c' : Nat} {xs : List Value} {rs : List RecP} (h : Own w b1 t s A n c xs) (ht : t ≠ 42) (h' : OwnRecs w b2 (fun b => D b ∧ some b ≠ blk A) A' n' c' rs) (hg : w.grownBy w' (blk A))
    (hbk : blk A3 = blk A ∨ blk A3 = some w.heap.size) : OwnRecs w' b2 (fun b => D b ∧ some b ≠ blk A3) A' n' c' rs := by
  obtain ⟨vs, h1, h2, h3⟩ := h'
  exact ⟨vs, own_keep h1 (keep_blk hg) (own_apart6 h h1 ht), h2, fun k hk' => ((((h3 k hk').imp (E := fun b => ((D b ∧ some b ≠ blk A3) ∧ some b ≠ blk A') ∧ some b ≠ blk A) fun b hb hd => ⟨⟨⟨hd.1.1, ne_blk hbk hb hd.1.2⟩, hd.2⟩, hd.1.2⟩).keep (keep_blk hg) fun b _ hd => hd.2)).imp fun b _ hd => hd.1⟩
/-- heads stay where another row grows. -/
theorem heads_beside {w w' : World} {b1 b2 : Nat} {t : TypeId} {s : Nat} {D : Nat → Prop} {A A' A3 : Option Addr} {n c n' c' : Nat} {xs : List Value} {hs : List HeadP} (h : Own w b1 t s A n c xs) (ht : t ≠ 33) (h' : OwnHeads w b2 (fun b => D b ∧ some b ≠ blk A) A' n' c' hs) (hg : w.grownBy w' (blk A))
    (hbk : blk A3 = blk A ∨ blk A3 = some w.heap.size) : OwnHeads w' b2 (fun b => D b ∧ some b ≠ blk A3) A' n' c' hs := by
  obtain ⟨vs, h1, h2, h3⟩ := h'
  exact ⟨vs, own_keep h1 (keep_blk hg) (own_apart6 h h1 ht), h2, fun k hk' => ((((h3 k hk').imp (E := fun b => ((D b ∧ some b ≠ blk A3) ∧ some b ≠ blk A') ∧ some b ≠ blk A) fun b hb hd => ⟨⟨⟨hd.1.1, ne_blk hbk hb hd.1.2⟩, hd.2⟩, hd.1.2⟩).keep (keep_blk hg) fun b _ hd => hd.2)).imp fun b _ hd => hd.1⟩
/-- heads and records that a call makes. -/
structure Pair (w : World) (base : Nat) (A : Option Addr) (n c : Nat) (hs : List HeadP) (A' : Option Addr) (n' c' : Nat) (rs : List RecP) : Prop where
  heads : OwnHeads w base (fun b => base ≤ b ∧ some b ≠ blk A') A n c hs
  recs : OwnRecs w base (fun b => base ≤ b ∧ some b ≠ blk A) A' n' c' rs
section
variable {w w' w2 : World} {base : Nat} {A A' : Option Addr} {n c n' c' : Nat} {hs : List HeadP} {rs : List RecP}
theorem Pair.nil (w : World) (base : Nat) : Pair w base none 0 0 [] none 0 0 [] := ⟨OwnHeads.nil _ _ _, OwnRecs.nil _ _ _⟩
theorem Pair.new (h : Pair w base A n c hs A' n' c' rs) (hk : New w w') : Pair w' base A n c hs A' n' c' rs := ⟨h.heads.new hk, h.recs.new hk⟩

/-- behind one head more. -/
theorem Pair.head (h : Pair w base A n c hs A' n' c' rs) {A3 : Option Addr} {n3 c3 : Nat} {hs3 : List HeadP} (h3 : OwnHeads w' base (fun b => base ≤ b ∧ some b ≠ blk A') A3 n3 c3 hs3) (hg : w.grownBy w' (blk A)) (hbk : blk A3 = blk A ∨ blk A3 = some w.heap.size) : Pair w' base A3 n3 c3 hs3 A' n' c' rs := by
  refine ⟨h3, ?_⟩
  obtain ⟨_, h1, _⟩ := h.heads
  exact recs_beside h1 (by decide) h.recs hg hbk
/-- behind records more. -/
theorem Pair.more (h : Pair w base A n c hs A' n' c' rs) {A3 : Option Addr} {n3 c3 : Nat} {rs3 : List RecP} (h3 : OwnRecs w' base (fun b => base ≤ b ∧ some b ≠ blk A) A3 n3 c3 rs3) (hg : w.grownBy w' (blk A')) (hbk : blk A3 = blk A' ∨ blk A3 = some w.heap.size) : Pair w' base A n c hs A3 n3 c3 rs3 := by
  refine ⟨?_, h3⟩
  obtain ⟨_, h1, _⟩ := h.recs
  exact heads_beside h1 (by decide) h.heads hg hbk
/-- records that were read behind it stay where its heads grow. -/
theorem Pair.read (h : Pair w base A n c hs A' n' c' rs) {w0 : World} (hlt : ∀ k, blk A = some k → k < w0.heap.size) {A2 : Option Addr} {n2 c2 : Nat} {ls : List RecP} (h2 : OwnRecs w w0.heap.size (fun b => w0.heap.size ≤ b) A2 n2 c2 ls) {A3 : Option Addr} (hg : w.grownBy w' (blk A)) (hbk : blk A3 = blk A ∨ blk A3 = some w.heap.size) :
    OwnRecs w' w0.heap.size (fun b => w0.heap.size ≤ b ∧ some b ≠ blk A3) A2 n2 c2 ls := by
  obtain ⟨_, h1, _⟩ := h.heads
  exact recs_beside h1 (by decide) (h2.imp fun b hd => ⟨hd, fun e => by have := hlt b e.symm; omega⟩) hg hbk
end



theorem read_first (bs : List UInt8) : 0 ≤ (segRead bs).1.first ∧ (segRead bs).1.first ≤ 18446744073709551615 := by
  have hf : 0 ≤ (headOf bs).first ∧ (headOf bs).first ≤ 18446744073709551615 := by
    have h := num_lt ((RdS.mk bs 0).num 2).2 8
    refine ⟨Int.natCast_nonneg _, ?_⟩
    show ((((RdS.mk bs 0).num 2).2.num 8).1 : Int) ≤ _
    omega
  have nil : 0 ≤ noHead.first ∧ noHead.first ≤ 18446744073709551615 := by simp [noHead]
  unfold segRead
  split
  · exact nil
  split
  · exact nil
  split
  · exact nil
  split
  · exact nil
  · split
    · exact nil
    split
    · exact nil
    · exact hf








end Go.Proofs.YtfegdgaanmcecaaGreatDoor
/-
  PROVED HERE: the document's heads and records that a call makes lie beside each other; no condition.
-/
namespace Go.Proofs.YtfegdgaanmcecaaGreatDoor
open Go.RowKit

theorem OwnRefs.keep {w w' : World} {base : Nat} {D E : Nat → Prop} {A : Option Addr} {n c : Nat} {rs : List RecP} (h : OwnRefs w base D A n c rs) (hk : Keep E w w') (hb : ∀ k, base ≤ k → E k) (hD : ∀ b, D b → E b) : OwnRefs w' base D A n c rs := by
  obtain ⟨vs, h1, h2, h3⟩ := h
  exact ⟨vs, own_keep h1 hk (fun k hk' => hb k (own_lt h1 k hk').1), h2, fun k hk' => (h3 k hk').keep hk fun b _ hd => hD b hd.1⟩
theorem OwnRefs.imp {w : World} {base : Nat} {D E : Nat → Prop} {A : Option Addr} {n c : Nat} {rs : List RecP} (h : OwnRefs w base D A n c rs) (hE : ∀ b, D b → E b) : OwnRefs w base E A n c rs := by
  obtain ⟨vs, h1, h2, h3⟩ := h
  exact ⟨vs, h1, h2, fun k hk' => (h3 k hk').imp fun b _ hd => ⟨hE b hd.1, hd.2⟩⟩
theorem OwnRefs.rebase {w : World} {base base' : Nat} {D : Nat → Prop} {A : Option Addr} {n c : Nat} {rs : List RecP} (h : OwnRefs w base' D A n c rs) (hb : base ≤ base') : OwnRefs w base D A n c rs := by
  obtain ⟨vs, h1, h2, h3⟩ := h
  exact ⟨vs, own_base h1 hb, h2, h3⟩
theorem OwnHeadsR.imp {w : World} {base : Nat} {D E : Nat → Prop} {A : Option Addr} {n c : Nat} {hs : List HeadP} (h : OwnHeadsR w base D A n c hs) (hE : ∀ b, b < w.heap.size → D b → E b) : OwnHeadsR w base E A n c hs := by
  obtain ⟨vs, h1, h2, h3⟩ := h
  exact ⟨vs, h1, h2, fun k hk => (h3 k hk).imp fun b hb hd => ⟨hE b hb hd.1, hd.2⟩⟩
/-- records stay where another row grows. -/
theorem refs_beside {w w' : World} {b1 b2 : Nat} {t : TypeId} {s : Nat} {D : Nat → Prop} {A A' A3 : Option Addr} {n c n' c' : Nat} {xs : List Value} {rs : List RecP} (h : Own w b1 t s A n c xs) (ht : t ≠ 53) (h' : OwnRefs w b2 (fun b => D b ∧ some b ≠ blk A) A' n' c' rs) (hg : w.grownBy w' (blk A))
    (hbk : blk A3 = blk A ∨ blk A3 = some w.heap.size) : OwnRefs w' b2 (fun b => D b ∧ some b ≠ blk A3) A' n' c' rs := by
  obtain ⟨vs, h1, h2, h3⟩ := h'
  exact ⟨vs, own_keep h1 (keep_blk hg) (own_apart6 h h1 ht), h2, fun k hk' => ((((h3 k hk').imp (E := fun b => ((D b ∧ some b ≠ blk A3) ∧ some b ≠ blk A') ∧ some b ≠ blk A) fun b hb hd => ⟨⟨⟨hd.1.1, ne_blk hbk hb hd.1.2⟩, hd.2⟩, hd.1.2⟩).keep (keep_blk hg) fun b _ hd => hd.2)).imp fun b _ hd => hd.1⟩
/-- heads stay where another row grows. -/
theorem headsR_beside {w w' : World} {b1 b2 : Nat} {t : TypeId} {s : Nat} {D : Nat → Prop} {A A' A3 : Option Addr} {n c n' c' : Nat} {xs : List Value} {hs : List HeadP} (h : Own w b1 t s A n c xs) (ht : t ≠ 40) (h' : OwnHeadsR w b2 (fun b => D b ∧ some b ≠ blk A) A' n' c' hs) (hg : w.grownBy w' (blk A))
    (hbk : blk A3 = blk A ∨ blk A3 = some w.heap.size) : OwnHeadsR w' b2 (fun b => D b ∧ some b ≠ blk A3) A' n' c' hs := by
  obtain ⟨vs, h1, h2, h3⟩ := h'
  exact ⟨vs, own_keep h1 (keep_blk hg) (own_apart6 h h1 ht), h2, fun k hk' => ((((h3 k hk').imp (E := fun b => ((D b ∧ some b ≠ blk A3) ∧ some b ≠ blk A') ∧ some b ≠ blk A) fun b hb hd => ⟨⟨⟨hd.1.1, ne_blk hbk hb hd.1.2⟩, hd.2⟩, hd.1.2⟩).keep (keep_blk hg) fun b _ hd => hd.2)).imp fun b _ hd => hd.1⟩
/-- heads and records that a call makes. -/
structure PairR (w : World) (base : Nat) (A : Option Addr) (n c : Nat) (hs : List HeadP) (A' : Option Addr) (n' c' : Nat) (rs : List RecP) : Prop where
  heads : OwnHeadsR w base (fun b => base ≤ b ∧ some b ≠ blk A') A n c hs
  recs : OwnRefs w base (fun b => base ≤ b ∧ some b ≠ blk A) A' n' c' rs
section
variable {w w' w2 : World} {base : Nat} {A A' : Option Addr} {n c n' c' : Nat} {hs : List HeadP} {rs : List RecP}
theorem PairR.nil (w : World) (base : Nat) : PairR w base none 0 0 [] none 0 0 [] := ⟨OwnHeadsR.nil _ _ _, OwnRefs.nil _ _ _⟩
theorem PairR.new (h : PairR w base A n c hs A' n' c' rs) (hk : New w w') : PairR w' base A n c hs A' n' c' rs := ⟨h.heads.new hk, h.recs.new hk⟩

/-- behind one head more. -/
theorem PairR.head (h : PairR w base A n c hs A' n' c' rs) {A3 : Option Addr} {n3 c3 : Nat} {hs3 : List HeadP} (h3 : OwnHeadsR w' base (fun b => base ≤ b ∧ some b ≠ blk A') A3 n3 c3 hs3) (hg : w.grownBy w' (blk A)) (hbk : blk A3 = blk A ∨ blk A3 = some w.heap.size) : PairR w' base A3 n3 c3 hs3 A' n' c' rs := by
  refine ⟨h3, ?_⟩
  obtain ⟨_, h1, _⟩ := h.heads
  exact refs_beside h1 (by decide) h.recs hg hbk
/-- behind records more. -/
theorem PairR.more (h : PairR w base A n c hs A' n' c' rs) {A3 : Option Addr} {n3 c3 : Nat} {rs3 : List RecP} (h3 : OwnRefs w' base (fun b => base ≤ b ∧ some b ≠ blk A) A3 n3 c3 rs3) (hg : w.grownBy w' (blk A')) (hbk : blk A3 = blk A' ∨ blk A3 = some w.heap.size) : PairR w' base A n c hs A3 n3 c3 rs3 := by
  refine ⟨?_, h3⟩
  obtain ⟨_, h1, _⟩ := h.recs
  exact headsR_beside h1 (by decide) h.heads hg hbk
/-- records that were read behind it stay where its heads grow. -/
theorem PairR.read (h : PairR w base A n c hs A' n' c' rs) {w0 : World} (hlt : ∀ k, blk A = some k → k < w0.heap.size) {A2 : Option Addr} {n2 c2 : Nat} {ls : List RecP} (h2 : OwnRefs w w0.heap.size (fun b => w0.heap.size ≤ b) A2 n2 c2 ls) {A3 : Option Addr} (hg : w.grownBy w' (blk A)) (hbk : blk A3 = blk A ∨ blk A3 = some w.heap.size) :
    OwnRefs w' w0.heap.size (fun b => w0.heap.size ≤ b ∧ some b ≠ blk A3) A2 n2 c2 ls := by
  obtain ⟨_, h1, _⟩ := h.heads
  exact refs_beside h1 (by decide) (h2.imp fun b hd => ⟨hd, fun e => by have := hlt b e.symm; omega⟩) hg hbk
end



end Go.Proofs.YtfegdgaanmcecaaGreatDoor
/-
  PROVED HERE: how a record of a row of a call's own reads; no condition.
-/
namespace Go.Proofs.YtfegdgaanmcecaaGreatDoor
open Go.RowKit

theorem OwnRecs.at3 {w : World} {base : Nat} {D : Nat → Prop} {A : Option Addr} {n c : Nat} {rs : List RecP} (h : OwnRecs w base D A n c rs) {k : Nat} (hk : k < rs.length) :
    ∃ b off A' c', A = some ⟨b, off, none⟩ ∧ w.cell? ⟨b, off + k * 3, none⟩ = some (.int .i64 rs[k].kind) ∧ w.cell? ⟨b, off + k * 3 + 1, none⟩ = some (.int .u64 rs[k].seq) ∧
      w.cell? ⟨b, off + k * 3 + 2, none⟩ = some (.slice A' rs[k].body.length c') ∧ Bs w (fun b => D b ∧ some b ≠ blk A) A' rs[k].body.length rs[k].body := by
  obtain ⟨vs, h1, h2, h3⟩ := h
  obtain ⟨A', c', e1, e2, e3, hc, hb, _⟩ := h3 k hk
  obtain ⟨b, off, hA, _, _, hcell⟩ := (Row.of_own h1).2 (by omega)
  refine ⟨b, off, A', c', hA, hcell _ _ e1, ?_, ?_, hb⟩
  · rw [Nat.add_assoc]; exact hcell _ _ e2
  · rw [Nat.add_assoc]; exact hcell _ _ e3
theorem OwnRefs.at3 {w : World} {base : Nat} {D : Nat → Prop} {A : Option Addr} {n c : Nat} {rs : List RecP} (h : OwnRefs w base D A n c rs) {k : Nat} (hk : k < rs.length) :
    ∃ b off A' c', A = some ⟨b, off, none⟩ ∧ w.cell? ⟨b, off + k * 3, none⟩ = some (.int .i64 rs[k].kind) ∧ w.cell? ⟨b, off + k * 3 + 1, none⟩ = some (.int .u64 rs[k].seq) ∧
      w.cell? ⟨b, off + k * 3 + 2, none⟩ = some (.slice A' rs[k].body.length c') ∧ Bs w (fun b => D b ∧ some b ≠ blk A) A' rs[k].body.length rs[k].body := by
  obtain ⟨vs, h1, h2, h3⟩ := h
  obtain ⟨A', c', e1, e2, e3, hc, hb, _⟩ := h3 k hk
  obtain ⟨b, off, hA, _, _, hcell⟩ := (Row.of_own h1).2 (by omega)
  refine ⟨b, off, A', c', hA, hcell _ _ e1, ?_, ?_, hb⟩
  · rw [Nat.add_assoc]; exact hcell _ _ e2
  · rw [Nat.add_assoc]; exact hcell _ _ e3
end Go.Proofs.YtfegdgaanmcecaaGreatDoor
/-
  PROVED HERE: a law for a region that draws its order where two operations may come next; no condition; no program is named.
-/
namespace Go.Proofs.YtfegdgaanmcecaaGreatDoor
open Go.RowKit

section
variable {P : Program} {ops : Array Oper} {Q : Exit → Act → World → Prop} {md : Region.Mode}












end
end Go.Proofs.YtfegdgaanmcecaaGreatDoor
/-
  PROVED HERE: images and the document's records that a call makes lie beside each other; no condition.
-/
namespace Go.Proofs.YtfegdgaanmcecaaGreatDoor
open Go.RowKit

/-- images and records that a call makes; the records' bytes lie below the call's own memory. -/
structure Chn (w : World) (base : Nat) (A : Option Addr) (n c : Nat) (ls : List (List UInt8)) (A' : Option Addr) (n' c' : Nat) (rs : List RecP) : Prop where
  imgs : OwnImgs w base (fun b => base ≤ b ∧ some b ≠ blk A') A n c ls
  refs : OwnRefs w base (fun b => b < base) A' n' c' rs
section
variable {w w' : World} {base : Nat} {A A' : Option Addr} {n c n' c' : Nat} {ls : List (List UInt8)} {rs : List RecP}
theorem Chn.nil (w : World) (base : Nat) : Chn w base none 0 0 [] none 0 0 [] := ⟨OwnImgs.nil _ _ _, OwnRefs.nil _ _ _⟩
theorem Chn.new (h : Chn w base A n c ls A' n' c' rs) (hk : New w w') : Chn w' base A n c ls A' n' c' rs := ⟨h.imgs.new hk, h.refs.new hk⟩
theorem Chn.ne (h : Chn w base A n c ls A' n' c' rs) : (∀ k, blk A' = some k → some k ≠ blk A) ∧ (∀ k, blk A = some k → some k ≠ blk A') := by
  obtain ⟨_, h1, _⟩ := h.imgs
  obtain ⟨_, h2, _⟩ := h.refs
  exact ⟨own_apart6 h1 h2 (by decide), own_apart6 h2 h1 (by decide)⟩
/-- behind one image more. -/
theorem Chn.image (h : Chn w base A n c ls A' n' c' rs) {A3 : Option Addr} {n3 c3 : Nat} {ls3 : List (List UInt8)} (h3 : OwnImgs w' base (fun b => base ≤ b ∧ some b ≠ blk A') A3 n3 c3 ls3) (hg : w.grownBy w' (blk A)) : Chn w' base A3 n3 c3 ls3 A' n' c' rs :=
  ⟨h3, h.refs.keepE (keep_blk hg) h.ne.1 (fun b hb e => by have := (h.imgs.lt b e.symm).1; omega)⟩
/-- behind records more. -/
theorem Chn.more (h : Chn w base A n c ls A' n' c' rs) {A3 : Option Addr} {n3 c3 : Nat} {rs3 : List RecP} (h3 : OwnRefs w' base (fun b => b < base) A3 n3 c3 rs3) (hg : w.grownBy w' (blk A')) (hbk : blk A3 = blk A' ∨ blk A3 = some w.heap.size) : Chn w' base A n c ls A3 n3 c3 rs3 :=
  ⟨((h.imgs.imp (E := fun b => (base ≤ b ∧ some b ≠ blk A3) ∧ some b ≠ blk A') fun _ hb hd => ⟨⟨hd.1, ne_blk hbk hb hd.2⟩, hd.2⟩).keepE (keep_blk hg) h.ne.2 (fun _ hd => hd.2)).imp fun _ _ hd => hd.1, h3⟩
end



theorem chainRecs_some {next : Int} {raw : List (List UInt8)} (h : raw.length ≠ 0) : chainRecs next raw = (List.range (min raw.length 6)).map fun k => ⟨1, IntKind.u64.wrap (next + IntKind.u64.wrap (k : Nat)), (raw.getD k []).take 60⟩ := by unfold chainRecs; rw [if_neg h]
theorem chainRecs_none {next : Int} {raw : List (List UInt8)} (h : raw.length = 0) : chainRecs next raw = [⟨2, next, []⟩] := by unfold chainRecs; rw [if_pos h]
theorem fits_right : ∀ {left : Nat} {rs : List RecP}, (∀ r ∈ rs, recRight r = true) → (leavesOf rs).flatten.length ≤ left → rs.length ≤ fitsIn left rs
  | left, [], _, _ => Nat.zero_le _
  | left, r :: rs, h, hl => by
    have h1 := h r (by simp)
    rw [leavesOf_cons h1, List.flatten_cons, List.length_append, recEnc_size r h1] at hl
    have := fits_right (left := left - recSize r) (rs := rs) (fun x hx => h x (by simp [hx])) (by omega)
    unfold fitsIn
    rw [if_pos ⟨h1, by omega⟩, List.length_cons]
    omega
/-- a chain's records are laid. -/
theorem chain_build {i : Nat} {next : Int} {prev : List UInt8} {raw : List (List UInt8)} (hi : i ≤ 1000) (h0 : 0 ≤ next) (h1 : next ≤ 1000000) (hp : prev.length = 32) : buildOf i next prev (chainRecs next raw) = (segBytes i next prev (chainRecs next raw), 0) := by
  have hf := chain_fine (raw := raw) hi h0 h1 hp
  have hfit : (chainRecs next raw).length ≤ fitsIn 942 (chainRecs next raw) := fits_right (fun r hr => (hf.right r hr).1) hf.room
  unfold buildOf
  rw [if_neg, if_neg]
  · rw [Bool.not_eq_false, seqsFrom_iff]; exact hf.seqs
  · rw [Bool.not_eq_false]
    unfold buildArgs
    rw [decide_eq_true_eq]
    exact ⟨hf.i0, hf.i1, hf.f1, hp, hf.any, hfit⟩
end Go.Proofs.YtfegdgaanmcecaaGreatDoor
/-
  PROVED HERE: laws for a region that draws its order where what was made is marked: conditions of one's own on the worlds; what is common to all orders is proved once; a row of bytes that is marked reads as before; no condition.
-/
namespace Go.Proofs.YtfegdgaanmcecaaGreatDoor
open Go.RowKit

section
variable {P : Program} {ops : Array Oper} {Q : Exit → Act → World → Prop} {md : Region.Mode}

































end
/-- the same cells, maybe other marks. -/
structure Like (w w' : World) : Prop where
  size : w.heap.size = w'.heap.size
  cell : ∀ p, w'.cell? p = w.cell? p
theorem Row.like {w w' : World} {D : Nat → Prop} {A : Option Addr} {n s : Nat} {vs : List Value} (h : Row w D A n s vs) (hl : Like w w') : Row w' D A n s vs :=
  ⟨h.1, fun hn => let ⟨b, off, e, hd, hlt, hc⟩ := h.2 hn; ⟨b, off, e, hd, hl.size ▸ hlt, fun k u hu => (hl.cell _).trans (hc k u hu)⟩⟩
theorem conv_mark {w : World} {g : Nat} {C : Array Value} {e : TypeId} (n c : Nat) (h : w.heap[g]? = some (.cells C e (0, 0))) :
    ∃ w', (convert 31 31 (.slice (some ⟨g, 0, none⟩) n c)).run Tryz.prog w = .ok (.slice (some ⟨g, 0, none⟩) n c) w' ∧ Keep (fun b => b ≠ g) w w' ∧ Like w w' := by
  have hsh : w.shape? g = some (e, C.size) := by
    unfold World.shape?
    rw [h]
  refine ⟨w.freeze ⟨g, C.size, none⟩ 1, ?_, ?_, ?_⟩
  · simp [convert, run_underlying Tryz.underlying31, run_underlying Tryz.underlying5, markStringish, hsh]
  · unfold World.freeze
    rw [if_neg (by decide)]
    refine ⟨rfl, rfl, rfl, by simp, fun k hk hne => ?_⟩
    show (w.heap.modify g _)[k]? = w.heap[k]?
    rw [Array.getElem?_modify]
    rw [if_neg (fun e => hne e.symm)]
  · unfold World.freeze
    rw [if_neg (by decide)]
    refine ⟨by simp, fun p => ?_⟩
    by_cases hp : p.block = g
    · simp [World.cell?, Array.getElem?_modify, hp, h]
    · have hp' : ¬ g = p.block := fun e => hp e.symm
      simp [World.cell?, Array.getElem?_modify, hp']
end Go.Proofs.YtfegdgaanmcecaaGreatDoor
