/-
  PROVED HERE: texts that belong together, one behind the other; what each proves, and under which conditions, its own opening remark says: HeadsM, Law18, Pair, PairR, At3, Hold3, ChainMem, Hold4, ImgsW, Small24.
-/
import Derived.Test.YtfegdgaanmcecaaGreatDoorPkN12
import Derived.Test.YtfegdgaanmcecaaGreatDoorPkN23
/-
  PROVED HERE: the law of append at rows of heads, many at once; condition: fewer than 2^40 heads.
-/
namespace Go.Proofs.YtfegdgaanmcecaaGreatDoor
open Go.RowKit
theorem app_headsM {ops : Array Oper} {rest : List Oper} {o : Oper} {a : Act} {Q : Exit → Act → World → Prop} (w : World) (hgd : o.guard = none) (s x : Operand)
  (ho : o.op = .call { callee := .builtin .append, args := #[s, x], argTypes := #[34, 34] })
  (base : Nat) (D : Nat → Prop) (A : Option Addr) (n c : Nat) (hs : List HeadP) (hv : a.eval s = .slice A n c) (hown : OwnHeads w base D A n c hs)
  (D2 : Nat → Prop) (A2 : Option Addr) (m c2 : Nat) (us : List Value) (ms : List HeadP) (hx : a.eval x = .slice A2 m c2) (hr : Row w D2 A2 m 6 us) (hm : ms.length = m) (hy : ∀ k (h : k < ms.length), HeadAt w (fun b => D b ∧ some b ≠ blk A) us (k * 6) ms[k])
  (h63 : n + m ≤ 1099511627776) (hbase : base ≤ w.heap.size)
  (h : ∀ A3 c3 w3, OwnHeads w3 base D A3 (n + m) c3 (hs ++ ms) → w.grownBy w3 (blk A) → (blk A3 = blk A ∨ blk A3 = some w.heap.size) → wpList Tryz.prog ops Q rest (a.put o.dst (.slice A3 (n + m) c3)) w3) : wpList Tryz.prog ops Q (o :: rest) a w := by
 obtain ⟨vs, h1, h2, h3⟩ := hown
 have hul : us.length = m * 6 := hr.1
 have hone : ∀ u ∈ us, u.oneCell' = true := by
  intro u hu
  obtain ⟨j, hj, rfl⟩ := List.mem_iff_getElem.1 hu
  obtain ⟨Q1, q1, Q2, q2, e0, e1, e2, e3, e4, e5, _⟩ := hy (j / 6) (by omega)
  have hr : j = j / 6 * 6 ∨ j = j / 6 * 6 + 1 ∨ j = j / 6 * 6 + 2 ∨ j = j / 6 * 6 + 3 ∨ j = j / 6 * 6 + 4 ∨ j = j / 6 * 6 + 5 := by omega
  rcases hr with hr | hr | hr | hr | hr | hr
  ·rw [← hr, List.getElem?_eq_getElem hj] at e0; injection e0 with e0; rw [e0]; rfl
  ·rw [← hr, List.getElem?_eq_getElem hj] at e1; injection e1 with e1; rw [e1]; rfl
  ·rw [← hr, List.getElem?_eq_getElem hj] at e2; injection e2 with e2; rw [e2]; rfl
  ·rw [← hr, List.getElem?_eq_getElem hj] at e3; injection e3 with e3; rw [e3]; rfl
  ·rw [← hr, List.getElem?_eq_getElem hj] at e4; injection e4 with e4; rw [e4]; rfl
  ·rw [← hr, List.getElem?_eq_getElem hj] at e5; injection e5 with e5; rw [e5]; rfl
 refine app_cells6 w hgd s x ho base A n c vs hv h1 D2 A2 m c2 us hx hr hone h63 hbase ?_
 intro A3 c3 w3 hown3 hg3 hbk3
 refine h A3 c3 w3 ⟨vs ++ us, hown3, by rw [List.length_append]; omega, fun k hk => ?_⟩ hg3 hbk3
 have hvl : vs.length = n * 6 := h1.1
 have move : ∀ {A0 : Option Addr} {m0 : Nat} {z : List UInt8}, Bs w (fun b => D b ∧ some b ≠ blk A) A0 m0 z → Bs w3 (fun b => D b ∧ some b ≠ blk A3) A0 m0 z := fun {A0 m0 z} hb => by
  have hk3 : Keep (fun b => some b ≠ blk A) w w3 := (Keep.refl _ w).grown hg3 (fun k hk hd => absurd hk.symm hd)
  have hb3 : Bs w (fun b => (D b ∧ some b ≠ blk A) ∧ some b ≠ blk A3) A0 m0 z := hb.imp fun b hlt hd => ⟨hd, by
   rcases hbk3 with e | e
   ·rw [e]; exact hd.2
   ·rw [e]; intro e'; injection e'; omega⟩
  exact (Row.keep hb3 hk3 (fun b _ hd => hd.1.2)).imp fun b _ hd => ⟨hd.1.1, hd.2⟩
 by_cases hkn : k < hs.length
 ·rw [List.getElem_append_left hkn]
  obtain ⟨Q1, q1, Q2, q2, e0, e1, e2, e3, e4, e5, l1, l2, b1, b2, f⟩ := h3 k hkn
  refine ⟨Q1, q1, Q2, q2, ?_, ?_, ?_, ?_, ?_, ?_, l1, l2, move b1, move b2, f⟩
  all_goals
   rw [List.getElem?_append_left (by omega)]
   assumption
 ·rw [List.getElem_append_right (by omega)]
  have hkl : k - hs.length < ms.length := by rw [List.length_append] at hk; omega
  obtain ⟨Q1, q1, Q2, q2, e0, e1, e2, e3, e4, e5, l1, l2, b1, b2, f⟩ := hy (k - hs.length) hkl
  refine ⟨Q1, q1, Q2, q2, ?_, ?_, ?_, ?_, ?_, ?_, l1, l2, move b1, move b2, f⟩
  ·rw [List.getElem?_append_right (by omega), show k * 6 - vs.length = (k - hs.length) * 6 from by omega]; exact e0
  ·rw [List.getElem?_append_right (by omega), show k * 6 + 1 - vs.length = (k - hs.length) * 6 + 1 from by omega]; exact e1
  ·rw [List.getElem?_append_right (by omega), show k * 6 + 2 - vs.length = (k - hs.length) * 6 + 2 from by omega]; exact e2
  ·rw [List.getElem?_append_right (by omega), show k * 6 + 3 - vs.length = (k - hs.length) * 6 + 3 from by omega]; exact e3
  ·rw [List.getElem?_append_right (by omega), show k * 6 + 4 - vs.length = (k - hs.length) * 6 + 4 from by omega]; exact e4
  ·rw [List.getElem?_append_right (by omega), show k * 6 + 5 - vs.length = (k - hs.length) * 6 + 5 from by omega]; exact e5
/-
  PROVED HERE: plain law on chained segments: a chain is walked, its beginning too, another archive's is refused; no program is in sight.
-/
theorem genesisOf_length (id : List UInt8) : (genesisOf id).length = 32 := shaSum_length _
theorem sealOf_length (h : HeadP) : (sealOf h).length = 32 := shaSum_length _
theorem recRight_def (r : RecP) : recRight r = decide (r.seq ≤ 1099511627776 ∧ r.body.length ≤ 900 ∧ (r.kind = 1 ∨ r.kind = 2 ∧ r.body.length = 0)) := rfl
theorem leaves_small : ∀ (rs : List RecP), (∀ r ∈ rs, recRight r = true ∧ r.body.length ≤ 60) → (leavesOf rs).flatten.length ≤ 75 * rs.length
 | [], _ => by simp [leavesOf]
 | r :: rs, h => by
  have h1 := h r (by simp)
  have := leaves_small rs (fun x hx => h x (by simp [hx]))
  rw [leavesOf_cons h1.1, List.flatten_cons, List.length_append, recEnc_len h1.1, List.length_cons]
  omega
def walkIn : List (List UInt8) → Option (List HeadP × List RecP)
 | [] => some ([], [])
 | b :: bs => if (segRead b).2.2 ≠ 0 then none else (walkIn bs).map fun p => ((segRead b).1 :: p.1, (segRead b).2.1 ++ p.2)
theorem walkIn_snoc (b : List UInt8) : ∀ (l : List (List UInt8)), walkIn (l ++ [b]) = (walkIn l).bind fun p => if (segRead b).2.2 ≠ 0 then none else some (p.1 ++ [(segRead b).1], p.2 ++ (segRead b).2.1)
 | [] => by
  simp only [List.nil_append, walkIn, Option.bind_some]
  split <;> simp
 | a :: l => by
  rw [List.cons_append, walkIn, walkIn, walkIn_snoc b l]
  split
  ·rfl
  ·cases walkIn l with
   | none => rfl
   | some p =>
    simp only [Option.bind_some, Option.map_some]
    split <;> simp
/-! ### segments, chained -/
def chainRecs (next : Int) (raw : List (List UInt8)) : List RecP :=
 if raw.length = 0 then [⟨2, next, []⟩] else (List.range (min raw.length 6)).map fun k => ⟨1, IntKind.u64.wrap (next + IntKind.u64.wrap (k : Nat)), (raw.getD k []).take 60⟩
structure ChainS where
 images : List (List UInt8)
 heads : List HeadP
 recs : List RecP
 prev : List UInt8
 next : Int
def chainHead (i : Nat) (next : Int) (prev : List UInt8) (rs : List RecP) : HeadP := ⟨i, next, rs.length, (leavesOf rs).flatten.length, prev, rootOf (leavesOf rs)⟩
def chainTo (id : List UInt8) (l : List (List (List UInt8))) : Nat → ChainS
 | 0 => ⟨[], [], [], genesisOf id, 1⟩
 | k + 1 =>
  let s := chainTo id l k
  let rs := chainRecs s.next (l.getD k [])
  ⟨s.images ++ [segBytes k s.next s.prev rs], s.heads ++ [chainHead k s.next s.prev rs], s.recs ++ rs, sealOf (chainHead k s.next s.prev rs), s.next + rs.length⟩
theorem chainRecs_length (next : Int) (raw : List (List UInt8)) : 1 ≤ (chainRecs next raw).length ∧ (chainRecs next raw).length ≤ 6 := by
 unfold chainRecs
 split
 ·simp
 ·simp; omega
theorem chainRecs_get {next : Int} {raw : List (List UInt8)} (h0 : 0 ≤ next) (h1 : next ≤ 1000000) (k : Nat) (hk : k < (chainRecs next raw).length) :
  (chainRecs next raw)[k].seq = next + k ∧ (chainRecs next raw)[k].body.length ≤ 60 ∧ recRight (chainRecs next raw)[k] = true := by
 have hl := chainRecs_length next raw
 by_cases h : raw.length = 0
 ·have e : chainRecs next raw = [⟨2, next, []⟩] := by unfold chainRecs; rw [if_pos h]
  have hk0 : k = 0 := by rw [e] at hk; simpa using hk
  subst hk0
  simp only [e, List.getElem_cons_zero]
  refine ⟨by simp, by simp, ?_⟩
  rw [recRight_def]
  simp; omega
 ·have e : chainRecs next raw = (List.range (min raw.length 6)).map fun k => (⟨1, IntKind.u64.wrap (next + IntKind.u64.wrap (k : Nat)), (raw.getD k []).take 60⟩ : RecP) := by unfold chainRecs; rw [if_neg h]
  have hk6 : k < 6 := by omega
  have hw : IntKind.u64.wrap (next + IntKind.u64.wrap (k : Nat)) = next + k := by rw [IntKind.wrap_u64, IntKind.wrap_u64]; omega
  have ht : ((raw.getD k []).take 60).length ≤ 60 := List.length_take_le _ _
  simp only [e, List.getElem_map, List.getElem_range]
  rw [hw]
  refine ⟨rfl, ht, ?_⟩
  rw [recRight_def, decide_eq_true_eq]
  exact ⟨by dsimp only; omega, by dsimp only; omega, .inl rfl⟩
theorem chain_fine {i : Nat} {next : Int} {prev : List UInt8} {raw : List (List UInt8)} (hi : i ≤ 1000) (h0 : 0 ≤ next) (h1 : next ≤ 1000000) (hp : prev.length = 32) : SegFine i next prev (chainRecs next raw) := by
 have hl := chainRecs_length next raw
 have hr : ∀ r ∈ chainRecs next raw, recRight r = true ∧ 0 ≤ r.seq ∧ r.body.length ≤ 60 := by
  intro r hr
  obtain ⟨k, hk, rfl⟩ := List.mem_iff_getElem.1 hr
  have := chainRecs_get h0 h1 k hk
  exact ⟨this.2.2, by omega, this.2.1⟩
 have hs := leaves_small _ (fun r h => ⟨(hr r h).1, (hr r h).2.2⟩)
 exact ⟨by omega, by omega, h0, by omega, hp, by omega, fun r h => ⟨(hr r h).1, (hr r h).2.1⟩, by omega, by omega, fun k hk => (chainRecs_get h0 h1 k hk).1⟩
def linksEnd : Nat → List UInt8 → Int → List HeadP → Nat × List UInt8 × Int
 | i, prev, first, [] => (i, prev, first)
 | i, _, first, h :: hs => linksEnd (i + 1) (sealOf h) (IntKind.u64.wrap (first + IntKind.u64.wrap h.count)) hs
theorem linksEnd_snoc (x : HeadP) : ∀ (hs : List HeadP) (i : Nat) (prev : List UInt8) (first : Int), linksEnd i prev first (hs ++ [x]) = ((linksEnd i prev first hs).1 + 1, sealOf x, IntKind.u64.wrap ((linksEnd i prev first hs).2.2 + IntKind.u64.wrap x.count))
 | [], i, prev, first => rfl
 | h :: hs, i, prev, first => by rw [List.cons_append, linksEnd, linksEnd, linksEnd_snoc x hs]
theorem linksGo_snoc (x : HeadP) : ∀ (hs : List HeadP) (i : Nat) (prev : List UInt8) (first : Int), linksGo i prev first hs = i + hs.length →
  x.index = (linksEnd i prev first hs).1 → x.prev = (linksEnd i prev first hs).2.1 → x.first = (linksEnd i prev first hs).2.2 → linksGo i prev first (hs ++ [x]) = i + hs.length + 1
 | [], i, prev, first, _, h1, h2, h3 => by
  rw [List.nil_append, linksGo, if_pos ⟨h1, h3, h2⟩, linksGo]; rfl
 | h :: hs, i, prev, first, hg, h1, h2, h3 => by
  rw [linksGo] at hg
  rw [List.cons_append, linksGo]
  split at hg
  ·rename_i hc
   rw [if_pos hc]
   rw [linksGo_snoc x hs (i + 1) _ _ (by rw [hg, List.length_cons]; omega) h1 h2 h3, List.length_cons]; omega
  ·rw [List.length_cons] at hg; omega
structure ChainOK (id : List UInt8) (k : Nat) (s : ChainS) : Prop where
 images : s.images.length = k
 sizes : ∀ b ∈ s.images, b.length = 1024
 heads : s.heads.length = k
 prev : s.prev.length = 32
 next0 : 1 ≤ s.next
 next1 : s.next ≤ 1 + 6 * k
 recs : (s.recs.length : Int) + 1 = s.next
 walk : walkIn s.images = some (s.heads, s.recs)
 ends : linksEnd 0 (genesisOf id) 1 s.heads = (k, s.prev, s.next)
 links : linksOf id s.heads = k
 last : s.prev = headSeal id s.heads
 counts : (s.heads.foldl (fun (n : Int) h => n + h.count) 0) = (s.recs.length : Int)
 seqs : ∀ j (h : j < s.recs.length), s.recs[j].seq = j + 1
theorem chain_ok (id : List UInt8) (l : List (List (List UInt8))) : ∀ k, k ≤ 1000 → ChainOK id k (chainTo id l k)
 | 0, _ => ⟨rfl, by simp [chainTo], rfl, genesisOf_length id, by simp [chainTo], by simp [chainTo], by simp [chainTo], rfl, rfl, rfl, rfl, rfl, by simp [chainTo]⟩
 | k + 1, hk => by
  have h := chain_ok id l k (by omega)
  have hl := chainRecs_length (chainTo id l k).next (l.getD k [])
  have hf := chain_fine (i := k) (next := (chainTo id l k).next) (raw := l.getD k []) (by omega) (by have := h.next0; omega) (by have := h.next1; omega) h.prev
  have q0 := h.next0
  have q1 := h.next1
  have hg := fun j hj => (chainRecs_get (next := (chainTo id l k).next) (raw := l.getD k []) (by omega) (by omega) j hj).1
  have n0 := h.next0
  have n1 := h.next1
  have hrc := h.recs
  rw [chainTo]
  generalize hrs : chainRecs (chainTo id l k).next (l.getD k []) = rs at *
  have hw : IntKind.u64.wrap ((chainTo id l k).next + IntKind.u64.wrap (rs.length : Int)) = (chainTo id l k).next + rs.length := by rw [IntKind.wrap_u64, IntKind.wrap_u64]; omega
  refine ⟨?_, ?_, ?_, sealOf_length _, ?_, ?_, ?_, ?_, ?_, ?_, ?_, ?_, ?_⟩
  ·rw [List.length_append, h.images]; rfl
  ·intro b hb
   rcases List.mem_append.1 hb with hb | hb
   ·exact h.sizes b hb
   ·rw [List.mem_singleton] at hb
    subst hb
    exact segBytes_length _ _ _ _ h.prev hf.room
  ·rw [List.length_append, h.heads]; rfl
  ·dsimp only; omega
  ·dsimp only; omega
  ·rw [List.length_append]; dsimp only; omega
  ·rw [walkIn_snoc, h.walk, Option.bind_some, hf.read, if_neg (by simp)]; rfl
  ·rw [linksEnd_snoc, h.ends]
   dsimp only [chainHead]
   rw [hw]
  ·have := linksGo_snoc (chainHead k (chainTo id l k).next (chainTo id l k).prev rs) (chainTo id l k).heads 0 (genesisOf id) 1 (by rw [h.heads, Nat.zero_add]; exact h.links) (by rw [h.ends]; rfl) (by rw [h.ends]; rfl) (by rw [h.ends]; rfl)
   rw [h.heads, Nat.zero_add] at this
   exact this
  ·simp [headSeal]
  ·rw [List.foldl_append, h.counts]; dsimp only [List.foldl_cons, List.foldl_nil, chainHead]; rw [List.length_append]; omega
  ·intro j hj
   by_cases hj' : j < (chainTo id l k).recs.length
   ·rw [List.getElem_append_left hj']; exact h.seqs j hj'
   ·rw [List.getElem_append_right (by omega), hg]
    omega
/-
  PROVED HERE: slices of images; heads and records that a call makes lie beside each other; what walks answer; no program is in sight.
-/
theorem own_apart6 {w : World} {b1 b2 : Nat} {t1 t2 : TypeId} {s1 s2 : Nat} {A A' : Option Addr} {n c n' c' : Nat} {xs ys : List Value} (h : Own w b1 t1 s1 A n c xs) (h' : Own w b2 t2 s2 A' n' c' ys) (ht : t1 ≠ t2) : ∀ k, blk A' = some k → some k ≠ blk A := by
 intro k hk e
 rcases h.2 with ⟨hv, _⟩ | ⟨g, cap, cur, hv, _, hg, _⟩
 ·injection hv with hA; subst hA; cases e
 ·rcases h'.2 with ⟨hv2, _⟩ | ⟨g2, cap2, cur2, hv2, _, hg2, _⟩
  ·injection hv2 with hA; subst hA; cases hk
  ·injection hv with hA
   injection hv2 with hA2
   subst hA
   subst hA2
   have e1 : k = g := by injection e
   have e2 : g2 = k := by injection hk
   subst e1
   subst e2
   rw [hg] at hg2
   injection hg2 with hg2
   injection hg2 with _ ht'
   exact ht ht'
theorem OwnHeads.imp {w : World} {base : Nat} {D E : Nat → Prop} {A : Option Addr} {n c : Nat} {hs : List HeadP} (h : OwnHeads w base D A n c hs) (hE : ∀ b, b < w.heap.size → D b → E b) : OwnHeads w base E A n c hs := by
 obtain ⟨vs, h1, h2, h3⟩ := h
 exact ⟨vs, h1, h2, fun k hk => (h3 k hk).imp fun b hb hd => ⟨hE b hb hd.1, hd.2⟩⟩
theorem keep_blk {w w' : World} {A : Option Addr} (hg : w.grownBy w' (blk A)) : Keep (fun b => some b ≠ blk A) w w' := (Keep.refl _ w).grown hg (fun _ hj hd => absurd hj.symm hd)
theorem ne_blk {w : World} {A A3 : Option Addr} (hbk : blk A3 = blk A ∨ blk A3 = some w.heap.size) {b : Nat} (hb : b < w.heap.size) (hne : some b ≠ blk A) : some b ≠ blk A3 := by
 rcases hbk with e | e
 ·rw [e]; exact hne
 ·rw [e]; intro q; injection q; omega
theorem recs_beside {w w' : World} {b1 b2 : Nat} {t : TypeId} {s : Nat} {D : Nat → Prop} {A A' A3 : Option Addr} {n c n' c' : Nat} {xs : List Value} {rs : List RecP} (h : Own w b1 t s A n c xs) (ht : t ≠ 42) (h' : OwnRecs w b2 (fun b => D b ∧ some b ≠ blk A) A' n' c' rs) (hg : w.grownBy w' (blk A))
  (hbk : blk A3 = blk A ∨ blk A3 = some w.heap.size) : OwnRecs w' b2 (fun b => D b ∧ some b ≠ blk A3) A' n' c' rs := by
 obtain ⟨vs, h1, h2, h3⟩ := h'
 exact ⟨vs, own_keep h1 (keep_blk hg) (own_apart6 h h1 ht), h2, fun k hk' => ((((h3 k hk').imp (E := fun b => ((D b ∧ some b ≠ blk A3) ∧ some b ≠ blk A') ∧ some b ≠ blk A) fun b hb hd => ⟨⟨⟨hd.1.1, ne_blk hbk hb hd.1.2⟩, hd.2⟩, hd.1.2⟩).keep (keep_blk hg) fun b _ hd => hd.2)).imp fun b _ hd => hd.1⟩
theorem heads_beside {w w' : World} {b1 b2 : Nat} {t : TypeId} {s : Nat} {D : Nat → Prop} {A A' A3 : Option Addr} {n c n' c' : Nat} {xs : List Value} {hs : List HeadP} (h : Own w b1 t s A n c xs) (ht : t ≠ 33) (h' : OwnHeads w b2 (fun b => D b ∧ some b ≠ blk A) A' n' c' hs) (hg : w.grownBy w' (blk A))
  (hbk : blk A3 = blk A ∨ blk A3 = some w.heap.size) : OwnHeads w' b2 (fun b => D b ∧ some b ≠ blk A3) A' n' c' hs := by
 obtain ⟨vs, h1, h2, h3⟩ := h'
 exact ⟨vs, own_keep h1 (keep_blk hg) (own_apart6 h h1 ht), h2, fun k hk' => ((((h3 k hk').imp (E := fun b => ((D b ∧ some b ≠ blk A3) ∧ some b ≠ blk A') ∧ some b ≠ blk A) fun b hb hd => ⟨⟨⟨hd.1.1, ne_blk hbk hb hd.1.2⟩, hd.2⟩, hd.1.2⟩).keep (keep_blk hg) fun b _ hd => hd.2)).imp fun b _ hd => hd.1⟩
structure Pair (w : World) (base : Nat) (A : Option Addr) (n c : Nat) (hs : List HeadP) (A' : Option Addr) (n' c' : Nat) (rs : List RecP) : Prop where
 heads : OwnHeads w base (fun b => base ≤ b ∧ some b ≠ blk A') A n c hs
 recs : OwnRecs w base (fun b => base ≤ b ∧ some b ≠ blk A) A' n' c' rs
section
variable {w w' w2 : World} {base : Nat} {A A' : Option Addr} {n c n' c' : Nat} {hs : List HeadP} {rs : List RecP}
theorem Pair.nil (w : World) (base : Nat) : Pair w base none 0 0 [] none 0 0 [] := ⟨OwnHeads.nil _ _ _, OwnRecs.nil _ _ _⟩
theorem Pair.new (h : Pair w base A n c hs A' n' c' rs) (hk : New w w') : Pair w' base A n c hs A' n' c' rs := ⟨h.heads.new hk, h.recs.new hk⟩
theorem Pair.head (h : Pair w base A n c hs A' n' c' rs) {A3 : Option Addr} {n3 c3 : Nat} {hs3 : List HeadP} (h3 : OwnHeads w' base (fun b => base ≤ b ∧ some b ≠ blk A') A3 n3 c3 hs3) (hg : w.grownBy w' (blk A)) (hbk : blk A3 = blk A ∨ blk A3 = some w.heap.size) : Pair w' base A3 n3 c3 hs3 A' n' c' rs := by
 refine ⟨h3, ?_⟩
 obtain ⟨_, h1, _⟩ := h.heads
 exact recs_beside h1 (by decide) h.recs hg hbk
theorem Pair.more (h : Pair w base A n c hs A' n' c' rs) {A3 : Option Addr} {n3 c3 : Nat} {rs3 : List RecP} (h3 : OwnRecs w' base (fun b => base ≤ b ∧ some b ≠ blk A) A3 n3 c3 rs3) (hg : w.grownBy w' (blk A')) (hbk : blk A3 = blk A' ∨ blk A3 = some w.heap.size) : Pair w' base A n c hs A3 n3 c3 rs3 := by
 refine ⟨?_, h3⟩
 obtain ⟨_, h1, _⟩ := h.recs
 exact heads_beside h1 (by decide) h.heads hg hbk
theorem Pair.read (h : Pair w base A n c hs A' n' c' rs) {w0 : World} (hlt : ∀ k, blk A = some k → k < w0.heap.size) {A2 : Option Addr} {n2 c2 : Nat} {ls : List RecP} (h2 : OwnRecs w w0.heap.size (fun b => w0.heap.size ≤ b) A2 n2 c2 ls) {A3 : Option Addr} (hg : w.grownBy w' (blk A)) (hbk : blk A3 = blk A ∨ blk A3 = some w.heap.size) :
  OwnRecs w' w0.heap.size (fun b => w0.heap.size ≤ b ∧ some b ≠ blk A3) A2 n2 c2 ls := by
 obtain ⟨_, h1, _⟩ := h.heads
 exact recs_beside h1 (by decide) (h2.imp fun b hd => ⟨hd, fun e => by have := hlt b e.symm; omega⟩) hg hbk
end
theorem read_first (bs : List UInt8) : 0 ≤ (segRead bs).1.first ∧ (segRead bs).1.first ≤ 18446744073709551615 := by
 have hf : 0 ≤ (headOf bs).first ∧ (headOf bs).first ≤ 18446744073709551615 := by
  have h := num_lt ((RdS.mk bs 0).num 2).2 8
  refine ⟨Int.natCast_nonneg _, ?_⟩
  show ((((RdS.mk bs 0).num 2).2.num 8).1 : Int) ≤ _
  omega
 have nil : 0 ≤ noHead.first ∧ noHead.first ≤ 18446744073709551615 := by simp [noHead]
 unfold segRead
 split
 ·exact nil
 split
 ·exact nil
 split
 ·exact nil
 split
 ·exact nil
 ·split
  ·exact nil
  split
  ·exact nil
  ·exact hf
/-
  PROVED HERE: the document's heads and records that a call makes lie beside each other; no condition.
-/
theorem OwnRefs.keep {w w' : World} {base : Nat} {D E : Nat → Prop} {A : Option Addr} {n c : Nat} {rs : List RecP} (h : OwnRefs w base D A n c rs) (hk : Keep E w w') (hb : ∀ k, base ≤ k → E k) (hD : ∀ b, D b → E b) : OwnRefs w' base D A n c rs := by
 obtain ⟨vs, h1, h2, h3⟩ := h
 exact ⟨vs, own_keep h1 hk (fun k hk' => hb k (own_lt h1 k hk').1), h2, fun k hk' => (h3 k hk').keep hk fun b _ hd => hD b hd.1⟩
theorem OwnRefs.imp {w : World} {base : Nat} {D E : Nat → Prop} {A : Option Addr} {n c : Nat} {rs : List RecP} (h : OwnRefs w base D A n c rs) (hE : ∀ b, D b → E b) : OwnRefs w base E A n c rs := by
 obtain ⟨vs, h1, h2, h3⟩ := h
 exact ⟨vs, h1, h2, fun k hk' => (h3 k hk').imp fun b _ hd => ⟨hE b hd.1, hd.2⟩⟩
theorem OwnRefs.rebase {w : World} {base base' : Nat} {D : Nat → Prop} {A : Option Addr} {n c : Nat} {rs : List RecP} (h : OwnRefs w base' D A n c rs) (hb : base ≤ base') : OwnRefs w base D A n c rs := by
 obtain ⟨vs, h1, h2, h3⟩ := h
 exact ⟨vs, own_base h1 hb, h2, h3⟩
theorem OwnHeadsR.imp {w : World} {base : Nat} {D E : Nat → Prop} {A : Option Addr} {n c : Nat} {hs : List HeadP} (h : OwnHeadsR w base D A n c hs) (hE : ∀ b, b < w.heap.size → D b → E b) : OwnHeadsR w base E A n c hs := by
 obtain ⟨vs, h1, h2, h3⟩ := h
 exact ⟨vs, h1, h2, fun k hk => (h3 k hk).imp fun b hb hd => ⟨hE b hb hd.1, hd.2⟩⟩
theorem refs_beside {w w' : World} {b1 b2 : Nat} {t : TypeId} {s : Nat} {D : Nat → Prop} {A A' A3 : Option Addr} {n c n' c' : Nat} {xs : List Value} {rs : List RecP} (h : Own w b1 t s A n c xs) (ht : t ≠ 53) (h' : OwnRefs w b2 (fun b => D b ∧ some b ≠ blk A) A' n' c' rs) (hg : w.grownBy w' (blk A))
  (hbk : blk A3 = blk A ∨ blk A3 = some w.heap.size) : OwnRefs w' b2 (fun b => D b ∧ some b ≠ blk A3) A' n' c' rs := by
 obtain ⟨vs, h1, h2, h3⟩ := h'
 exact ⟨vs, own_keep h1 (keep_blk hg) (own_apart6 h h1 ht), h2, fun k hk' => ((((h3 k hk').imp (E := fun b => ((D b ∧ some b ≠ blk A3) ∧ some b ≠ blk A') ∧ some b ≠ blk A) fun b hb hd => ⟨⟨⟨hd.1.1, ne_blk hbk hb hd.1.2⟩, hd.2⟩, hd.1.2⟩).keep (keep_blk hg) fun b _ hd => hd.2)).imp fun b _ hd => hd.1⟩
theorem headsR_beside {w w' : World} {b1 b2 : Nat} {t : TypeId} {s : Nat} {D : Nat → Prop} {A A' A3 : Option Addr} {n c n' c' : Nat} {xs : List Value} {hs : List HeadP} (h : Own w b1 t s A n c xs) (ht : t ≠ 40) (h' : OwnHeadsR w b2 (fun b => D b ∧ some b ≠ blk A) A' n' c' hs) (hg : w.grownBy w' (blk A))
  (hbk : blk A3 = blk A ∨ blk A3 = some w.heap.size) : OwnHeadsR w' b2 (fun b => D b ∧ some b ≠ blk A3) A' n' c' hs := by
 obtain ⟨vs, h1, h2, h3⟩ := h'
 exact ⟨vs, own_keep h1 (keep_blk hg) (own_apart6 h h1 ht), h2, fun k hk' => ((((h3 k hk').imp (E := fun b => ((D b ∧ some b ≠ blk A3) ∧ some b ≠ blk A') ∧ some b ≠ blk A) fun b hb hd => ⟨⟨⟨hd.1.1, ne_blk hbk hb hd.1.2⟩, hd.2⟩, hd.1.2⟩).keep (keep_blk hg) fun b _ hd => hd.2)).imp fun b _ hd => hd.1⟩
structure PairR (w : World) (base : Nat) (A : Option Addr) (n c : Nat) (hs : List HeadP) (A' : Option Addr) (n' c' : Nat) (rs : List RecP) : Prop where
 heads : OwnHeadsR w base (fun b => base ≤ b ∧ some b ≠ blk A') A n c hs
 recs : OwnRefs w base (fun b => base ≤ b ∧ some b ≠ blk A) A' n' c' rs
section
variable {w w' w2 : World} {base : Nat} {A A' : Option Addr} {n c n' c' : Nat} {hs : List HeadP} {rs : List RecP}
theorem PairR.nil (w : World) (base : Nat) : PairR w base none 0 0 [] none 0 0 [] := ⟨OwnHeadsR.nil _ _ _, OwnRefs.nil _ _ _⟩
theorem PairR.new (h : PairR w base A n c hs A' n' c' rs) (hk : New w w') : PairR w' base A n c hs A' n' c' rs := ⟨h.heads.new hk, h.recs.new hk⟩
theorem PairR.head (h : PairR w base A n c hs A' n' c' rs) {A3 : Option Addr} {n3 c3 : Nat} {hs3 : List HeadP} (h3 : OwnHeadsR w' base (fun b => base ≤ b ∧ some b ≠ blk A') A3 n3 c3 hs3) (hg : w.grownBy w' (blk A)) (hbk : blk A3 = blk A ∨ blk A3 = some w.heap.size) : PairR w' base A3 n3 c3 hs3 A' n' c' rs := by
 refine ⟨h3, ?_⟩
 obtain ⟨_, h1, _⟩ := h.heads
 exact refs_beside h1 (by decide) h.recs hg hbk
theorem PairR.more (h : PairR w base A n c hs A' n' c' rs) {A3 : Option Addr} {n3 c3 : Nat} {rs3 : List RecP} (h3 : OwnRefs w' base (fun b => base ≤ b ∧ some b ≠ blk A) A3 n3 c3 rs3) (hg : w.grownBy w' (blk A')) (hbk : blk A3 = blk A' ∨ blk A3 = some w.heap.size) : PairR w' base A n c hs A3 n3 c3 rs3 := by
 refine ⟨?_, h3⟩
 obtain ⟨_, h1, _⟩ := h.recs
 exact headsR_beside h1 (by decide) h.heads hg hbk
theorem PairR.read (h : PairR w base A n c hs A' n' c' rs) {w0 : World} (hlt : ∀ k, blk A = some k → k < w0.heap.size) {A2 : Option Addr} {n2 c2 : Nat} {ls : List RecP} (h2 : OwnRefs w w0.heap.size (fun b => w0.heap.size ≤ b) A2 n2 c2 ls) {A3 : Option Addr} (hg : w.grownBy w' (blk A)) (hbk : blk A3 = blk A ∨ blk A3 = some w.heap.size) :
  OwnRefs w' w0.heap.size (fun b => w0.heap.size ≤ b ∧ some b ≠ blk A3) A2 n2 c2 ls := by
 obtain ⟨_, h1, _⟩ := h.heads
 exact refs_beside h1 (by decide) (h2.imp fun b hd => ⟨hd, fun e => by have := hlt b e.symm; omega⟩) hg hbk
end
/-
  PROVED HERE: how a record of a row of a call's own reads; no condition.
-/
/-
  PROVED HERE: a law for a region that draws its order where two operations may come next; no condition; no program is named.
-/
section
variable {P : Program} {ops : Array Oper} {Q : Exit → Act → World → Prop} {md : Region.Mode}
end
/-
  PROVED HERE: images and the document's records that a call makes lie beside each other; no condition.
-/
structure Chn (w : World) (base : Nat) (A : Option Addr) (n c : Nat) (ls : List (List UInt8)) (A' : Option Addr) (n' c' : Nat) (rs : List RecP) : Prop where
 imgs : OwnImgs w base (fun b => base ≤ b ∧ some b ≠ blk A') A n c ls
 refs : OwnRefs w base (fun b => b < base) A' n' c' rs
section
variable {w w' : World} {base : Nat} {A A' : Option Addr} {n c n' c' : Nat} {ls : List (List UInt8)} {rs : List RecP}
theorem Chn.nil (w : World) (base : Nat) : Chn w base none 0 0 [] none 0 0 [] := ⟨OwnImgs.nil _ _ _, OwnRefs.nil _ _ _⟩
theorem Chn.new (h : Chn w base A n c ls A' n' c' rs) (hk : New w w') : Chn w' base A n c ls A' n' c' rs := ⟨h.imgs.new hk, h.refs.new hk⟩
theorem Chn.ne (h : Chn w base A n c ls A' n' c' rs) : (∀ k, blk A' = some k → some k ≠ blk A) ∧ (∀ k, blk A = some k → some k ≠ blk A') := by
 obtain ⟨_, h1, _⟩ := h.imgs
 obtain ⟨_, h2, _⟩ := h.refs
 exact ⟨own_apart6 h1 h2 (by decide), own_apart6 h2 h1 (by decide)⟩
theorem Chn.image (h : Chn w base A n c ls A' n' c' rs) {A3 : Option Addr} {n3 c3 : Nat} {ls3 : List (List UInt8)} (h3 : OwnImgs w' base (fun b => base ≤ b ∧ some b ≠ blk A') A3 n3 c3 ls3) (hg : w.grownBy w' (blk A)) : Chn w' base A3 n3 c3 ls3 A' n' c' rs :=
 ⟨h3, h.refs.keepE (keep_blk hg) h.ne.1 (fun b hb e => by have := (h.imgs.lt b e.symm).1; omega)⟩
theorem Chn.more (h : Chn w base A n c ls A' n' c' rs) {A3 : Option Addr} {n3 c3 : Nat} {rs3 : List RecP} (h3 : OwnRefs w' base (fun b => b < base) A3 n3 c3 rs3) (hg : w.grownBy w' (blk A')) (hbk : blk A3 = blk A' ∨ blk A3 = some w.heap.size) : Chn w' base A n c ls A3 n3 c3 rs3 :=
 ⟨((h.imgs.imp (E := fun b => (base ≤ b ∧ some b ≠ blk A3) ∧ some b ≠ blk A') fun _ hb hd => ⟨⟨hd.1, ne_blk hbk hb hd.2⟩, hd.2⟩).keepE (keep_blk hg) h.ne.2 (fun _ hd => hd.2)).imp fun _ _ hd => hd.1, h3⟩
end
theorem chainRecs_some {next : Int} {raw : List (List UInt8)} (h : raw.length ≠ 0) : chainRecs next raw = (List.range (min raw.length 6)).map fun k => ⟨1, IntKind.u64.wrap (next + IntKind.u64.wrap (k : Nat)), (raw.getD k []).take 60⟩ := by unfold chainRecs; rw [if_neg h]
theorem chainRecs_none {next : Int} {raw : List (List UInt8)} (h : raw.length = 0) : chainRecs next raw = [⟨2, next, []⟩] := by unfold chainRecs; rw [if_pos h]
theorem fits_right : ∀ {left : Nat} {rs : List RecP}, (∀ r ∈ rs, recRight r = true) → (leavesOf rs).flatten.length ≤ left → rs.length ≤ fitsIn left rs
 | left, [], _, _ => Nat.zero_le _
 | left, r :: rs, h, hl => by
  have h1 := h r (by simp)
  rw [leavesOf_cons h1, List.flatten_cons, List.length_append, recEnc_size r h1] at hl
  have := fits_right (left := left - recSize r) (rs := rs) (fun x hx => h x (by simp [hx])) (by omega)
  unfold fitsIn
  rw [if_pos ⟨h1, by omega⟩, List.length_cons]
  omega
theorem chain_build {i : Nat} {next : Int} {prev : List UInt8} {raw : List (List UInt8)} (hi : i ≤ 1000) (h0 : 0 ≤ next) (h1 : next ≤ 1000000) (hp : prev.length = 32) : buildOf i next prev (chainRecs next raw) = (segBytes i next prev (chainRecs next raw), 0) := by
 have hf := chain_fine (raw := raw) hi h0 h1 hp
 have hfit : (chainRecs next raw).length ≤ fitsIn 942 (chainRecs next raw) := fits_right (fun r hr => (hf.right r hr).1) hf.room
 unfold buildOf
 rw [if_neg, if_neg]
 ·rw [Bool.not_eq_false, seqsFrom_iff]; exact hf.seqs
 ·rw [Bool.not_eq_false]
  unfold buildArgs
  rw [decide_eq_true_eq]
  exact ⟨hf.i0, hf.i1, hf.f1, hp, hf.any, hfit⟩
/-
  PROVED HERE: laws for a region that draws its order where what was made is marked: conditions of one's own on the worlds; what is common to all orders is proved once; a row of bytes that is marked reads as before; no condition.
-/
section
variable {P : Program} {ops : Array Oper} {Q : Exit → Act → World → Prop} {md : Region.Mode}
end
structure Like (w w' : World) : Prop where
 size : w.heap.size = w'.heap.size
 cell : ∀ p, w'.cell? p = w.cell? p
theorem Row.like {w w' : World} {D : Nat → Prop} {A : Option Addr} {n s : Nat} {vs : List Value} (h : Row w D A n s vs) (hl : Like w w') : Row w' D A n s vs :=
 ⟨h.1, fun hn => let ⟨b, off, e, hd, hlt, hc⟩ := h.2 hn; ⟨b, off, e, hd, hl.size ▸ hlt, fun k u hu => (hl.cell _).trans (hc k u hu)⟩⟩
theorem conv_mark {w : World} {g : Nat} {C : Array Value} {e : TypeId} (n c : Nat) (h : w.heap[g]? = some (.cells C e (0, 0))) :
  ∃ w', (convert 31 31 (.slice (some ⟨g, 0, none⟩) n c)).run Tryz.prog w = .ok (.slice (some ⟨g, 0, none⟩) n c) w' ∧ Keep (fun b => b ≠ g) w w' ∧ Like w w' := by
 have hsh : w.shape? g = some (e, C.size) := by
  unfold World.shape?
  rw [h]
 refine ⟨w.freeze ⟨g, C.size, none⟩ 1, ?_, ?_, ?_⟩
 ·simp [convert, run_underlying Tryz.underlying31, run_underlying Tryz.underlying5, markStringish, hsh]
 ·unfold World.freeze
  rw [if_neg (by decide)]
  refine ⟨rfl, rfl, rfl, by simp, fun k hk hne => ?_⟩
  show (w.heap.modify g _)[k]? = w.heap[k]?
  rw [Array.getElem?_modify]
  rw [if_neg (fun e => hne e.symm)]
 ·unfold World.freeze
  rw [if_neg (by decide)]
  refine ⟨by simp, fun p => ?_⟩
  by_cases hp : p.block = g
  ·simp [World.cell?, Array.getElem?_modify, hp, h]
  ·have hp' : ¬ g = p.block := fun e => hp e.symm
   simp [World.cell?, Array.getElem?_modify, hp']
/-
  PROVED HERE: the law of append at rows of images, for one operation alone; condition: fewer than 2^40 images.
-/
theorem wp_imgsM {o : Oper} {a : Act} {K : Act → World → Prop} {Q : Exit → Act → World → Prop} (w : World) (s x : Operand)
  (ho : o.op = .call { callee := .builtin .append, args := #[s, x], argTypes := #[23, 23] })
  (base : Nat) (D : Nat → Prop) (A : Option Addr) (n c : Nat) (ls : List (List UInt8)) (hs : a.eval s = .slice A n c) (hown : OwnImgs w base D A n c ls)
  (D2 : Nat → Prop) (A2 : Option Addr) (m c2 : Nat) (us : List Value) (ms : List (List UInt8)) (hx : a.eval x = .slice A2 m c2) (hr : Row w D2 A2 m 1 us) (hm : ms.length = m) (hy : ∀ k (h : k < ms.length), ImgAt w (fun b => D b ∧ some b ≠ blk A) us k ms[k])
  (h63 : n + m ≤ 1099511627776) (hbase : base ≤ w.heap.size)
  (h : ∀ A3 c3 w3, OwnImgs w3 base D A3 (n + m) c3 (ls ++ ms) → w.grownBy w3 (blk A) → (blk A3 = blk A ∨ blk A3 = some w.heap.size) → K (a.put o.dst (.slice A3 (n + m) c3)) w3) : o.wp Tryz.prog a w K Q := by
 obtain ⟨vs, h1, h2, h3⟩ := hown
 have hul : us.length = m := by have := hr.1; omega
 have hone : ∀ u ∈ us, u.oneCell' = true := by
  intro u hu
  obtain ⟨j, hj, rfl⟩ := List.mem_iff_getElem.1 hu
  obtain ⟨A0, c0, e1, _⟩ := hy j (by omega)
  rw [List.getElem?_eq_getElem hj] at e1; injection e1 with e1; rw [e1]; rfl
 obtain ⟨i, hi, hz0, hz1, hz2⟩ := info_parts info_bytes
 refine wp_append_row w s x 23 ho base 31 i (.slice none 0 0) 1 24 Tryz.underlying23 hi hz0 hz1 hz2 rfl (by decide) A n c vs hs h1 D2 A2 m c2 us hx hr hone (by unfold maxLen; omega) (by omega) hbase ?_
 intro A3 c3 w3 hown3 hg3 hbk3
 refine h A3 c3 w3 ⟨vs ++ us, hown3, by rw [List.length_append]; omega, fun k hk => ?_⟩ hg3 hbk3
 have hvl : vs.length = n := by have := h1.1; simpa using this
 have move : ∀ {A0 : Option Addr} {m0 : Nat} {z : List UInt8}, Bs w (fun b => D b ∧ some b ≠ blk A) A0 m0 z → Bs w3 (fun b => D b ∧ some b ≠ blk A3) A0 m0 z := fun {A0 m0 z} hb => by
  have hk3 : Keep (fun b => some b ≠ blk A) w w3 := (Keep.refl _ w).grown hg3 (fun k hk hd => absurd hk.symm hd)
  have hb3 : Bs w (fun b => (D b ∧ some b ≠ blk A) ∧ some b ≠ blk A3) A0 m0 z := hb.imp fun b hlt hd => ⟨hd, by
   rcases hbk3 with e | e
   ·rw [e]; exact hd.2
   ·rw [e]; intro e'; injection e'; omega⟩
  exact (Row.keep hb3 hk3 (fun b _ hd => hd.1.2)).imp fun b _ hd => ⟨hd.1.1, hd.2⟩
 by_cases hkn : k < ls.length
 ·rw [List.getElem_append_left hkn]
  obtain ⟨A0, c0, e, hc, hc9, hb⟩ := h3 k hkn
  exact ⟨A0, c0, by rw [List.getElem?_append_left (by omega)]; exact e, hc, hc9, move hb⟩
 ·rw [List.getElem_append_right (by omega)]
  have hkl : k - ls.length < ms.length := by rw [List.length_append] at hk; omega
  obtain ⟨A0, c0, e, hc, hc9, hb⟩ := hy (k - ls.length) hkl
  exact ⟨A0, c0, by rw [List.getElem?_append_right (by omega), show k - vs.length = k - ls.length from by omega]; exact e, hc, hc9, move hb⟩
/-
  PROVED HERE: what permafrostlaw24.id, headIn, headOut and head (of equal heads) answer; no condition.
-/
theorem bs_cells24 {w : World} {g : Nat} {t : TypeId} {C : Array Value} (bs : List UInt8) (hC : C.toList = bs.map byteVal) (h : w.heap[g]? = some (.cells C t (0, 0))) : Bs w (fun _ => True) (some ⟨g, 0, none⟩) bs.length bs := by
 refine ⟨by simp, fun _ => ⟨g, 0, rfl, trivial, (Array.getElem?_eq_some_iff.1 h).1, fun k u hu => ?_⟩⟩
 rw [cell_of_row _ _ _ _ _ (0, 0) h]
 rw [← hC] at hu
 simpa using hu
def id24 : List UInt8 := [48, 49, 50, 51, 52, 53, 54, 55, 56, 57, 97, 98, 99, 100, 101, 102]
theorem id24_any (w : World) : Calls Tryz.prog 15 #[] w fun e w' => (∃ A', e = .returned (.slice A' 16 16) ∧ Bs w' (fun b => w.heap.size ≤ b) A' 16 id24) ∧ New w w' := by
 obtain ⟨w0, e0, k0, l0⟩ := conv_mark 16 16 (heap_alloc_new w (.cells #[.int .u8 48, .int .u8 49, .int .u8 50, .int .u8 51, .int .u8 52, .int .u8 53, .int .u8 54, .int .u8 55, .int .u8 56, .int .u8 57, .int .u8 97, .int .u8 98, .int .u8 99, .int .u8 100, .int .u8 101, .int .u8 102] 5))
 have b0 : Bs (w.alloc (.cells #[.int .u8 48, .int .u8 49, .int .u8 50, .int .u8 51, .int .u8 52, .int .u8 53, .int .u8 54, .int .u8 55, .int .u8 56, .int .u8 57, .int .u8 97, .int .u8 98, .int .u8 99, .int .u8 100, .int .u8 101, .int .u8 102] 5)) (fun _ => True) (some ⟨w.heap.size, 0, none⟩) 16 id24 := bs_cells24 id24 (by simp [byteVal, bv, id24]) (heap_alloc_new w (.cells #[.int .u8 48, .int .u8 49, .int .u8 50, .int .u8 51, .int .u8 52, .int .u8 53, .int .u8 54, .int .u8 55, .int .u8 56, .int .u8 57, .int .u8 97, .int .u8 98, .int .u8 99, .int .u8 100, .int .u8 101, .int .u8 102] 5))
 have b1 : Bs w0 (fun b => w.heap.size ≤ b) (some ⟨w.heap.size, 0, none⟩) 16 id24 := by
  obtain ⟨h1, h2⟩ := Row.like b0 l0
  refine ⟨h1, fun hn => ?_⟩
  obtain ⟨b, off, e, _, hl, hc⟩ := h2 hn
  injection e with e
  injection e with e e'
  subst e e'
  exact ⟨_, _, rfl, Nat.le_refl _, hl, hc⟩
 have n00 : New w w0 := (Keep.trans2 (D := fun b => b < w.heap.size) (Keep.of_new ((New.refl w).alloc (.cells #[.int .u8 48, .int .u8 49, .int .u8 50, .int .u8 51, .int .u8 52, .int .u8 53, .int .u8 54, .int .u8 55, .int .u8 56, .int .u8 57, .int .u8 97, .int .u8 98, .int .u8 99, .int .u8 100, .int .u8 101, .int .u8 102] 5))) k0 (fun i _ hi e => by subst e; exact absurd hi (Nat.lt_irrefl _))).toNew (fun i hi => hi)
 clear b0 k0 l0
 go_enter Tryz.func15, Tryz.ntmps15
 go_wp2_with fail
 go_ret
 exact ⟨⟨_, rfl, b1⟩, n00⟩
set_option maxRecDepth 100000 in
set_option maxHeartbeats 1000000 in
theorem headOut_any (P1 P2 : Option Addr) (p1 p2 : Nat) (h : HeadP) (w : World) : Calls Tryz.prog 16 #[.agg #[.int .i64 h.index, .int .u64 h.first, .int .i64 h.count, .int .i64 h.bytes, .slice P1 h.prev.length p1, .slice P2 h.root.length p2]] w fun e w' => e = .returned (.agg #[.int .i64 h.index, .int .u64 h.first, .int .i64 h.count, .int .i64 h.bytes, .slice P1 h.prev.length p1, .slice P2 h.root.length p2]) ∧ New w w' := by
 have hY := heap_alloc_new (w.alloc (.cells #[.int .i64 h.index, .int .u64 h.first, .int .i64 h.count, .int .i64 h.bytes, .slice P1 h.prev.length p1, .slice P2 h.root.length p2] 40)) (.cells #[.int .i64 0, .int .u64 0, .int .i64 0, .int .i64 0, .slice none 0 0, .slice none 0 0] 33)
 have hX := ((New.refl (w.alloc (.cells #[.int .i64 h.index, .int .u64 h.first, .int .i64 h.count, .int .i64 h.bytes, .slice P1 h.prev.length p1, .slice P2 h.root.length p2] 40))).alloc (.cells #[.int .i64 0, .int .u64 0, .int .i64 0, .int .i64 0, .slice none 0 0, .slice none 0 0] 33)).blockAt (heap_alloc_new w (.cells #[.int .i64 h.index, .int .u64 h.first, .int .i64 h.count, .int .i64 h.bytes, .slice P1 h.prev.length p1, .slice P2 h.root.length p2] 40)) trivial
 have HN := Lib.hid (((New.refl w).alloc (.cells #[.int .i64 h.index, .int .u64 h.first, .int .i64 h.count, .int .i64 h.bytes, .slice P1 h.prev.length p1, .slice P2 h.root.length p2] 40)).alloc (.cells #[.int .i64 0, .int .u64 0, .int .i64 0, .int .i64 0, .slice none 0 0, .slice none 0 0] 33))
 rw [World.size_alloc] at hY
 have x0 := cellOf hX (k := 0) rfl
 have y0 := cellOf hY (k := 0) rfl
 have z0 := frozenOf hY 0
 have x1 := cellOf hX (k := 1) rfl
 have y1 := cellOf hY (k := 1) rfl
 have z1 := frozenOf hY 1
 have x2 := cellOf hX (k := 2) rfl
 have y2 := cellOf hY (k := 2) rfl
 have z2 := frozenOf hY 2
 have x3 := cellOf hX (k := 3) rfl
 have y3 := cellOf hY (k := 3) rfl
 have z3 := frozenOf hY 3
 have x4 := cellOf hX (k := 4) rfl
 have y4 := cellOf hY (k := 4) rfl
 have z4 := frozenOf hY 4
 have x5 := cellOf hX (k := 5) rfl
 have y5 := cellOf hY (k := 5) rfl
 have z5 := frozenOf hY 5
 clear hX hY
 go_enter Tryz.func16, Tryz.ntmps16
 go_wp2_with fail
 clear x0 y0 z0 x1 y1 z1 x2 y2 z2 x3 y3 z3 x4 y4 z4 x5 y5 z5
 have hE := heap_alloc_new (w.alloc (.cells #[.int .i64 h.index, .int .u64 h.first, .int .i64 h.count, .int .i64 h.bytes, .slice P1 h.prev.length p1, .slice P2 h.root.length p2] 40)) (.cells #[.int .i64 h.index, .int .u64 h.first, .int .i64 h.count, .int .i64 h.bytes, .slice P1 h.prev.length p1, .slice P2 h.root.length p2] 33)
 rw [World.size_alloc] at hE
 obtain ⟨f0, f1, f2, f3, f4, f5⟩ := cs6 hE
 refine bodyPost_ret (v := .agg #[.int .i64 h.index, .int .u64 h.first, .int .i64 h.count, .int .i64 h.bytes, .slice P1 h.prev.length p1, .slice P2 h.root.length p2]) (by simp [results, Tryz.results16, go_sem, f0, f1, f2, f3, f4, f5]) rfl ?_
 exact ⟨rfl, ((New.refl w).alloc _).alloc _⟩
set_option maxRecDepth 100000 in
set_option maxHeartbeats 1000000 in
theorem headIn_any (P1 P2 : Option Addr) (p1 p2 : Nat) (h : HeadP) (w : World) : Calls Tryz.prog 46 #[.agg #[.int .i64 h.index, .int .u64 h.first, .int .i64 h.count, .int .i64 h.bytes, .slice P1 h.prev.length p1, .slice P2 h.root.length p2]] w fun e w' => e = .returned (.agg #[.int .i64 h.index, .int .u64 h.first, .int .i64 h.count, .int .i64 h.bytes, .slice P1 h.prev.length p1, .slice P2 h.root.length p2]) ∧ New w w' := by
 have hY := heap_alloc_new (w.alloc (.cells #[.int .i64 h.index, .int .u64 h.first, .int .i64 h.count, .int .i64 h.bytes, .slice P1 h.prev.length p1, .slice P2 h.root.length p2] 33)) (.cells #[.int .i64 0, .int .u64 0, .int .i64 0, .int .i64 0, .slice none 0 0, .slice none 0 0] 40)
 have hX := ((New.refl (w.alloc (.cells #[.int .i64 h.index, .int .u64 h.first, .int .i64 h.count, .int .i64 h.bytes, .slice P1 h.prev.length p1, .slice P2 h.root.length p2] 33))).alloc (.cells #[.int .i64 0, .int .u64 0, .int .i64 0, .int .i64 0, .slice none 0 0, .slice none 0 0] 40)).blockAt (heap_alloc_new w (.cells #[.int .i64 h.index, .int .u64 h.first, .int .i64 h.count, .int .i64 h.bytes, .slice P1 h.prev.length p1, .slice P2 h.root.length p2] 33)) trivial
 have HN := Lib.hid (((New.refl w).alloc (.cells #[.int .i64 h.index, .int .u64 h.first, .int .i64 h.count, .int .i64 h.bytes, .slice P1 h.prev.length p1, .slice P2 h.root.length p2] 33)).alloc (.cells #[.int .i64 0, .int .u64 0, .int .i64 0, .int .i64 0, .slice none 0 0, .slice none 0 0] 40))
 rw [World.size_alloc] at hY
 have x0 := cellOf hX (k := 0) rfl
 have y0 := cellOf hY (k := 0) rfl
 have z0 := frozenOf hY 0
 have x1 := cellOf hX (k := 1) rfl
 have y1 := cellOf hY (k := 1) rfl
 have z1 := frozenOf hY 1
 have x2 := cellOf hX (k := 2) rfl
 have y2 := cellOf hY (k := 2) rfl
 have z2 := frozenOf hY 2
 have x3 := cellOf hX (k := 3) rfl
 have y3 := cellOf hY (k := 3) rfl
 have z3 := frozenOf hY 3
 have x4 := cellOf hX (k := 4) rfl
 have y4 := cellOf hY (k := 4) rfl
 have z4 := frozenOf hY 4
 have x5 := cellOf hX (k := 5) rfl
 have y5 := cellOf hY (k := 5) rfl
 have z5 := frozenOf hY 5
 clear hX hY
 go_enter Tryz.func46, Tryz.ntmps46
 go_wp2_with fail
 clear x0 y0 z0 x1 y1 z1 x2 y2 z2 x3 y3 z3 x4 y4 z4 x5 y5 z5
 have hE := heap_alloc_new (w.alloc (.cells #[.int .i64 h.index, .int .u64 h.first, .int .i64 h.count, .int .i64 h.bytes, .slice P1 h.prev.length p1, .slice P2 h.root.length p2] 33)) (.cells #[.int .i64 h.index, .int .u64 h.first, .int .i64 h.count, .int .i64 h.bytes, .slice P1 h.prev.length p1, .slice P2 h.root.length p2] 40)
 rw [World.size_alloc] at hE
 obtain ⟨f0, f1, f2, f3, f4, f5⟩ := cs6 hE
 refine bodyPost_ret (v := .agg #[.int .i64 h.index, .int .u64 h.first, .int .i64 h.count, .int .i64 h.bytes, .slice P1 h.prev.length p1, .slice P2 h.root.length p2]) (by simp [results, Tryz.results46, go_sem, f0, f1, f2, f3, f4, f5]) rfl ?_
 exact ⟨rfl, ((New.refl w).alloc _).alloc _⟩
set_option maxRecDepth 100000 in
set_option maxHeartbeats 1000000 in
theorem head24_any (D1 D2 D3 D4 : Nat → Prop) (A1 A2 A3 A4 : Option Addr) (c1 c2 c3 c4 : Nat) (h : HeadP) (w : World) (b1 : Bs w D1 A1 h.prev.length h.prev) (b2 : Bs w D2 A2 h.root.length h.root) (b3 : Bs w D3 A3 h.prev.length h.prev) (b4 : Bs w D4 A4 h.root.length h.root) :
  Calls Tryz.prog 44 #[.agg #[.int .i64 h.index, .int .u64 h.first, .int .i64 h.count, .int .i64 h.bytes, .slice A1 h.prev.length c1, .slice A2 h.root.length c2], .agg #[.int .i64 h.index, .int .u64 h.first, .int .i64 h.count, .int .i64 h.bytes, .slice A3 h.prev.length c3, .slice A4 h.root.length c4]] w fun e w' => e = .returned (.bool true) ∧ New w w' := by
 have hN : New w ((w.alloc (.cells #[.int .i64 h.index, .int .u64 h.first, .int .i64 h.count, .int .i64 h.bytes, .slice A1 h.prev.length c1, .slice A2 h.root.length c2] 40)).alloc (.cells #[.int .i64 h.index, .int .u64 h.first, .int .i64 h.count, .int .i64 h.bytes, .slice A3 h.prev.length c3, .slice A4 h.root.length c4] 40)) := ((New.refl w).alloc _).alloc _
 have HN := Lib.hid hN
 have hX := ((New.refl (w.alloc (.cells #[.int .i64 h.index, .int .u64 h.first, .int .i64 h.count, .int .i64 h.bytes, .slice A1 h.prev.length c1, .slice A2 h.root.length c2] 40))).alloc (.cells #[.int .i64 h.index, .int .u64 h.first, .int .i64 h.count, .int .i64 h.bytes, .slice A3 h.prev.length c3, .slice A4 h.root.length c4] 40)).blockAt (heap_alloc_new w _) trivial
 have hY := heap_alloc_new (w.alloc (.cells #[.int .i64 h.index, .int .u64 h.first, .int .i64 h.count, .int .i64 h.bytes, .slice A1 h.prev.length c1, .slice A2 h.root.length c2] 40)) (.cells #[.int .i64 h.index, .int .u64 h.first, .int .i64 h.count, .int .i64 h.bytes, .slice A3 h.prev.length c3, .slice A4 h.root.length c4] 40)
 rw [show (w.alloc (.cells #[.int .i64 h.index, .int .u64 h.first, .int .i64 h.count, .int .i64 h.bytes, .slice A1 h.prev.length c1, .slice A2 h.root.length c2] 40)).heap.size = w.heap.size + 1 from by simp] at hY
 have k1 := run_str (c := c1) (b1.new hN)
 have k2 := run_str (c := c2) (b2.new hN)
 have k3 := run_str (c := c3) (b3.new hN)
 have k4 := run_str (c := c4) (b4.new hN)
 obtain ⟨x0, x1, x2, x3, x4, x5⟩ := cs6 hX
 obtain ⟨y0, y1, y2, y3, y4, y5⟩ := cs6 hY
 clear hN hX hY b1 b2 b3 b4
 go_enter Tryz.func44, Tryz.ntmps44
 go_wp2_with fail
 go_ret
 exact ⟨rfl, HN.out⟩
end Go.Proofs.YtfegdgaanmcecaaGreatDoor
