/-
  PROVED HERE: texts that belong together, one behind the other; what each proves, and under which conditions, its own opening remark says: Law18, Pair, PairR, Walk, Walk18, At3.
-/
import Derived.Test.YtpbbfbgmpidgnaaGreatDoorPkW11
import Derived.Test.YtpbbfbgmpidgnaaGreatDoorPkW17
import Derived.Test.YtpbbfbgmpidgnaaGreatDoorPkW25
import Derived.Test.YtpbbfbgmpidgnaaGreatDoorPkW27
import Derived.Test.YtpbbfbgmpidgnaaGreatDoorPkW28
import Derived.Test.YtpbbfbgmpidgnaaGreatDoorPkW30
/-
  PROVED HERE: plain law on chained segments: a chain is walked, its beginning too, another archive's is refused; no program is in sight.
-/
namespace Go.Proofs.YtpbbfbgmpidgnaaGreatDoor
open Go.RowKit

theorem genesisOf_length (id : List UInt8) : (genesisOf id).length = 32 := shaSum_length _
theorem sealOf_length (h : HeadP) : (sealOf h).length = 32 := shaSum_length _
theorem recRight_def (r : RecP) : recRight r = decide (r.seq ≤ 1099511627776 ∧ r.body.length ≤ 900 ∧ (r.kind = 1 ∨ r.kind = 2 ∧ r.body.length = 0)) := rfl
theorem leaves_small : ∀ (rs : List RecP), (∀ r ∈ rs, recRight r = true ∧ r.body.length ≤ 60) → (leavesOf rs).flatten.length ≤ 75 * rs.length
  | [], _ => by simp [leavesOf]
  | r :: rs, h => by
    have h1 := h r (by simp)
    have := leaves_small rs (fun x hx => h x (by simp [hx]))
    rw [leavesOf_cons h1.1, List.flatten_cons, List.length_append, recEnc_len h1.1, List.length_cons]
    omega
/-- the heads and the records of images; nothing where one is refused. -/
def walkIn : List (List UInt8) → Option (List HeadP × List RecP)
  | [] => some ([], [])
  | b :: bs => if (segRead b).2.2 ≠ 0 then none else (walkIn bs).map fun p => ((segRead b).1 :: p.1, (segRead b).2.1 ++ p.2)
def walkOf (id : List UInt8) (images : List (List UInt8)) : List HeadP × List RecP × Int :=
  match walkIn images with
  | none => ([], [], 40)
  | some (hs, rs) => if linksOf id hs < hs.length then ([], [], 40) else (hs, rs, 0)
theorem walkIn_snoc (b : List UInt8) : ∀ (l : List (List UInt8)), walkIn (l ++ [b]) = (walkIn l).bind fun p => if (segRead b).2.2 ≠ 0 then none else some (p.1 ++ [(segRead b).1], p.2 ++ (segRead b).2.1)
  | [] => by
    simp only [List.nil_append, walkIn, Option.bind_some]
    split <;> simp
  | a :: l => by
    rw [List.cons_append, walkIn, walkIn, walkIn_snoc b l]
    split
    · rfl
    · cases walkIn l with
      | none => rfl
      | some p =>
        simp only [Option.bind_some, Option.map_some]
        split <;> simp
/-! ### segments, chained -/
/-- bodies as records; a Mark where there are none. -/
def chainRecs (next : Int) (raw : List (List UInt8)) : List RecP :=
  if raw.length = 0 then [⟨2, next, []⟩] else (List.range (min raw.length 6)).map fun k => ⟨1, IntKind.u64.wrap (next + IntKind.u64.wrap (k : Nat)), (raw.getD k []).take 60⟩
structure ChainS where
  images : List (List UInt8)
  heads : List HeadP
  recs : List RecP
  prev : List UInt8
  next : Int
def chainHead (i : Nat) (next : Int) (prev : List UInt8) (rs : List RecP) : HeadP := ⟨i, next, rs.length, (leavesOf rs).flatten.length, prev, rootOf (leavesOf rs)⟩
def chainTo (id : List UInt8) (l : List (List (List UInt8))) : Nat → ChainS
  | 0 => ⟨[], [], [], genesisOf id, 1⟩
  | k + 1 =>
    let s := chainTo id l k
    let rs := chainRecs s.next (l.getD k [])
    ⟨s.images ++ [segBytes k s.next s.prev rs], s.heads ++ [chainHead k s.next s.prev rs], s.recs ++ rs, sealOf (chainHead k s.next s.prev rs), s.next + rs.length⟩
theorem chainRecs_length (next : Int) (raw : List (List UInt8)) : 1 ≤ (chainRecs next raw).length ∧ (chainRecs next raw).length ≤ 6 := by
  unfold chainRecs
  split
  · simp
  · simp; omega
theorem chainRecs_get {next : Int} {raw : List (List UInt8)} (h0 : 0 ≤ next) (h1 : next ≤ 1000000) (k : Nat) (hk : k < (chainRecs next raw).length) :
    (chainRecs next raw)[k].seq = next + k ∧ (chainRecs next raw)[k].body.length ≤ 60 ∧ recRight (chainRecs next raw)[k] = true := by
  have hl := chainRecs_length next raw
  by_cases h : raw.length = 0
  · have e : chainRecs next raw = [⟨2, next, []⟩] := by unfold chainRecs; rw [if_pos h]
    have hk0 : k = 0 := by rw [e] at hk; simpa using hk
    subst hk0
    simp only [e, List.getElem_cons_zero]
    refine ⟨by simp, by simp, ?_⟩
    rw [recRight_def]
    simp; omega
  · have e : chainRecs next raw = (List.range (min raw.length 6)).map fun k => (⟨1, IntKind.u64.wrap (next + IntKind.u64.wrap (k : Nat)), (raw.getD k []).take 60⟩ : RecP) := by unfold chainRecs; rw [if_neg h]
    have hk6 : k < 6 := by omega
    have hw : IntKind.u64.wrap (next + IntKind.u64.wrap (k : Nat)) = next + k := by rw [IntKind.wrap_u64, IntKind.wrap_u64]; omega
    have ht : ((raw.getD k []).take 60).length ≤ 60 := List.length_take_le _ _
    simp only [e, List.getElem_map, List.getElem_range]
    rw [hw]
    refine ⟨rfl, ht, ?_⟩
    rw [recRight_def, decide_eq_true_eq]
    exact ⟨by dsimp only; omega, by dsimp only; omega, .inl rfl⟩
theorem chain_fine {i : Nat} {next : Int} {prev : List UInt8} {raw : List (List UInt8)} (hi : i ≤ 1000) (h0 : 0 ≤ next) (h1 : next ≤ 1000000) (hp : prev.length = 32) : SegFine i next prev (chainRecs next raw) := by
  have hl := chainRecs_length next raw
  have hr : ∀ r ∈ chainRecs next raw, recRight r = true ∧ 0 ≤ r.seq ∧ r.body.length ≤ 60 := by
    intro r hr
    obtain ⟨k, hk, rfl⟩ := List.mem_iff_getElem.1 hr
    have := chainRecs_get h0 h1 k hk
    exact ⟨this.2.2, by omega, this.2.1⟩
  have hs := leaves_small _ (fun r h => ⟨(hr r h).1, (hr r h).2.2⟩)
  exact ⟨by omega, by omega, h0, by omega, hp, by omega, fun r h => ⟨(hr r h).1, (hr r h).2.1⟩, by omega, by omega, fun k hk => (chainRecs_get h0 h1 k hk).1⟩
/-- where a chain's heads end. -/
def firstAt (hs : List HeadP) : Int := hs.foldl (fun f h => IntKind.u64.wrap (f + IntKind.u64.wrap h.count)) 1
def linksEnd : Nat → List UInt8 → Int → List HeadP → Nat × List UInt8 × Int
  | i, prev, first, [] => (i, prev, first)
  | i, _, first, h :: hs => linksEnd (i + 1) (sealOf h) (IntKind.u64.wrap (first + IntKind.u64.wrap h.count)) hs
theorem linksEnd_snoc (x : HeadP) : ∀ (hs : List HeadP) (i : Nat) (prev : List UInt8) (first : Int), linksEnd i prev first (hs ++ [x]) = ((linksEnd i prev first hs).1 + 1, sealOf x, IntKind.u64.wrap ((linksEnd i prev first hs).2.2 + IntKind.u64.wrap x.count))
  | [], i, prev, first => rfl
  | h :: hs, i, prev, first => by rw [List.cons_append, linksEnd, linksEnd, linksEnd_snoc x hs]
theorem linksGo_snoc (x : HeadP) : ∀ (hs : List HeadP) (i : Nat) (prev : List UInt8) (first : Int), linksGo i prev first hs = i + hs.length →
    x.index = (linksEnd i prev first hs).1 → x.prev = (linksEnd i prev first hs).2.1 → x.first = (linksEnd i prev first hs).2.2 → linksGo i prev first (hs ++ [x]) = i + hs.length + 1
  | [], i, prev, first, _, h1, h2, h3 => by
    rw [List.nil_append, linksGo, if_pos ⟨h1, h3, h2⟩, linksGo]; rfl
  | h :: hs, i, prev, first, hg, h1, h2, h3 => by
    rw [linksGo] at hg
    rw [List.cons_append, linksGo]
    split at hg
    · rename_i hc
      rw [if_pos hc]
      rw [linksGo_snoc x hs (i + 1) _ _ (by rw [hg, List.length_cons]; omega) h1 h2 h3, List.length_cons]; omega
    · rw [List.length_cons] at hg; omega
structure ChainOK (id : List UInt8) (k : Nat) (s : ChainS) : Prop where
  images : s.images.length = k
  sizes : ∀ b ∈ s.images, b.length = 1024
  heads : s.heads.length = k
  prev : s.prev.length = 32
  next0 : 1 ≤ s.next
  next1 : s.next ≤ 1 + 6 * k
  recs : (s.recs.length : Int) + 1 = s.next
  walk : walkIn s.images = some (s.heads, s.recs)
  ends : linksEnd 0 (genesisOf id) 1 s.heads = (k, s.prev, s.next)
  links : linksOf id s.heads = k
  last : s.prev = headSeal id s.heads
  counts : (s.heads.foldl (fun (n : Int) h => n + h.count) 0) = (s.recs.length : Int)
  seqs : ∀ j (h : j < s.recs.length), s.recs[j].seq = j + 1
theorem chain_ok (id : List UInt8) (l : List (List (List UInt8))) : ∀ k, k ≤ 1000 → ChainOK id k (chainTo id l k)
  | 0, _ => ⟨rfl, by simp [chainTo], rfl, genesisOf_length id, by simp [chainTo], by simp [chainTo], by simp [chainTo], rfl, rfl, rfl, rfl, rfl, by simp [chainTo]⟩
  | k + 1, hk => by
    have h := chain_ok id l k (by omega)
    have hl := chainRecs_length (chainTo id l k).next (l.getD k [])
    have hf := chain_fine (i := k) (next := (chainTo id l k).next) (raw := l.getD k []) (by omega) (by have := h.next0; omega) (by have := h.next1; omega) h.prev
    have q0 := h.next0
    have q1 := h.next1
    have hg := fun j hj => (chainRecs_get (next := (chainTo id l k).next) (raw := l.getD k []) (by omega) (by omega) j hj).1
    have n0 := h.next0
    have n1 := h.next1
    have hrc := h.recs
    rw [chainTo]
    generalize hrs : chainRecs (chainTo id l k).next (l.getD k []) = rs at *
    have hw : IntKind.u64.wrap ((chainTo id l k).next + IntKind.u64.wrap (rs.length : Int)) = (chainTo id l k).next + rs.length := by rw [IntKind.wrap_u64, IntKind.wrap_u64]; omega
    refine ⟨?_, ?_, ?_, sealOf_length _, ?_, ?_, ?_, ?_, ?_, ?_, ?_, ?_, ?_⟩
    · rw [List.length_append, h.images]; rfl
    · intro b hb
      rcases List.mem_append.1 hb with hb | hb
      · exact h.sizes b hb
      · rw [List.mem_singleton] at hb
        subst hb
        exact segBytes_length _ _ _ _ h.prev hf.room
    · rw [List.length_append, h.heads]; rfl
    · dsimp only; omega
    · dsimp only; omega
    · rw [List.length_append]; dsimp only; omega
    · rw [walkIn_snoc, h.walk, Option.bind_some, hf.read, if_neg (by simp)]; rfl
    · rw [linksEnd_snoc, h.ends]
      dsimp only [chainHead]
      rw [hw]
    · have := linksGo_snoc (chainHead k (chainTo id l k).next (chainTo id l k).prev rs) (chainTo id l k).heads 0 (genesisOf id) 1 (by rw [h.heads, Nat.zero_add]; exact h.links) (by rw [h.ends]; rfl) (by rw [h.ends]; rfl) (by rw [h.ends]; rfl)
      rw [h.heads, Nat.zero_add] at this
      exact this
    · simp [headSeal]
    · rw [List.foldl_append, h.counts]; dsimp only [List.foldl_cons, List.foldl_nil, chainHead]; rw [List.length_append]; omega
    · intro j hj
      by_cases hj' : j < (chainTo id l k).recs.length
      · rw [List.getElem_append_left hj']; exact h.seqs j hj'
      · rw [List.getElem_append_right (by omega), hg]
        omega
theorem chain_walk (id : List UInt8) (l : List (List (List UInt8))) (k : Nat) (hk : k ≤ 1000) : walkOf id (chainTo id l k).images = ((chainTo id l k).heads, (chainTo id l k).recs, 0) := by
  have h := chain_ok id l k hk
  unfold walkOf
  rw [h.walk]
  dsimp only
  rw [if_neg (by rw [h.links, h.heads]; omega)]
/-- the beginning of a chain. -/
theorem chain_take (id : List UInt8) (l : List (List (List UInt8))) {k : Nat} : ∀ n, k ≤ n → n ≤ 1000 → (chainTo id l n).images.take k = (chainTo id l k).images ∧ (chainTo id l n).heads.take k = (chainTo id l k).heads ∧ (chainTo id l n).recs.take (chainTo id l k).recs.length = (chainTo id l k).recs ∧ (chainTo id l k).recs.length ≤ (chainTo id l n).recs.length
  | 0, hk, _ => by
    obtain rfl : k = 0 := by omega
    exact ⟨rfl, rfl, rfl, Nat.le_refl _⟩
  | n + 1, hk, hn => by
    by_cases e : k = n + 1
    · subst e
      have h := chain_ok id l (n + 1) hn
      exact ⟨List.take_of_length_le (by rw [h.images]; exact Nat.le_refl _), List.take_of_length_le (by rw [h.heads]; exact Nat.le_refl _), List.take_of_length_le (Nat.le_refl _), Nat.le_refl _⟩
    · have h := chain_ok id l n (by omega)
      obtain ⟨h1, h2, h3, h4⟩ := chain_take id l (k := k) n (by omega) (by omega)
      have hi := h.images
      have hh := h.heads
      rw [chainTo]
      dsimp only
      exact ⟨by rw [List.take_append_of_le_length (by omega)]; exact h1, by rw [List.take_append_of_le_length (by omega)]; exact h2, by rw [List.take_append_of_le_length h4]; exact h3, by rw [List.length_append]; omega⟩
theorem chain_prev (id : List UInt8) (l : List (List (List UInt8))) {n k : Nat} (hk : k < n) (hn : n ≤ 1000) (h : k < (chainTo id l n).heads.length) : (chainTo id l n).heads[k].prev = headSeal id (chainTo id l k).heads := by
  have h1 := (chain_take id l (k := k + 1) n (by omega) hn).2.1
  have e : (chainTo id l (k + 1)).heads = (chainTo id l k).heads ++ [chainHead k (chainTo id l k).next (chainTo id l k).prev (chainRecs (chainTo id l k).next (l.getD k []))] := by rw [chainTo]
  have ho := chain_ok id l k (by omega)
  rw [e] at h1
  have h2 : ((chainTo id l n).heads.take (k + 1))[k]? = _ := congrArg (fun z => z[k]?) h1
  rw [List.getElem?_take, if_pos (by omega), List.getElem?_eq_getElem h, List.getElem?_append_right (by rw [ho.heads]; exact Nat.le_refl _), ho.heads, Nat.sub_self] at h2
  injection h2 with h2
  rw [h2]
  exact ho.last
theorem links_other (other : List UInt8) {id : List UInt8} {l : List (List (List UInt8))} {n : Nat} (h0 : n ≠ 0) (hn : n ≤ 1000) (hne : genesisOf id ≠ genesisOf other) : linksOf other (chainTo id l n).heads = 0 := by
  have hh := (chain_ok id l n hn).heads
  have hp := fun z => chain_prev id l (k := 0) (n := n) (by omega) hn z
  revert hh hp
  generalize (chainTo id l n).heads = hs
  intro hh hp
  rcases hs with _ | ⟨h, hs⟩
  · simp at hh; omega
  · have hp := hp (by simp)
    rw [List.getElem_cons_zero] at hp
    unfold linksOf
    rw [linksGo, if_neg]
    intro hc
    exact hne (by rw [← hc.2.2, hp]; rfl)
theorem chain_other (other : List UInt8) {id : List UInt8} {l : List (List (List UInt8))} {n : Nat} (h0 : n ≠ 0) (hn : n ≤ 1000) (hne : genesisOf id ≠ genesisOf other) : walkOf other (chainTo id l n).images = ([], [], 40) := by
  have ho := chain_ok id l n hn
  unfold walkOf
  rw [ho.walk]
  dsimp only
  rw [links_other other h0 hn hne, if_pos (by rw [ho.heads]; omega)]
theorem walk_genesis {id other : List UInt8} (h : genesisOf id = genesisOf other) (images : List (List UInt8)) : walkOf other images = walkOf id images := by
  unfold walkOf linksOf
  rw [h]
end Go.Proofs.YtpbbfbgmpidgnaaGreatDoor
/-
  PROVED HERE: slices of images; heads and records that a call makes lie beside each other; what walks answer; no program is in sight.
-/
namespace Go.Proofs.YtpbbfbgmpidgnaaGreatDoor
open Go.RowKit

theorem own_apart6 {w : World} {b1 b2 : Nat} {t1 t2 : TypeId} {s1 s2 : Nat} {A A' : Option Addr} {n c n' c' : Nat} {xs ys : List Value} (h : Own w b1 t1 s1 A n c xs) (h' : Own w b2 t2 s2 A' n' c' ys) (ht : t1 ≠ t2) : ∀ k, blk A' = some k → some k ≠ blk A := by
  intro k hk e
  rcases h.2 with ⟨hv, _⟩ | ⟨g, cap, cur, hv, _, hg, _⟩
  · injection hv with hA; subst hA; cases e
  · rcases h'.2 with ⟨hv2, _⟩ | ⟨g2, cap2, cur2, hv2, _, hg2, _⟩
    · injection hv2 with hA; subst hA; cases hk
    · injection hv with hA
      injection hv2 with hA2
      subst hA
      subst hA2
      have e1 : k = g := by injection e
      have e2 : g2 = k := by injection hk
      subst e1
      subst e2
      rw [hg] at hg2
      injection hg2 with hg2
      injection hg2 with _ ht'
      exact ht ht'
theorem OwnHeads.imp {w : World} {base : Nat} {D E : Nat → Prop} {A : Option Addr} {n c : Nat} {hs : List HeadP} (h : OwnHeads w base D A n c hs) (hE : ∀ b, b < w.heap.size → D b → E b) : OwnHeads w base E A n c hs := by
  obtain ⟨vs, h1, h2, h3⟩ := h
  exact ⟨vs, h1, h2, fun k hk => (h3 k hk).imp fun b hb hd => ⟨hE b hb hd.1, hd.2⟩⟩
theorem keep_blk {w w' : World} {A : Option Addr} (hg : w.grownBy w' (blk A)) : Keep (fun b => some b ≠ blk A) w w' := (Keep.refl _ w).grown hg (fun _ hj hd => absurd hj.symm hd)
theorem ne_blk {w : World} {A A3 : Option Addr} (hbk : blk A3 = blk A ∨ blk A3 = some w.heap.size) {b : Nat} (hb : b < w.heap.size) (hne : some b ≠ blk A) : some b ≠ blk A3 := by
  rcases hbk with e | e
  · rw [e]; exact hne
  · rw [e]; intro q; injection q; omega
/-- records stay where another row grows. -/
theorem recs_beside {w w' : World} {b1 b2 : Nat} {t : TypeId} {s : Nat} {D : Nat → Prop} {A A' A3 : Option Addr} {n c n' c' : Nat} {xs : List Value} {rs : List RecP} (h : Own w b1 t s A n c xs) (ht : t ≠ 53) (h' : OwnRecs w b2 (fun b => D b ∧ some b ≠ blk A) A' n' c' rs) (hg : w.grownBy w' (blk A))
    (hbk : blk A3 = blk A ∨ blk A3 = some w.heap.size) : OwnRecs w' b2 (fun b => D b ∧ some b ≠ blk A3) A' n' c' rs := by
  obtain ⟨vs, h1, h2, h3⟩ := h'
  exact ⟨vs, own_keep h1 (keep_blk hg) (own_apart6 h h1 ht), h2, fun k hk' => ((((h3 k hk').imp (E := fun b => ((D b ∧ some b ≠ blk A3) ∧ some b ≠ blk A') ∧ some b ≠ blk A) fun b hb hd => ⟨⟨⟨hd.1.1, ne_blk hbk hb hd.1.2⟩, hd.2⟩, hd.1.2⟩).keep (keep_blk hg) fun b _ hd => hd.2)).imp fun b _ hd => hd.1⟩
/-- heads stay where another row grows. -/
theorem heads_beside {w w' : World} {b1 b2 : Nat} {t : TypeId} {s : Nat} {D : Nat → Prop} {A A' A3 : Option Addr} {n c n' c' : Nat} {xs : List Value} {hs : List HeadP} (h : Own w b1 t s A n c xs) (ht : t ≠ 36) (h' : OwnHeads w b2 (fun b => D b ∧ some b ≠ blk A) A' n' c' hs) (hg : w.grownBy w' (blk A))
    (hbk : blk A3 = blk A ∨ blk A3 = some w.heap.size) : OwnHeads w' b2 (fun b => D b ∧ some b ≠ blk A3) A' n' c' hs := by
  obtain ⟨vs, h1, h2, h3⟩ := h'
  exact ⟨vs, own_keep h1 (keep_blk hg) (own_apart6 h h1 ht), h2, fun k hk' => ((((h3 k hk').imp (E := fun b => ((D b ∧ some b ≠ blk A3) ∧ some b ≠ blk A') ∧ some b ≠ blk A) fun b hb hd => ⟨⟨⟨hd.1.1, ne_blk hbk hb hd.1.2⟩, hd.2⟩, hd.1.2⟩).keep (keep_blk hg) fun b _ hd => hd.2)).imp fun b _ hd => hd.1⟩
/-- heads and records that a call makes. -/
structure Pair (w : World) (base : Nat) (A : Option Addr) (n c : Nat) (hs : List HeadP) (A' : Option Addr) (n' c' : Nat) (rs : List RecP) : Prop where
  heads : OwnHeads w base (fun b => base ≤ b ∧ some b ≠ blk A') A n c hs
  recs : OwnRecs w base (fun b => base ≤ b ∧ some b ≠ blk A) A' n' c' rs
section
variable {w w' w2 : World} {base : Nat} {A A' : Option Addr} {n c n' c' : Nat} {hs : List HeadP} {rs : List RecP}
theorem Pair.nil (w : World) (base : Nat) : Pair w base none 0 0 [] none 0 0 [] := ⟨OwnHeads.nil _ _ _, OwnRecs.nil _ _ _⟩
theorem Pair.new (h : Pair w base A n c hs A' n' c' rs) (hk : New w w') : Pair w' base A n c hs A' n' c' rs := ⟨h.heads.new hk, h.recs.new hk⟩
theorem Pair.ret (h : Pair w base A n c hs A' n' c' rs) : OwnHeads w base (fun b => base ≤ b) A n c hs ∧ OwnRecs w base (fun b => base ≤ b) A' n' c' rs := ⟨h.heads.imp fun _ _ hd => hd.1, h.recs.imp fun _ hd => hd.1⟩
/-- behind one head more. -/
theorem Pair.head (h : Pair w base A n c hs A' n' c' rs) {A3 : Option Addr} {n3 c3 : Nat} {hs3 : List HeadP} (h3 : OwnHeads w' base (fun b => base ≤ b ∧ some b ≠ blk A') A3 n3 c3 hs3) (hg : w.grownBy w' (blk A)) (hbk : blk A3 = blk A ∨ blk A3 = some w.heap.size) : Pair w' base A3 n3 c3 hs3 A' n' c' rs := by
  refine ⟨h3, ?_⟩
  obtain ⟨_, h1, _⟩ := h.heads
  exact recs_beside h1 (by decide) h.recs hg hbk
/-- behind records more. -/
theorem Pair.more (h : Pair w base A n c hs A' n' c' rs) {A3 : Option Addr} {n3 c3 : Nat} {rs3 : List RecP} (h3 : OwnRecs w' base (fun b => base ≤ b ∧ some b ≠ blk A) A3 n3 c3 rs3) (hg : w.grownBy w' (blk A')) (hbk : blk A3 = blk A' ∨ blk A3 = some w.heap.size) : Pair w' base A n c hs A3 n3 c3 rs3 := by
  refine ⟨?_, h3⟩
  obtain ⟨_, h1, _⟩ := h.recs
  exact heads_beside h1 (by decide) h.heads hg hbk
/-- records that were read behind it stay where its heads grow. -/
theorem Pair.read (h : Pair w base A n c hs A' n' c' rs) {w0 : World} (hlt : ∀ k, blk A = some k → k < w0.heap.size) {A2 : Option Addr} {n2 c2 : Nat} {ls : List RecP} (h2 : OwnRecs w w0.heap.size (fun b => w0.heap.size ≤ b) A2 n2 c2 ls) {A3 : Option Addr} (hg : w.grownBy w' (blk A)) (hbk : blk A3 = blk A ∨ blk A3 = some w.heap.size) :
    OwnRecs w' w0.heap.size (fun b => w0.heap.size ≤ b ∧ some b ≠ blk A3) A2 n2 c2 ls := by
  obtain ⟨_, h1, _⟩ := h.heads
  exact recs_beside h1 (by decide) (h2.imp fun b hd => ⟨hd, fun e => by have := hlt b e.symm; omega⟩) hg hbk
end
/-- heads, records and a refusal, handed back. -/
def WalkRet (d : List HeadP × List RecP × Int) (w : World) (e : Ending) (w' : World) : Prop :=
  (∃ A1 c1 A2 c2, e = .returned (.tuple #[.slice A1 d.1.length c1, .slice A2 d.2.1.length c2, .int .i64 d.2.2]) ∧ OwnHeads w' w.heap.size (fun b => w.heap.size ≤ b) A1 d.1.length c1 d.1 ∧ OwnRecs w' w.heap.size (fun b => w.heap.size ≤ b) A2 d.2.1.length c2 d.2.1) ∧ New w w'
theorem read_first (bs : List UInt8) : 0 ≤ (segRead bs).1.first ∧ (segRead bs).1.first ≤ 18446744073709551615 := by
  have hf : 0 ≤ (headOf bs).first ∧ (headOf bs).first ≤ 18446744073709551615 := by
    have h := num_lt ((RdS.mk bs 0).num 2).2 8
    refine ⟨Int.natCast_nonneg _, ?_⟩
    show ((((RdS.mk bs 0).num 2).2.num 8).1 : Int) ≤ _
    omega
  have nil : 0 ≤ noHead.first ∧ noHead.first ≤ 18446744073709551615 := by simp [noHead]
  unfold segRead
  split
  · exact nil
  split
  · exact nil
  split
  · exact nil
  split
  · exact nil
  · split
    · exact nil
    split
    · exact nil
    · exact hf
theorem walk_more {ls : List (List UInt8)} {k : Nat} (hk : k < ls.length) {hs : List HeadP} {rs : List RecP} (h : walkIn ls = (walkIn (ls.drop k)).map fun p => (hs ++ p.1, rs ++ p.2)) :
    ((segRead ls[k]).2.2 ≠ 0 → walkIn ls = none) ∧ ((segRead ls[k]).2.2 = 0 → walkIn ls = (walkIn (ls.drop (k + 1))).map fun p => ((hs ++ [(segRead ls[k]).1]) ++ p.1, (rs ++ (segRead ls[k]).2.1) ++ p.2)) := by
  rw [h, List.drop_eq_getElem_cons hk, walkIn]
  constructor
  · intro h1; rw [if_pos h1]; rfl
  · intro h1; rw [if_neg (by simp [h1])]; cases walkIn (ls.drop (k + 1)) <;> simp
theorem walk_done {ls : List (List UInt8)} {n : Nat} (hn : ls.length = n) {hs : List HeadP} {rs : List RecP} (h : walkIn ls = (walkIn (ls.drop n)).map fun p => (hs ++ p.1, rs ++ p.2)) : walkIn ls = some (hs, rs) := by
  rw [h, List.drop_eq_nil_of_le (by omega), walkIn]; simp
end Go.Proofs.YtpbbfbgmpidgnaaGreatDoor
/-
  PROVED HERE: the document's heads and records that a call makes lie beside each other; no condition.
-/
namespace Go.Proofs.YtpbbfbgmpidgnaaGreatDoor
open Go.RowKit

theorem OwnRefs.keep {w w' : World} {base : Nat} {D E : Nat → Prop} {A : Option Addr} {n c : Nat} {rs : List RecP} (h : OwnRefs w base D A n c rs) (hk : Keep E w w') (hb : ∀ k, base ≤ k → E k) (hD : ∀ b, D b → E b) : OwnRefs w' base D A n c rs := by
  obtain ⟨vs, h1, h2, h3⟩ := h
  exact ⟨vs, own_keep h1 hk (fun k hk' => hb k (own_lt h1 k hk').1), h2, fun k hk' => (h3 k hk').keep hk fun b _ hd => hD b hd.1⟩
theorem OwnRefs.imp {w : World} {base : Nat} {D E : Nat → Prop} {A : Option Addr} {n c : Nat} {rs : List RecP} (h : OwnRefs w base D A n c rs) (hE : ∀ b, D b → E b) : OwnRefs w base E A n c rs := by
  obtain ⟨vs, h1, h2, h3⟩ := h
  exact ⟨vs, h1, h2, fun k hk' => (h3 k hk').imp fun b _ hd => ⟨hE b hd.1, hd.2⟩⟩
theorem OwnRefs.rebase {w : World} {base base' : Nat} {D : Nat → Prop} {A : Option Addr} {n c : Nat} {rs : List RecP} (h : OwnRefs w base' D A n c rs) (hb : base ≤ base') : OwnRefs w base D A n c rs := by
  obtain ⟨vs, h1, h2, h3⟩ := h
  exact ⟨vs, own_base h1 hb, h2, h3⟩
theorem OwnHeadsR.imp {w : World} {base : Nat} {D E : Nat → Prop} {A : Option Addr} {n c : Nat} {hs : List HeadP} (h : OwnHeadsR w base D A n c hs) (hE : ∀ b, b < w.heap.size → D b → E b) : OwnHeadsR w base E A n c hs := by
  obtain ⟨vs, h1, h2, h3⟩ := h
  exact ⟨vs, h1, h2, fun k hk => (h3 k hk).imp fun b hb hd => ⟨hE b hb hd.1, hd.2⟩⟩
/-- records stay where another row grows. -/
theorem refs_beside {w w' : World} {b1 b2 : Nat} {t : TypeId} {s : Nat} {D : Nat → Prop} {A A' A3 : Option Addr} {n c n' c' : Nat} {xs : List Value} {rs : List RecP} (h : Own w b1 t s A n c xs) (ht : t ≠ 88) (h' : OwnRefs w b2 (fun b => D b ∧ some b ≠ blk A) A' n' c' rs) (hg : w.grownBy w' (blk A))
    (hbk : blk A3 = blk A ∨ blk A3 = some w.heap.size) : OwnRefs w' b2 (fun b => D b ∧ some b ≠ blk A3) A' n' c' rs := by
  obtain ⟨vs, h1, h2, h3⟩ := h'
  exact ⟨vs, own_keep h1 (keep_blk hg) (own_apart6 h h1 ht), h2, fun k hk' => ((((h3 k hk').imp (E := fun b => ((D b ∧ some b ≠ blk A3) ∧ some b ≠ blk A') ∧ some b ≠ blk A) fun b hb hd => ⟨⟨⟨hd.1.1, ne_blk hbk hb hd.1.2⟩, hd.2⟩, hd.1.2⟩).keep (keep_blk hg) fun b _ hd => hd.2)).imp fun b _ hd => hd.1⟩
/-- heads stay where another row grows. -/
theorem headsR_beside {w w' : World} {b1 b2 : Nat} {t : TypeId} {s : Nat} {D : Nat → Prop} {A A' A3 : Option Addr} {n c n' c' : Nat} {xs : List Value} {hs : List HeadP} (h : Own w b1 t s A n c xs) (ht : t ≠ 45) (h' : OwnHeadsR w b2 (fun b => D b ∧ some b ≠ blk A) A' n' c' hs) (hg : w.grownBy w' (blk A))
    (hbk : blk A3 = blk A ∨ blk A3 = some w.heap.size) : OwnHeadsR w' b2 (fun b => D b ∧ some b ≠ blk A3) A' n' c' hs := by
  obtain ⟨vs, h1, h2, h3⟩ := h'
  exact ⟨vs, own_keep h1 (keep_blk hg) (own_apart6 h h1 ht), h2, fun k hk' => ((((h3 k hk').imp (E := fun b => ((D b ∧ some b ≠ blk A3) ∧ some b ≠ blk A') ∧ some b ≠ blk A) fun b hb hd => ⟨⟨⟨hd.1.1, ne_blk hbk hb hd.1.2⟩, hd.2⟩, hd.1.2⟩).keep (keep_blk hg) fun b _ hd => hd.2)).imp fun b _ hd => hd.1⟩
/-- heads and records that a call makes. -/
structure PairR (w : World) (base : Nat) (A : Option Addr) (n c : Nat) (hs : List HeadP) (A' : Option Addr) (n' c' : Nat) (rs : List RecP) : Prop where
  heads : OwnHeadsR w base (fun b => base ≤ b ∧ some b ≠ blk A') A n c hs
  recs : OwnRefs w base (fun b => base ≤ b ∧ some b ≠ blk A) A' n' c' rs
section
variable {w w' w2 : World} {base : Nat} {A A' : Option Addr} {n c n' c' : Nat} {hs : List HeadP} {rs : List RecP}
theorem PairR.nil (w : World) (base : Nat) : PairR w base none 0 0 [] none 0 0 [] := ⟨OwnHeadsR.nil _ _ _, OwnRefs.nil _ _ _⟩
theorem PairR.new (h : PairR w base A n c hs A' n' c' rs) (hk : New w w') : PairR w' base A n c hs A' n' c' rs := ⟨h.heads.new hk, h.recs.new hk⟩
theorem PairR.ret (h : PairR w base A n c hs A' n' c' rs) : OwnHeadsR w base (fun b => base ≤ b) A n c hs ∧ OwnRefs w base (fun b => base ≤ b) A' n' c' rs := ⟨h.heads.imp fun _ _ hd => hd.1, h.recs.imp fun _ hd => hd.1⟩
/-- behind one head more. -/
theorem PairR.head (h : PairR w base A n c hs A' n' c' rs) {A3 : Option Addr} {n3 c3 : Nat} {hs3 : List HeadP} (h3 : OwnHeadsR w' base (fun b => base ≤ b ∧ some b ≠ blk A') A3 n3 c3 hs3) (hg : w.grownBy w' (blk A)) (hbk : blk A3 = blk A ∨ blk A3 = some w.heap.size) : PairR w' base A3 n3 c3 hs3 A' n' c' rs := by
  refine ⟨h3, ?_⟩
  obtain ⟨_, h1, _⟩ := h.heads
  exact refs_beside h1 (by decide) h.recs hg hbk
/-- behind records more. -/
theorem PairR.more (h : PairR w base A n c hs A' n' c' rs) {A3 : Option Addr} {n3 c3 : Nat} {rs3 : List RecP} (h3 : OwnRefs w' base (fun b => base ≤ b ∧ some b ≠ blk A) A3 n3 c3 rs3) (hg : w.grownBy w' (blk A')) (hbk : blk A3 = blk A' ∨ blk A3 = some w.heap.size) : PairR w' base A n c hs A3 n3 c3 rs3 := by
  refine ⟨?_, h3⟩
  obtain ⟨_, h1, _⟩ := h.recs
  exact headsR_beside h1 (by decide) h.heads hg hbk
/-- records that were read behind it stay where its heads grow. -/
theorem PairR.read (h : PairR w base A n c hs A' n' c' rs) {w0 : World} (hlt : ∀ k, blk A = some k → k < w0.heap.size) {A2 : Option Addr} {n2 c2 : Nat} {ls : List RecP} (h2 : OwnRefs w w0.heap.size (fun b => w0.heap.size ≤ b) A2 n2 c2 ls) {A3 : Option Addr} (hg : w.grownBy w' (blk A)) (hbk : blk A3 = blk A ∨ blk A3 = some w.heap.size) :
    OwnRefs w' w0.heap.size (fun b => w0.heap.size ≤ b ∧ some b ≠ blk A3) A2 n2 c2 ls := by
  obtain ⟨_, h1, _⟩ := h.heads
  exact refs_beside h1 (by decide) (h2.imp fun b hd => ⟨hd, fun e => by have := hlt b e.symm; omega⟩) hg hbk
end
/-- heads, records and a refusal, handed back. -/
def WalkRetR (d : List HeadP × List RecP × Int) (w : World) (e : Ending) (w' : World) : Prop :=
  (∃ A1 c1 A2 c2, e = .returned (.tuple #[.slice A1 d.1.length c1, .slice A2 d.2.1.length c2, .int .i64 d.2.2]) ∧ OwnHeadsR w' w.heap.size (fun b => w.heap.size ≤ b) A1 d.1.length c1 d.1 ∧ OwnRefs w' w.heap.size (fun b => w.heap.size ≤ b) A2 d.2.1.length c2 d.2.1) ∧ New w w'
end Go.Proofs.YtpbbfbgmpidgnaaGreatDoor
/-
  PROVED HERE: what seal.Walk answers; conditions: lengths that a slice may have, at most a million images.
-/
namespace Go.Proofs.YtpbbfbgmpidgnaaGreatDoor
open Go.RowKit

set_option maxRecDepth 100000 in
set_option maxHeartbeats 2000000 in
theorem walk_any (D D2 : Nat → Prop) (A A2 : Option Addr) (n c n2 c2 : Nat) (id : List UInt8) (ls : List (List UInt8)) (w : World) (hB : Bs w D A n id) (hc : n ≤ c) (hn : n ≤ 1099511620000) (hI : Imgs w D2 A2 n2 ls) (hn2 : n2 ≤ 1000000) :
    Calls Tryz.prog 25 #[.slice A n c, .slice A2 n2 c2] w (WalkRet (walkOf id ls) w) := by
  have HL := Lib.hid hI.len
  have HI := Lib.hid hI
  have HB := Lib.hid hB
  clear hI hB
  go_enter Tryz.func25, Tryz.ntmps25
  go_wp2_with fail
  go_loopw [7, 8, 16] (fun s7 s8 i wx => ∃ (k m : Nat) (A' A'' : Option Addr) (c' c'' : Nat) (hs : List HeadP) (rs : List RecP), k ≤ n2 ∧ i = .int .i64 (k : Int) ∧ s7 = .slice A' k c' ∧ s8 = .slice A'' m c'' ∧ m ≤ 942 * k ∧ Pair wx w.heap.size A' k c' hs A'' m c'' rs ∧ New w wx ∧
    walkIn ls = (walkIn (ls.drop k)).map fun p => (hs ++ p.1, rs ++ p.2)) (fun _ _ i _ => n2 - (intOf i).toNat)
  case atStart => exact ⟨0, 0, none, none, 0, 0, [], [], Nat.zero_le _, rfl, rfl, rfl, Nat.zero_le _, Pair.nil _ _, New.refl _, by rw [List.drop_zero]; cases h : walkIn ls <;> simp ⟩
  case round =>
    obtain ⟨k, m, A', A'', c', c'', hs, rs, hk, rfl, rfl, rfl, hm, hpr, hK, hgo⟩ := hrel
    have HP := Lib.hid hpr
    have HG := Lib.hid hgo
    have HK := Lib.hid hK
    clear hpr hgo hK
    by_cases hlt : k < n2
    · have hkl : k < ls.length := by have := HL.out; omega
      obtain ⟨b, off, I, ci, rfl, _, u0, hci, hci9, hbs⟩ := (HI.out.new HK.out).at_ hkl
      have HW := Lib.hid (walk_more hkl HG.out)
      have HRD := Lib.hid (read_any D2 I ls[k].length ci ls[k] wr hbs hci hci9)
      have hsm := (segRead_small ls[k]).2.2
      have hfi := read_first ls[k]
      clear hbs
      generalize segRead ls[k] = d at *
      obtain ⟨h, rr, why⟩ := d
      dsimp only at hsm hfi HW
      generalize ls[k].length = il at *
      go_wp2_with fail
      refine HRD.out.mono ?_
      rintro e w2 ⟨⟨P1, p1, P2, p2, A3, c3, rfl, hp1, hp2, hb1, hb2, ho3⟩, hK2⟩
      dsimp only at hp1 hp2 hb1 hb2 ho3
      have HK2 := Lib.hid hK2
      clear hK2 HRD
      by_cases hy : why = 0
      · subst hy
        have HM1 := Lib.hid (HW.out.2 rfl)
        clear HW HG
        have hge : w.heap.size ≤ wr.heap.size := HK.out.size
        have hP0 := HP.out.new HK2.out
        have HP2 := Lib.hid hP0
        have hltA : ∀ k, blk A' = some k → k < wr.heap.size := fun k hk => (HP.out.heads.lt k hk).2
        have hltR : ∀ k, blk A'' = some k → k < wr.heap.size := fun k hk => (HP.out.recs.lt k hk).2
        have hy1 : Bs w2 (fun b => (w.heap.size ≤ b ∧ some b ≠ blk A'') ∧ some b ≠ blk A') P1 h.prev.length h.prev := Row.imp hb1 (fun b _ hb => ⟨⟨Nat.le_trans hge hb, fun e => by have := hltR b e.symm; omega⟩, fun e => by have := hltA b e.symm; omega⟩)
        have hy2 : Bs w2 (fun b => (w.heap.size ≤ b ∧ some b ≠ blk A'') ∧ some b ≠ blk A') P2 h.root.length h.root := Row.imp hb2 (fun b _ hb => ⟨⟨Nat.le_trans hge hb, fun e => by have := hltR b e.symm; omega⟩, fun e => by have := hltA b e.symm; omega⟩)
        have HA := Lib.hid hltA
        have HR := Lib.hid hltR
        have HY := Lib.hid (And.intro hy1 hy2)
        have HO3 := Lib.hid ho3
        have HF := Lib.hid hfi
        have HKK := Lib.hid (HK.out.new HK2.out)
        have hbd : k + 1 ≤ 1099511627776 := by omega
        have hbd2 : m + rr.length ≤ 1099511627776 := by omega
        clear hy1 hy2 hb1 hb2 ho3 hltA hltR hP0 hfi
        have hN : New w2 ((w2.alloc (.cells #[.int .i64 h.index, .int .u64 h.first, .int .i64 h.count, .int .i64 h.bytes, .slice P1 h.prev.length p1, .slice P2 h.root.length p2] 36)).alloc (.cells #[.int .i64 h.index, .int .u64 h.first, .int .i64 h.count, .int .i64 h.bytes, .slice P1 h.prev.length p1, .slice P2 h.root.length p2] 36)) := ((New.refl w2).alloc _).alloc _
        have hrow := Row.made (w2.alloc (.cells #[.int .i64 h.index, .int .u64 h.first, .int .i64 h.count, .int .i64 h.bytes, .slice P1 h.prev.length p1, .slice P2 h.root.length p2] 36)) 36 #[.int .i64 h.index, .int .u64 h.first, .int .i64 h.count, .int .i64 h.bytes, .slice P1 h.prev.length p1, .slice P2 h.root.length p2] 1 6 rfl
        rw [show (w2.alloc (.cells #[.int .i64 h.index, .int .u64 h.first, .int .i64 h.count, .int .i64 h.bytes, .slice P1 h.prev.length p1, .slice P2 h.root.length p2] 36)).heap.size = w2.heap.size + 1 from by simp] at hrow
        have HPA := Lib.hid (HP2.out.new hN)
        have HOA := Lib.hid (HO3.out.new hN)
        have hya1 := HY.out.1.new hN
        have hya2 := HY.out.2.new hN
        have HNA := Lib.hid (HKK.out.new hN)
        have hsA : w.heap.size ≤ ((w2.alloc (.cells #[.int .i64 h.index, .int .u64 h.first, .int .i64 h.count, .int .i64 h.bytes, .slice P1 h.prev.length p1, .slice P2 h.root.length p2] 36)).alloc (.cells #[.int .i64 h.index, .int .u64 h.first, .int .i64 h.count, .int .i64 h.bytes, .slice P1 h.prev.length p1, .slice P2 h.root.length p2] 36)).heap.size := HNA.out.size
        have hf0 := HF.out.1
        have hf1 := HF.out.2
        clear hN HP2 HY HO3 HKK HP
        go_wp2_with (first
          | (at_builtin; refine app_heads _ rfl _ _ rfl w.heap.size (fun b => w.heap.size ≤ b ∧ some b ≠ blk A'') A' k c' hs rfl HPA.out.heads _ _ 1 P1 P2 p1 p2 h rfl hrow hya1 hya2 hp1 hp2 hf0 hf1 hbd hsA ?_; intro A4 c4 w4 hown4 hg4 hbk4; have HP4 := Lib.hid (HPA.out.head hown4 hg4 hbk4); have HR4 := Lib.hid (HPA.out.read HA.out HOA.out hg4 hbk4); have HN4 := Lib.hid (HNA.out.grown hg4 (fun j hj _ => (HPA.out.heads.lt j hj).1)); have hs4 := HN4.out.size; clear hown4 hg4 hbk4)
          | (at_builtin; refine app_recsM _ rfl _ _ rfl w.heap.size (fun b => w.heap.size ≤ b ∧ some b ≠ blk A4) A'' m c'' rs rfl HP4.out.recs wr.heap.size (fun b => wr.heap.size ≤ b ∧ some b ≠ blk A4) A3 rr.length c3 rr rfl HR4.out (fun b hb => ⟨⟨Nat.le_trans hge hb.1, hb.2⟩, fun e => by have := HR.out b e.symm; omega⟩) hbd2 hs4 ?_; intro A5 c5 w5 hown5 hg5 hbk5; have HP5 := Lib.hid (HP4.out.more hown5 hg5 hbk5); have HN5 := Lib.hid (HN4.out.grown hg5 (fun j hj _ => (HP4.out.recs.lt j hj).1)); clear hown5 hg5 hbk5))
        go_roundw
        case rel => exact ⟨k + 1, m + rr.length, A4, A5, c4, c5, _, _, by omega, by go_num, rfl, rfl, by omega, HP5.out, HN5.out, HM1.out⟩
        case measure => simp [intOf]; omega
      · have hy' : (why != 0) = true := by simpa using hy
        have HM1 := Lib.hid (HW.out.1 hy)
        go_wp2_with fail
        refine bodyPost_ret (v := .tuple #[.slice none 0 0, .slice none 0 0, .int .i64 40]) (by simp [results, Tryz.results25, go_sem]) rfl ?_
        rw [show walkOf id ls = ([], [], 40) from by unfold walkOf; rw [HM1.out]]
        exact ⟨⟨none, 0, none, 0, rfl, OwnHeads.nil _ _ _, OwnRecs.nil _ _ _⟩, (HK.out.new HK2.out).alloc _⟩
    · obtain rfl : k = n2 := by omega
      have HM1 := Lib.hid (walk_done HL.out HG.out)
      have HLK := Lib.hid (links_any D _ A A' n c k c' id hs wr (HB.out.new HK.out) hc hn HP.out.heads.heads (by omega))
      go_wp2_with fail
      refine HLK.out.mono ?_
      rintro e w2 ⟨rfl, hK2⟩
      have hll : hs.length = k := HP.out.heads.len
      by_cases hl : linksOf id hs < hs.length
      · have hl' : ((linksOf id hs : Nat) : Int) < (k : Int) := by omega
        go_wp2_with fail
        refine bodyPost_ret (v := .tuple #[.slice none 0 0, .slice none 0 0, .int .i64 40]) (by simp [results, Tryz.results25, go_sem]) rfl ?_
        rw [show walkOf id ls = ([], [], 40) from by unfold walkOf; rw [HM1.out]; dsimp only; rw [if_pos hl]]
        exact ⟨⟨none, 0, none, 0, rfl, OwnHeads.nil _ _ _, OwnRecs.nil _ _ _⟩, HK.out.new hK2⟩
      · have hl' : ¬ ((linksOf id hs : Nat) : Int) < (k : Int) := by omega
        go_wp2_with fail
        refine bodyPost_ret (v := .tuple #[.slice A' k c', .slice A'' m c'', .int .i64 0]) (by simp [results, Tryz.results25, go_sem]) rfl ?_
        rw [show walkOf id ls = (hs, rs, 0) from by unfold walkOf; rw [HM1.out]; dsimp only; rw [if_neg hl]]
        have hp := (HP.out.new hK2).ret
        have h1 := hp.1.len
        have h2 := hp.2.len
        refine ⟨⟨A', c', A'', c'', ?_, ?_, ?_⟩, HK.out.new hK2⟩
        · dsimp only; rw [h1, h2]
        · dsimp only; rw [h1]; exact hp.1
        · dsimp only; rw [h2]; exact hp.2
end Go.Proofs.YtpbbfbgmpidgnaaGreatDoor
/-
  PROVED HERE: what permafrostref18.Walk answers; conditions: lengths that a slice may have, at most a million images.
-/
namespace Go.Proofs.YtpbbfbgmpidgnaaGreatDoor
open Go.RowKit

set_option maxRecDepth 100000 in
set_option maxHeartbeats 2000000 in
theorem walk18_any (D D2 : Nat → Prop) (A A2 : Option Addr) (n c n2 c2 : Nat) (id : List UInt8) (ls : List (List UInt8)) (w : World) (hB : Bs w D A n id) (hn : n ≤ 1099511620000) (hI : Imgs w D2 A2 n2 ls) (hn2 : n2 ≤ 1000000) :
    Calls Tryz.prog 19 #[.slice A n c, .slice A2 n2 c2] w (WalkRetR (walkOf id ls) w) := by
  have HL := Lib.hid hI.len
  have HI := Lib.hid hI
  have HB := Lib.hid hB
  clear hI hB
  go_enter Tryz.func19, Tryz.ntmps19
  go_wp2_with fail
  go_loopw [7, 8, 9] (fun s7 s8 i wx => ∃ (k m : Nat) (A' A'' : Option Addr) (c' c'' : Nat) (hs : List HeadP) (rs : List RecP), k ≤ n2 ∧ i = .int .i64 (k : Int) ∧ s7 = .slice A' k c' ∧ s8 = .slice A'' m c'' ∧ m ≤ 942 * k ∧ PairR wx w.heap.size A' k c' hs A'' m c'' rs ∧ New w wx ∧
    walkIn ls = (walkIn (ls.drop k)).map fun p => (hs ++ p.1, rs ++ p.2)) (fun _ _ i _ => n2 - (intOf i).toNat)
  case atStart => exact ⟨0, 0, none, none, 0, 0, [], [], Nat.zero_le _, rfl, rfl, rfl, Nat.zero_le _, PairR.nil _ _, New.refl _, by rw [List.drop_zero]; cases h : walkIn ls <;> simp ⟩
  case round =>
    obtain ⟨k, m, A', A'', c', c'', hs, rs, hk, rfl, rfl, rfl, hm, hpr, hK, hgo⟩ := hrel
    have HP := Lib.hid hpr
    have HG := Lib.hid hgo
    have HK := Lib.hid hK
    clear hpr hgo hK
    by_cases hlt : k < n2
    · have hkl : k < ls.length := by have := HL.out; omega
      obtain ⟨b, off, I, ci, rfl, _, u0, hci, hci9, hbs⟩ := (HI.out.new HK.out).at_ hkl
      have HW := Lib.hid (walk_more hkl HG.out)
      have HRD := Lib.hid (read17_any D2 I ls[k].length ci ls[k] wr hbs hci hci9)
      have hsm := (segRead_small ls[k]).2.2
      have hfi := read_first ls[k]
      clear hbs
      generalize segRead ls[k] = d at *
      obtain ⟨h, rr, why⟩ := d
      dsimp only at hsm hfi HW
      generalize ls[k].length = il at *
      go_wp2_with fail
      refine HRD.out.mono ?_
      rintro e w2 ⟨⟨P1, p1, P2, p2, A3, c3, rfl, hp1, hp2, hb1, hb2, ho3⟩, hK2⟩
      dsimp only at hp1 hp2 hb1 hb2 ho3
      have HK2 := Lib.hid hK2
      clear hK2 HRD
      by_cases hy : why = 0
      · subst hy
        have HM1 := Lib.hid (HW.out.2 rfl)
        clear HW HG
        have hge : w.heap.size ≤ wr.heap.size := HK.out.size
        have hP0 := HP.out.new HK2.out
        have HP2 := Lib.hid hP0
        have hltA : ∀ k, blk A' = some k → k < wr.heap.size := fun k hk => (HP.out.heads.lt k hk).2
        have hltR : ∀ k, blk A'' = some k → k < wr.heap.size := fun k hk => (HP.out.recs.lt k hk).2
        have hy1 : Bs w2 (fun b => (w.heap.size ≤ b ∧ some b ≠ blk A'') ∧ some b ≠ blk A') P1 h.prev.length h.prev := Row.imp hb1 (fun b _ hb => ⟨⟨Nat.le_trans hge hb, fun e => by have := hltR b e.symm; omega⟩, fun e => by have := hltA b e.symm; omega⟩)
        have hy2 : Bs w2 (fun b => (w.heap.size ≤ b ∧ some b ≠ blk A'') ∧ some b ≠ blk A') P2 h.root.length h.root := Row.imp hb2 (fun b _ hb => ⟨⟨Nat.le_trans hge hb, fun e => by have := hltR b e.symm; omega⟩, fun e => by have := hltA b e.symm; omega⟩)
        have HA := Lib.hid hltA
        have HR := Lib.hid hltR
        have HY := Lib.hid (And.intro hy1 hy2)
        have HO3 := Lib.hid ho3
        have HF := Lib.hid hfi
        have HKK := Lib.hid (HK.out.new HK2.out)
        have hbd : k + 1 ≤ 1099511627776 := by omega
        have hbd2 : m + rr.length ≤ 1099511627776 := by omega
        clear hy1 hy2 hb1 hb2 ho3 hltA hltR hP0 hfi
        have hN : New w2 ((w2.alloc (.cells #[.int .i64 h.index, .int .u64 h.first, .int .i64 h.count, .int .i64 h.bytes, .slice P1 h.prev.length p1, .slice P2 h.root.length p2] 45)).alloc (.cells #[.int .i64 h.index, .int .u64 h.first, .int .i64 h.count, .int .i64 h.bytes, .slice P1 h.prev.length p1, .slice P2 h.root.length p2] 45)) := ((New.refl w2).alloc _).alloc _
        have hrow := Row.made (w2.alloc (.cells #[.int .i64 h.index, .int .u64 h.first, .int .i64 h.count, .int .i64 h.bytes, .slice P1 h.prev.length p1, .slice P2 h.root.length p2] 45)) 45 #[.int .i64 h.index, .int .u64 h.first, .int .i64 h.count, .int .i64 h.bytes, .slice P1 h.prev.length p1, .slice P2 h.root.length p2] 1 6 rfl
        rw [show (w2.alloc (.cells #[.int .i64 h.index, .int .u64 h.first, .int .i64 h.count, .int .i64 h.bytes, .slice P1 h.prev.length p1, .slice P2 h.root.length p2] 45)).heap.size = w2.heap.size + 1 from by simp] at hrow
        have HPA := Lib.hid (HP2.out.new hN)
        have HOA := Lib.hid (HO3.out.new hN)
        have hya1 := HY.out.1.new hN
        have hya2 := HY.out.2.new hN
        have HNA := Lib.hid (HKK.out.new hN)
        have hsA : w.heap.size ≤ ((w2.alloc (.cells #[.int .i64 h.index, .int .u64 h.first, .int .i64 h.count, .int .i64 h.bytes, .slice P1 h.prev.length p1, .slice P2 h.root.length p2] 45)).alloc (.cells #[.int .i64 h.index, .int .u64 h.first, .int .i64 h.count, .int .i64 h.bytes, .slice P1 h.prev.length p1, .slice P2 h.root.length p2] 45)).heap.size := HNA.out.size
        have hf0 := HF.out.1
        have hf1 := HF.out.2
        clear hN HP2 HY HO3 HKK HP
        go_wp2_with (first
          | (at_builtin; refine app_headsR _ rfl _ _ rfl w.heap.size (fun b => w.heap.size ≤ b ∧ some b ≠ blk A'') A' k c' hs rfl HPA.out.heads _ _ 1 P1 P2 p1 p2 h rfl hrow hya1 hya2 hp1 hp2 hf0 hf1 hbd hsA ?_; intro A4 c4 w4 hown4 hg4 hbk4; have HP4 := Lib.hid (HPA.out.head hown4 hg4 hbk4); have HR4 := Lib.hid (HPA.out.read HA.out HOA.out hg4 hbk4); have HN4 := Lib.hid (HNA.out.grown hg4 (fun j hj _ => (HPA.out.heads.lt j hj).1)); have hs4 := HN4.out.size; clear hown4 hg4 hbk4)
          | (at_builtin; refine app_recsMR _ rfl _ _ rfl w.heap.size (fun b => w.heap.size ≤ b ∧ some b ≠ blk A4) A'' m c'' rs rfl HP4.out.recs wr.heap.size (fun b => wr.heap.size ≤ b ∧ some b ≠ blk A4) A3 rr.length c3 rr rfl HR4.out (fun b hb => ⟨⟨Nat.le_trans hge hb.1, hb.2⟩, fun e => by have := HR.out b e.symm; omega⟩) hbd2 hs4 ?_; intro A5 c5 w5 hown5 hg5 hbk5; have HP5 := Lib.hid (HP4.out.more hown5 hg5 hbk5); have HN5 := Lib.hid (HN4.out.grown hg5 (fun j hj _ => (HP4.out.recs.lt j hj).1)); clear hown5 hg5 hbk5))
        go_roundw
        case rel => exact ⟨k + 1, m + rr.length, A4, A5, c4, c5, _, _, by omega, by go_num, rfl, rfl, by omega, HP5.out, HN5.out, HM1.out⟩
        case measure => simp [intOf]; omega
      · have hy' : (why != 0) = true := by simpa using hy
        have HM1 := Lib.hid (HW.out.1 hy)
        go_wp2_with fail
        refine bodyPost_ret (v := .tuple #[.slice none 0 0, .slice none 0 0, .int .i64 40]) (by simp [results, Tryz.results19, go_sem]) rfl ?_
        rw [show walkOf id ls = ([], [], 40) from by unfold walkOf; rw [HM1.out]]
        exact ⟨⟨none, 0, none, 0, rfl, OwnHeadsR.nil _ _ _, OwnRefs.nil _ _ _⟩, (HK.out.new HK2.out).alloc _⟩
    · obtain rfl : k = n2 := by omega
      have HM1 := Lib.hid (walk_done HL.out HG.out)
      have HLK := Lib.hid (links18_any D _ A A' n c k c' id hs wr (HB.out.new HK.out) hn HP.out.heads.heads (by omega))
      go_wp2_with fail
      refine HLK.out.mono ?_
      rintro e w2 ⟨rfl, hK2⟩
      have hll : hs.length = k := HP.out.heads.len
      by_cases hl : linksOf id hs < hs.length
      · have hl' : ((linksOf id hs : Nat) : Int) < (k : Int) := by omega
        go_wp2_with fail
        refine bodyPost_ret (v := .tuple #[.slice none 0 0, .slice none 0 0, .int .i64 40]) (by simp [results, Tryz.results19, go_sem]) rfl ?_
        rw [show walkOf id ls = ([], [], 40) from by unfold walkOf; rw [HM1.out]; dsimp only; rw [if_pos hl]]
        exact ⟨⟨none, 0, none, 0, rfl, OwnHeadsR.nil _ _ _, OwnRefs.nil _ _ _⟩, HK.out.new hK2⟩
      · have hl' : ¬ ((linksOf id hs : Nat) : Int) < (k : Int) := by omega
        go_wp2_with fail
        refine bodyPost_ret (v := .tuple #[.slice A' k c', .slice A'' m c'', .int .i64 0]) (by simp [results, Tryz.results19, go_sem]) rfl ?_
        rw [show walkOf id ls = (hs, rs, 0) from by unfold walkOf; rw [HM1.out]; dsimp only; rw [if_neg hl]]
        have hp := (HP.out.new hK2).ret
        have h1 := hp.1.len
        have h2 := hp.2.len
        refine ⟨⟨A', c', A'', c'', ?_, ?_, ?_⟩, HK.out.new hK2⟩
        · dsimp only; rw [h1, h2]
        · dsimp only; rw [h1]; exact hp.1
        · dsimp only; rw [h2]; exact hp.2
end Go.Proofs.YtpbbfbgmpidgnaaGreatDoor
/-
  PROVED HERE: how a record of a row of a call's own reads; no condition.
-/
namespace Go.Proofs.YtpbbfbgmpidgnaaGreatDoor
open Go.RowKit

theorem OwnRecs.at3 {w : World} {base : Nat} {D : Nat → Prop} {A : Option Addr} {n c : Nat} {rs : List RecP} (h : OwnRecs w base D A n c rs) {k : Nat} (hk : k < rs.length) :
    ∃ b off A' c', A = some ⟨b, off, none⟩ ∧ w.cell? ⟨b, off + k * 3, none⟩ = some (.int .i64 rs[k].kind) ∧ w.cell? ⟨b, off + k * 3 + 1, none⟩ = some (.int .u64 rs[k].seq) ∧
      w.cell? ⟨b, off + k * 3 + 2, none⟩ = some (.slice A' rs[k].body.length c') ∧ Bs w (fun b => D b ∧ some b ≠ blk A) A' rs[k].body.length rs[k].body := by
  obtain ⟨vs, h1, h2, h3⟩ := h
  obtain ⟨A', c', e1, e2, e3, hc, hb, _⟩ := h3 k hk
  obtain ⟨b, off, hA, _, _, hcell⟩ := (Row.of_own h1).2 (by omega)
  refine ⟨b, off, A', c', hA, hcell _ _ e1, ?_, ?_, hb⟩
  · rw [Nat.add_assoc]; exact hcell _ _ e2
  · rw [Nat.add_assoc]; exact hcell _ _ e3
theorem OwnRefs.at3 {w : World} {base : Nat} {D : Nat → Prop} {A : Option Addr} {n c : Nat} {rs : List RecP} (h : OwnRefs w base D A n c rs) {k : Nat} (hk : k < rs.length) :
    ∃ b off A' c', A = some ⟨b, off, none⟩ ∧ w.cell? ⟨b, off + k * 3, none⟩ = some (.int .i64 rs[k].kind) ∧ w.cell? ⟨b, off + k * 3 + 1, none⟩ = some (.int .u64 rs[k].seq) ∧
      w.cell? ⟨b, off + k * 3 + 2, none⟩ = some (.slice A' rs[k].body.length c') ∧ Bs w (fun b => D b ∧ some b ≠ blk A) A' rs[k].body.length rs[k].body := by
  obtain ⟨vs, h1, h2, h3⟩ := h
  obtain ⟨A', c', e1, e2, e3, hc, hb, _⟩ := h3 k hk
  obtain ⟨b, off, hA, _, _, hcell⟩ := (Row.of_own h1).2 (by omega)
  refine ⟨b, off, A', c', hA, hcell _ _ e1, ?_, ?_, hb⟩
  · rw [Nat.add_assoc]; exact hcell _ _ e2
  · rw [Nat.add_assoc]; exact hcell _ _ e3
end Go.Proofs.YtpbbfbgmpidgnaaGreatDoor
