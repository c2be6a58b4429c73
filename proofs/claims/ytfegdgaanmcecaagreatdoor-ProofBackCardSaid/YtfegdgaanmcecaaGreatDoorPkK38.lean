/-
  PROVED HERE: texts that belong together, one behind the other; what each proves, and under which conditions, its own opening remark says: ProofLaw, Index, Clone, ChainFollow, MadeLaw, Elt.
-/
import Derived.Test.YtfegdgaanmcecaaGreatDoorPkK09
import Derived.Test.YtfegdgaanmcecaaGreatDoorPkK15
import Derived.Test.YtfegdgaanmcecaaGreatDoorPkK27
import Derived.Test.YtfegdgaanmcecaaGreatDoorPkK30
import Derived.Test.YtfegdgaanmcecaaGreatDoorPkK31
import Derived.Test.YtfegdgaanmcecaaGreatDoorPkK34
import Derived.Test.YtfegdgaanmcecaaGreatDoorPkK36
/-
  PROVED HERE: plain law: the path of a leaf climbs to the root; no condition.
-/
namespace Go.Proofs.YtfegdgaanmcecaaGreatDoor
open Go.RowKit

/-- a leaf's path comes to the root. -/
theorem climb_path (n : Nat) : ∀ (ls : List (List UInt8)) (i : Nat), ls.length = n → i < n → climbOf (shaSum (0 :: ls.getD i [])) i n (pathOf ls i) = (rootOf ls, true) := by
  induction n using Nat.strongRecOn with
  | _ n ih =>
    intro ls i hl hi
    by_cases h1 : n = 1
    · subst h1
      obtain rfl : i = 0 := by omega
      rw [pathOf_few ls 0 (by omega), climbOf_one]
      match ls, hl with
      | [x], _ => rfl
    · have h2 : 2 ≤ n := by omega
      have hp := partN_lt h2
      have hq := partN_pos n
      have hR := rootOf_more ls (by omega)
      by_cases hik : i < partN n
      · have hP := pathOf_left ls i (by omega) (by rw [hl]; exact hik)
        have IH := ih (partN n) hp (ls.take (partN n)) i (by rw [List.length_take]; omega) hik
        rw [hl] at hP hR
        have hg : (ls.take (partN n)).getD i [] = ls.getD i [] := by rw [List.getD_eq_getElem?_getD, List.getD_eq_getElem?_getD, List.getElem?_take, if_pos hik]
        rw [hg] at IH
        generalize hps : pathOf (ls.take (partN n)) i = ps at *
        rw [hP, climbOf_left _ i n ps.length _ h1 (by rw [List.length_append]; rfl) hik, List.take_left, IH]
        have hd : (ps ++ [rootOf (ls.drop (partN n))]).getD ps.length [] = rootOf (ls.drop (partN n)) := by rw [List.getD_eq_getElem?_getD, List.getElem?_append_right (Nat.le_refl _), Nat.sub_self]; rfl
        rw [hd, hR]
      · have hP := pathOf_right ls i (by omega) (by rw [hl]; exact hik)
        have IH := ih (n - partN n) (by omega) (ls.drop (partN n)) (i - partN n) (by rw [List.length_drop]; omega) (by omega)
        rw [hl] at hP hR
        have hg : (ls.drop (partN n)).getD (i - partN n) [] = ls.getD i [] := by rw [List.getD_eq_getElem?_getD, List.getD_eq_getElem?_getD, List.getElem?_drop, show partN n + (i - partN n) = i from by omega]
        rw [hg] at IH
        generalize hps : pathOf (ls.drop (partN n)) (i - partN n) = ps at *
        rw [hP, climbOf_right _ i n ps.length _ h1 (by rw [List.length_append]; rfl) hik, List.take_left, IH]
        have hd : (ps ++ [rootOf (ls.take (partN n))]).getD ps.length [] = rootOf (ls.take (partN n)) := by rw [List.getD_eq_getElem?_getD, List.getElem?_append_right (Nat.le_refl _), Nat.sub_self]; rfl
        rw [hd, hR]
/-- so it is checked. -/
theorem check_path (ls : List (List UInt8)) (i : Nat) (h : i < ls.length) : checkOf (rootOf ls) (ls.getD i []) i ls.length (pathOf ls i) = true := by
  rw [checkOf_in _ _ _ _ _ h, climb_path ls.length ls i rfl h]
  simp
end Go.Proofs.YtfegdgaanmcecaaGreatDoor
/-
  PROVED HERE: what proof.Make's function value and slices.IndexFunc answer; condition: lengths that a slice may have.
-/
namespace Go.Proofs.YtfegdgaanmcecaaGreatDoor
open Go.RowKit

theorem seqis_any (g : Nat) (s : Int) (r : RecP) (A : Option Addr) (c : Nat) (w : World) (hs : w.cell? ⟨g, 0, none⟩ = some (.int .u64 s)) :
    Calls Tryz.prog 34 #[.agg #[.int .i64 r.kind, .int .u64 r.seq, .slice A r.body.length c], .pointer (some ⟨g, 0, none⟩)] w fun e w' => e = .returned (.bool (r.seq == s)) ∧ New w w' := by
  have hN := (New.refl w).alloc (.cells #[.int .i64 r.kind, .int .u64 r.seq, .slice A r.body.length c] 42)
  have x1 := cellOf (heap_alloc_new w (.cells #[.int .i64 r.kind, .int .u64 r.seq, .slice A r.body.length c] 42)) (k := 1) rfl
  have x2 := hN.cell_some hs trivial
  have HN := Lib.hid hN
  clear hN
  go_enter Tryz.func34, Tryz.ntmps34
  go_wp2_with fail
  go_ret
  exact ⟨rfl, HN.out⟩
/-- the place of a record with that number; -1: there is none. -/
def seqPlace (rs : List RecP) (s : Int) : Int := match rs.findIdx? (fun r => r.seq == s) with
  | some i => (i : Int)
  | none => -1
set_option maxRecDepth 100000 in
set_option maxHeartbeats 2000000 in
theorem index_any (D : Nat → Prop) (A : Option Addr) (n c g : Nat) (s : Int) (rs : List RecP) (w : World) (hR : Recs w D A n rs) (hn : n ≤ 1000000) (hs : w.cell? ⟨g, 0, none⟩ = some (.int .u64 s)) :
    Calls Tryz.prog 33 #[.slice A n c, .func (Fn.func 34) #[] #[.pointer (some ⟨g, 0, none⟩)]] w fun e w' => e = .returned (.int .i64 (seqPlace rs s)) ∧ New w w' := by
  have HL := Lib.hid hR.len
  have HR := Lib.hid hR
  have HS := Lib.hid hs
  clear hR hs
  go_enter Tryz.func33, Tryz.ntmps33
  go_wp2_with fail
  go_loopw [8] (fun i wx => ∃ k : Nat, k ≤ n ∧ i = .int .i64 (k : Int) ∧ (∀ j (h : j < rs.length), j < k → (rs[j].seq == s) = false) ∧ New w wx) (fun i _ => n - (intOf i).toNat)
  case atStart => exact ⟨0, Nat.zero_le _, rfl, fun j h hj => absurd hj (by omega), New.refl _⟩
  case round =>
    obtain ⟨k, hk, rfl, hno, hK⟩ := hrel
    have HNO := Lib.hid hno
    have HK := Lib.hid hK
    clear hno hK
    by_cases hlt : k < n
    · have hlk : k < rs.length := by have := HL.out; omega
      have HEQ : Hid (rs[k] = rs[k]) := Lib.hid rfl
      have HSI := Lib.hid (fun A' c' => seqis_any g s rs[k] A' c' wr (HK.out.cell_some HS.out trivial))
      have hat := (HR.out.new HK.out).at_ hlk
      have HFI : Hid ((rs[k].seq == s) = true → seqPlace rs s = (k : Int)) := Lib.hid fun h => by
        unfold seqPlace
        rw [List.findIdx?_eq_some_iff_getElem.2 ⟨hlk, h, fun j hj => by simpa using HNO.out j (by omega) hj⟩]
      have HNX : Hid ((rs[k].seq == s) = false → ∀ j (h : j < rs.length), j < k + 1 → (rs[j].seq == s) = false) := Lib.hid fun h j hj hjk => by
        by_cases e : j = k
        · subst e; exact h
        · exact HNO.out j hj (by omega)
      generalize rs[k] = r at *
      obtain ⟨b, off, A', c', rfl, u0, u1, u2, _⟩ := hat
      have HSI := Lib.hid (HSI.out A' c')
      cases he : (r.seq == s)
      · rw [he] at HSI
        have HNX := Lib.hid (HNX.out he)
        clear he HFI
        go_wp2_with fail
        refine HSI.out.mono ?_
        rintro e w' ⟨rfl, k1⟩
        go_wp2_with fail
        go_roundw
        case rel => exact ⟨k + 1, by omega, by go_num, HNX.out, HK.out.new k1⟩
        case measure => simp [intOf]; omega
      · rw [he] at HSI
        have HFI := Lib.hid (HFI.out he)
        clear he HNX
        go_wp2_with fail
        refine HSI.out.mono ?_
        rintro e w' ⟨rfl, k1⟩
        go_wp2_with fail
        go_ret
        exact ⟨by rw [HFI.out]; rfl, HK.out.new k1⟩
    · obtain rfl : k = n := by omega
      have HFI : Hid (seqPlace rs s = -1) := Lib.hid (by
        unfold seqPlace
        rw [List.findIdx?_eq_none_iff.2 fun x hx => by
          obtain ⟨j, hj, rfl⟩ := List.mem_iff_getElem.1 hx
          exact HNO.out j hj (by have := HL.out; omega)])
      go_wp2_with fail
      go_ret
      exact ⟨by rw [HFI.out]; rfl, HK.out⟩
end Go.Proofs.YtfegdgaanmcecaaGreatDoor
/-
  PROVED HERE: what slices.Clone answers at heads that are not nil; condition: fewer than 2^40 heads.
-/
namespace Go.Proofs.YtfegdgaanmcecaaGreatDoor
open Go.RowKit




















end Go.Proofs.YtfegdgaanmcecaaGreatDoor
/-
  PROVED HERE: plain law: the heads of a chain follow one another; condition: at most 1000 segments.
-/
namespace Go.Proofs.YtfegdgaanmcecaaGreatDoor
open Go.RowKit

theorem chain_heads_len (id : List UInt8) (l : List (List (List UInt8))) : ∀ n, (chainTo id l n).heads.length = n
  | 0 => rfl
  | n + 1 => by
    rw [chainTo]
    dsimp only
    rw [List.length_append, chain_heads_len id l n]
    rfl
theorem chain_head_at (id : List UInt8) (l : List (List (List UInt8))) (k : Nat) : ∀ n, k < n → (chainTo id l n).heads[k]? = some (chainHead k (chainTo id l k).next (chainTo id l k).prev (chainRecs (chainTo id l k).next (l.getD k [])))
  | 0, h => absurd h (by omega)
  | n + 1, h => by
    have hl := chain_heads_len id l n
    rw [chainTo]
    dsimp only
    by_cases hk : k < n
    · rw [List.getElem?_append_left (by omega)]
      exact chain_head_at id l k n hk
    · obtain rfl : k = n := by omega
      rw [List.getElem?_append_right (by omega), hl, Nat.sub_self]
      rfl
/-- each head follows the one ahead of it. -/
theorem chain_follows (id : List UInt8) (l : List (List (List UInt8))) {n k : Nat} (hn : n ≤ 1000) (hk : k + 1 < n) {a b : HeadP} (ha : (chainTo id l n).heads[k]? = some a) (hb : (chainTo id l n).heads[k + 1]? = some b) : followOf a b = true := by
  rw [chain_head_at id l k n (by omega)] at ha
  rw [chain_head_at id l (k + 1) n hk] at hb
  injection ha with ha
  injection hb with hb
  have hok := chain_ok id l k (by omega)
  have q0 := hok.next0
  have q1 := hok.next1
  have hr := chainRecs_length (chainTo id l k).next (l.getD k [])
  have e1 : (chainTo id l (k + 1)).next = (chainTo id l k).next + (chainRecs (chainTo id l k).next (l.getD k [])).length := rfl
  have e2 : (chainTo id l (k + 1)).prev = sealOf a := by rw [← ha]; rfl
  have i1 : b.index = ((k + 1 : Nat) : Int) := by rw [← hb]; rfl
  have i2 : b.first = (chainTo id l (k + 1)).next := by rw [← hb]; rfl
  have i3 : b.prev = (chainTo id l (k + 1)).prev := by rw [← hb]; rfl
  have j1 : a.index = (k : Int) := by rw [← ha]; rfl
  have j2 : a.first = (chainTo id l k).next := by rw [← ha]; rfl
  have j3 : a.count = ((chainRecs (chainTo id l k).next (l.getD k [])).length : Int) := by rw [← ha]; rfl
  have w1 : IntKind.i64.wrap ((k : Int) + 1) = (k : Int) + 1 := IntWalk.i64_in _ (by omega)
  unfold followOf
  rw [i1, i2, i3, j1, j2, j3, e1, e2, w1]
  generalize (chainRecs (chainTo id l k).next (l.getD k [])).length = c at *
  generalize (chainTo id l k).next = x at *
  have w2 : IntKind.u64.wrap (c : Int) = (c : Int) := by rw [IntKind.wrap_u64]; omega
  rw [w2]
  have w3 : IntKind.u64.wrap (x + (c : Int)) = x + (c : Int) := by rw [IntKind.wrap_u64]; omega
  rw [w3]
  simp
/-- so the last head of a chain's piece is its last one. -/
theorem lastOf_all : ∀ (hs : List HeadP) (a : HeadP), (∀ k (x y : HeadP), (a :: hs)[k]? = some x → (a :: hs)[k + 1]? = some y → followOf x y = true) → lastOf a hs = some ((a :: hs).getLast (by simp))
  | [], a, _ => rfl
  | b :: hs, a, h => by
    rw [lastOf, h 0 a b rfl rfl, if_pos rfl, lastOf_all hs b (fun k x y hx hy => h (k + 1) x y hx hy)]
    rfl
end Go.Proofs.YtfegdgaanmcecaaGreatDoor
/-
  PROVED HERE: plain law: a proof that is made of a record is checked, and shows that record; no condition.
-/
namespace Go.Proofs.YtfegdgaanmcecaaGreatDoor
open Go.RowKit

/-- the proof that is made of record i under a head. -/
def madeProof (rs : List RecP) (h : HeadP) (i : Nat) (later : List HeadP) : ProofP := ⟨h, (i : Int), (leavesOf rs).getD i [], pathOf (leavesOf rs) i, later⟩
theorem leaf_at {rs : List RecP} {i : Nat} (hi : i < rs.length) (hr : recRight rs[i] = true) : (leavesOf rs).getD i [] = recEnc rs[i] := by
  unfold leavesOf
  rw [List.getD_eq_getElem?_getD, List.getElem?_map, List.getElem?_eq_getElem hi]
  simp [hr]
theorem check_made {h : HeadP} {rs : List RecP} {i : Nat} {later : List HeadP} {hd : List UInt8} {l : HeadP} (hi : i < rs.length) (hr : recRight rs[i] = true) (hs : 0 ≤ rs[i].seq) (hroot : h.root = rootOf (leavesOf rs)) (hcnt : h.count = (rs.length : Int)) (hseq : rs[i].seq = IntKind.u64.wrap (h.first + IntKind.u64.wrap (i : Int))) (hlast : lastOf h later = some l) (hhd : sealOf l = hd) :
    checkProof hd (madeProof rs h i later) = some rs[i] := by
  have hlv : (leavesOf rs).length = rs.length := by unfold leavesOf; rw [List.length_map]
  have hc := check_path (leavesOf rs) i (by omega)
  have hd0 := recDec_enc rs[i] [] hr hs
  rw [List.append_nil] at hd0
  have hln := recEnc_len hr
  unfold checkProof madeProof
  dsimp only
  rw [hroot, hcnt, ← hlv, hc, if_pos rfl, hlast]
  show checkEnd hd _ l = some rs[i]
  unfold checkEnd
  dsimp only
  rw [leaf_at hi hr, hd0, hln, hhd]
  dsimp only
  rw [← hseq]
  simp
end Go.Proofs.YtfegdgaanmcecaaGreatDoor
/-
  PROVED HERE: slices of whatever lies in cells, and rows of such a call's own, with the law of append at them, once for all kinds of elements; no condition; no program is named.
-/
namespace Go.Proofs.YtfegdgaanmcecaaGreatDoor
open Go.RowKit

/-- a kind of element: how many cells it has, and what it is to lie at a place of a row of cells. -/
structure Elt (α : Type) where
  size : Nat
  At : World → (Nat → Prop) → List Value → Nat → α → Prop
  pos : 0 < size
  keep : ∀ {w w' : World} {D E : Nat → Prop} {vs : List Value} {i : Nat} {a : α}, At w D vs i a → Keep E w w' → (∀ b, b < w.heap.size → D b → E b) → At w' D vs i a
  imp : ∀ {w : World} {D E : Nat → Prop} {vs : List Value} {i : Nat} {a : α}, At w D vs i a → (∀ b, b < w.heap.size → D b → E b) → At w E vs i a
  shift : ∀ {w : World} {D : Nat → Prop} {vs us : List Value} {i j : Nat} {a : α}, At w D vs i a → (∀ k, k < size → ∀ u, vs[i + k]? = some u → us[j + k]? = some u) → At w D us j a
  one : ∀ {w : World} {D : Nat → Prop} {vs : List Value} {i : Nat} {a : α}, At w D vs i a → ∀ k, k < size → ∃ u, vs[i + k]? = some u ∧ u.oneCell' = true
section
variable {α : Type} {E : Elt α} {w w' : World} {base base' : Nat} {t : TypeId} {D F : Nat → Prop} {A : Option Addr} {n c : Nat} {ls : List α}
/-- a slice of such. -/
def Sl (E : Elt α) (w : World) (D : Nat → Prop) (A : Option Addr) (n : Nat) (ls : List α) : Prop :=
  ∃ vs : List Value, Row w D A n E.size vs ∧ ls.length = n ∧ ∀ k (h : k < ls.length), E.At w D vs (k * E.size) ls[k]
theorem Sl.len (h : Sl E w D A n ls) : ls.length = n := by obtain ⟨_, _, h, _⟩ := h; exact h
theorem Sl.keep (h : Sl E w D A n ls) (hk : Keep F w w') (hE : ∀ b, b < w.heap.size → D b → F b) : Sl E w' D A n ls := by
  obtain ⟨vs, h1, h2, h3⟩ := h
  exact ⟨vs, h1.keep hk hE, h2, fun k hk' => E.keep (h3 k hk') hk hE⟩
theorem Sl.new (h : Sl E w D A n ls) (hk : New w w') : Sl E w' D A n ls := h.keep hk fun _ _ _ => trivial
theorem Sl.imp (h : Sl E w D A n ls) (hE : ∀ b, b < w.heap.size → D b → F b) : Sl E w F A n ls := by
  obtain ⟨vs, h1, h2, h3⟩ := h
  exact ⟨vs, h1.imp hE, h2, fun k hk => E.imp (h3 k hk) hE⟩
theorem Sl.any (h : Sl E w D A n ls) : Sl E w (fun _ => True) A n ls := h.imp fun _ _ _ => trivial
theorem Sl.old (h : Sl E w D A n ls) : Sl E w (fun b => b < w.heap.size) A n ls := h.imp fun _ hb _ => hb
theorem Sl.nil (E : Elt α) (w : World) (D : Nat → Prop) (A : Option Addr) : Sl E w D A 0 [] := ⟨[], by have := Row.nil w D A E.size; exact this, rfl, fun k hk => absurd hk (by simp)⟩
theorem Sl.cutTo (h : Sl E w D A n ls) {m : Nat} (hm : m ≤ n) : Sl E w D A m (ls.take m) := by
  obtain ⟨vs, h1, h2, h3⟩ := h
  refine ⟨vs.take (m * E.size), h1.cutTo hm, by rw [List.length_take]; omega, fun k hk => ?_⟩
  have hk' : k < m ∧ k < ls.length := by rw [List.length_take] at hk; omega
  rw [List.getElem_take]
  refine E.shift (h3 k hk'.2) fun j hj u hu => ?_
  rw [List.getElem?_take, if_pos]
  · exact hu
  · have := Nat.mul_le_mul_right E.size (show k + 1 ≤ m from hk'.1)
    rw [Nat.add_mul] at this
    omega
theorem Sl.from_ (h : Sl E w D A n ls) {m : Nat} (hm : m ≤ n) : Sl E w D (Option.map (fun x => x.add (m * E.size)) A) (n - m) (ls.drop m) := by
  obtain ⟨vs, h1, h2, h3⟩ := h
  refine ⟨vs.drop (m * E.size), h1.from_ hm, by rw [List.length_drop]; omega, fun k hk => ?_⟩
  rw [List.getElem_drop]
  have hk' : m + k < ls.length := by rw [List.length_drop] at hk; omega
  refine E.shift (h3 (m + k) hk') fun j hj u hu => ?_
  rw [List.getElem?_drop, ← Nat.add_assoc, ← Nat.add_mul]
  exact hu
/-- where an element lies. -/
theorem Sl.at_ (h : Sl E w D A n ls) {k : Nat} (hk : k < ls.length) : ∃ b off us, A = some ⟨b, off, none⟩ ∧ D b ∧ b < w.heap.size ∧ E.At w D us 0 ls[k] ∧ us.length = E.size ∧ ∀ j u, us[j]? = some u → w.cell? ⟨b, off + k * E.size + j, none⟩ = some u := by
  obtain ⟨vs, h1, h2, h3⟩ := h
  obtain ⟨b, off, hA, hD, hb, hcell⟩ := h1.2 (by omega)
  have hl := h1.1
  have h4 := Nat.mul_le_mul_right E.size (show k + 1 ≤ n by omega)
  rw [Nat.add_mul] at h4
  refine ⟨b, off, (vs.drop (k * E.size)).take E.size, hA, hD, hb, E.shift (h3 k hk) (fun j hj u hu => ?_), by rw [List.length_take, List.length_drop]; omega, fun j u hu => ?_⟩
  · rw [Nat.zero_add, List.getElem?_take, if_pos hj, List.getElem?_drop]
    exact hu
  · rw [List.getElem?_take] at hu
    split at hu
    · rw [List.getElem?_drop] at hu
      rw [Nat.add_assoc]
      exact hcell _ _ hu
    · cases hu
/-- a row of such, of the call's own; what they point to lies in blocks that meet D, none in the row's. -/
def OwnSl (t : TypeId) (E : Elt α) (w : World) (base : Nat) (D : Nat → Prop) (A : Option Addr) (n c : Nat) (ls : List α) : Prop :=
  ∃ vs : List Value, Own w base t E.size A n c vs ∧ ls.length = n ∧ ∀ k (h : k < ls.length), E.At w (fun b => D b ∧ some b ≠ blk A) vs (k * E.size) ls[k]
theorem OwnSl.nil (t : TypeId) (E : Elt α) (w : World) (base : Nat) (D : Nat → Prop) : OwnSl t E w base D none 0 0 [] := ⟨[], Own.nil _ _ _ _, rfl, fun k hk => absurd hk (by simp)⟩
theorem OwnSl.new (h : OwnSl t E w base D A n c ls) (hk : New w w') : OwnSl t E w' base D A n c ls := by
  obtain ⟨vs, h1, h2, h3⟩ := h
  exact ⟨vs, own_keep h1 hk (fun _ _ => trivial), h2, fun k hk' => E.keep (h3 k hk') hk fun _ _ _ => trivial⟩
theorem OwnSl.len (h : OwnSl t E w base D A n c ls) : ls.length = n := by obtain ⟨_, _, h, _⟩ := h; exact h
theorem OwnSl.cap (h : OwnSl t E w base D A n c ls) : n ≤ c := by obtain ⟨_, h, _⟩ := h; exact own_cap h
theorem OwnSl.capMax (h : OwnSl t E w base D A n c ls) : c ≤ 9223372036854775807 := by obtain ⟨_, h, _⟩ := h; exact own_capMax h
theorem OwnSl.lt (h : OwnSl t E w base D A n c ls) : ∀ k, blk A = some k → base ≤ k ∧ k < w.heap.size := by obtain ⟨_, h, _⟩ := h; exact own_lt h
theorem OwnSl.imp (h : OwnSl t E w base D A n c ls) (hE : ∀ b, b < w.heap.size → D b → F b) : OwnSl t E w base F A n c ls := by
  obtain ⟨vs, h1, h2, h3⟩ := h
  exact ⟨vs, h1, h2, fun k hk => E.imp (h3 k hk) fun b hb hd => ⟨hE b hb hd.1, hd.2⟩⟩
theorem OwnSl.rebase (h : OwnSl t E w base' D A n c ls) (hb : base ≤ base') : OwnSl t E w base D A n c ls := by
  obtain ⟨vs, h1, h2, h3⟩ := h
  exact ⟨vs, own_base h1 hb, h2, h3⟩
theorem OwnSl.keepE (h : OwnSl t E w base D A n c ls) (hk : Keep F w w') (hb : ∀ k, blk A = some k → F k) (hD : ∀ b, D b → F b) : OwnSl t E w' base D A n c ls := by
  obtain ⟨vs, h1, h2, h3⟩ := h
  exact ⟨vs, own_keep h1 hk hb, h2, fun k hk' => E.keep (h3 k hk') hk fun b _ hd => hD b hd.1⟩
theorem OwnSl.sl (h : OwnSl t E w base D A n c ls) : Sl E w (fun b => base ≤ b ∨ D b) A n ls := by
  obtain ⟨vs, h1, h2, h3⟩ := h
  exact ⟨vs, (Row.of_own h1).imp (fun _ _ h => .inl h), h2, fun k hk => E.imp (h3 k hk) fun _ _ h => .inr h.1⟩
theorem OwnSl.any (h : OwnSl t E w base D A n c ls) : Sl E w (fun _ => True) A n ls := h.sl.any
/-- a row stays where another one grows. -/
theorem OwnSl.beside {b1 : Nat} {t1 : TypeId} {s1 : Nat} {A1 A3 : Option Addr} {n1 c1 : Nat} {xs : List Value} (h1 : Own w b1 t1 s1 A1 n1 c1 xs) (ht : t1 ≠ t) (h : OwnSl t E w base (fun b => D b ∧ some b ≠ blk A1) A n c ls) (hg : w.grownBy w' (blk A1)) (hbk : blk A3 = blk A1 ∨ blk A3 = some w.heap.size) : OwnSl t E w' base (fun b => D b ∧ some b ≠ blk A3) A n c ls := by
  obtain ⟨vs, h2, h3, h4⟩ := h
  refine ⟨vs, own_keep h2 (keep_blk hg) (own_apart6 h1 h2 ht), h3, fun k hk' => ?_⟩
  have h5 := E.imp (h4 k hk') (E := fun b => ((D b ∧ some b ≠ blk A3) ∧ some b ≠ blk A) ∧ some b ≠ blk A1) fun b hb hd => ⟨⟨⟨hd.1.1, ne_blk hbk hb hd.1.2⟩, hd.2⟩, hd.1.2⟩
  exact E.imp (E.keep h5 (keep_blk hg) fun b _ hd => hd.2) fun b _ hd => hd.1
theorem OwnSl.own (h : OwnSl t E w base D A n c ls) : ∃ xs, Own w base t E.size A n c xs := by obtain ⟨vs, h, _⟩ := h; exact ⟨vs, h⟩
/-- the law of append: many at once. -/
theorem app_slM {P : Program} {ops : Array Oper} {rest : List Oper} {o : Oper} {a : Act} {Q : Exit → Act → World → Prop} (w : World) (hgd : o.guard = none) (s x : Operand) (T t : TypeId)
    (ho : o.op = .call { callee := .builtin .append, args := #[s, x], argTypes := #[T, T] })
    (i : TypeInfo) (z : Value) (bytes : Nat) (ht : P.underlying T = some (.slice t)) (hi : P.info? t = some i) (hz : i.zero = some z) (hsize : i.size = E.size) (hby : i.bytes = bytes) (hzs : z.cells.size = E.size)
    (base : Nat) (D : Nat → Prop) (A : Option Addr) (n c : Nat) (ls : List α) (hs : a.eval s = .slice A n c) (hown : OwnSl t E w base D A n c ls)
    (D2 : Nat → Prop) (A2 : Option Addr) (m c2 : Nat) (us : List Value) (ms : List α) (hx : a.eval x = .slice A2 m c2) (hr : Row w D2 A2 m E.size us) (hm : ms.length = m) (hy : ∀ k (h : k < ms.length), E.At w (fun b => D b ∧ some b ≠ blk A) us (k * E.size) ms[k])
    (h63 : n + m ≤ 9223372036854775807) (hbytes : (n + m) * bytes ≤ 140737488355328) (hbase : base ≤ w.heap.size)
    (h : ∀ A3 c3 w3, OwnSl t E w3 base D A3 (n + m) c3 (ls ++ ms) → w.grownBy w3 (blk A) → (blk A3 = blk A ∨ blk A3 = some w.heap.size) → wpList P ops Q rest (a.put o.dst (.slice A3 (n + m) c3)) w3) : wpList P ops Q (o :: rest) a w := by
  obtain ⟨vs, h1, h2, h3⟩ := hown
  have hul : us.length = m * E.size := hr.1
  have hp := E.pos
  have hone : ∀ u ∈ us, u.oneCell' = true := by
    intro u hu
    obtain ⟨j, hj, rfl⟩ := List.mem_iff_getElem.1 hu
    have hjm : j / E.size < ms.length := by rw [hm]; exact Nat.div_lt_of_lt_mul (by rw [Nat.mul_comm]; omega)
    obtain ⟨u, hu1, hu2⟩ := E.one (hy (j / E.size) hjm) (j % E.size) (Nat.mod_lt _ hp)
    rw [Nat.mul_comm, Nat.div_add_mod, List.getElem?_eq_getElem hj] at hu1
    injection hu1 with hu1
    rw [hu1]
    exact hu2
  refine wpList_append_row w hgd s x T ho base t i z E.size bytes ht hi hz hsize hby hzs hp A n c vs hs h1 D2 A2 m c2 us hx hr hone (by unfold maxLen; exact h63) hbytes hbase ?_
  intro A3 c3 w3 hown3 hg3 hbk3
  refine h A3 c3 w3 ⟨vs ++ us, hown3, by rw [List.length_append]; omega, fun k hk => ?_⟩ hg3 hbk3
  have hvl : vs.length = n * E.size := h1.1
  have move : ∀ {xs : List Value} {j : Nat} {y : α}, E.At w (fun b => D b ∧ some b ≠ blk A) xs j y → E.At w3 (fun b => D b ∧ some b ≠ blk A3) xs j y := fun {xs j y} hb => by
    have hb3 := E.imp hb (E := fun b => (D b ∧ some b ≠ blk A) ∧ some b ≠ blk A3) fun b hlt hd => ⟨hd, ne_blk hbk3 hlt hd.2⟩
    exact E.imp (E.keep hb3 (keep_blk hg3) (fun b _ hd => hd.1.2)) fun b _ hd => ⟨hd.1.1, hd.2⟩
  by_cases hkn : k < ls.length
  · rw [List.getElem_append_left hkn]
    refine move (E.shift (h3 k hkn) fun j hj u hu => ?_)
    have h4 := Nat.mul_le_mul_right E.size (show k + 1 ≤ n by omega)
    rw [Nat.add_mul] at h4
    rw [List.getElem?_append_left (by omega)]
    exact hu
  · rw [List.getElem_append_right (by omega)]
    have hkl : k - ls.length < ms.length := by rw [List.length_append] at hk; omega
    refine move (E.shift (hy (k - ls.length) hkl) fun j hj u hu => ?_)
    have h4 : k * E.size = vs.length + (k - ls.length) * E.size := by rw [hvl, ← h2, ← Nat.add_mul]; congr 1; omega
    rw [h4, Nat.add_assoc, List.getElem?_append_right (by omega), Nat.add_sub_cancel_left]
    exact hu
/-- one more. -/
theorem app_sl {P : Program} {ops : Array Oper} {rest : List Oper} {o : Oper} {a : Act} {Q : Exit → Act → World → Prop} (w : World) (hgd : o.guard = none) (s x : Operand) (T t : TypeId)
    (ho : o.op = .call { callee := .builtin .append, args := #[s, x], argTypes := #[T, T] })
    (i : TypeInfo) (z : Value) (bytes : Nat) (ht : P.underlying T = some (.slice t)) (hi : P.info? t = some i) (hz : i.zero = some z) (hsize : i.size = E.size) (hby : i.bytes = bytes) (hzs : z.cells.size = E.size)
    (base : Nat) (D : Nat → Prop) (A : Option Addr) (n c : Nat) (ls : List α) (hs : a.eval s = .slice A n c) (hown : OwnSl t E w base D A n c ls)
    (D2 : Nat → Prop) (A2 : Option Addr) (c2 : Nat) (us : List Value) (y : α) (hx : a.eval x = .slice A2 1 c2) (hr : Row w D2 A2 1 E.size us) (hy : E.At w (fun b => D b ∧ some b ≠ blk A) us 0 y)
    (h63 : n + 1 ≤ 9223372036854775807) (hbytes : (n + 1) * bytes ≤ 140737488355328) (hbase : base ≤ w.heap.size)
    (h : ∀ A3 c3 w3, OwnSl t E w3 base D A3 (n + 1) c3 (ls ++ [y]) → w.grownBy w3 (blk A) → (blk A3 = blk A ∨ blk A3 = some w.heap.size) → wpList P ops Q rest (a.put o.dst (.slice A3 (n + 1) c3)) w3) : wpList P ops Q (o :: rest) a w := by
  refine app_slM w hgd s x T t ho i z bytes ht hi hz hsize hby hzs base D A n c ls hs hown D2 A2 1 c2 us [y] hx hr rfl (fun k hk => ?_) h63 hbytes hbase h
  obtain rfl : k = 0 := by simpa using hk
  rw [Nat.zero_mul]
  exact hy
end
/-! ### kinds of elements -/
/-- a head. -/
def headElt : Elt HeadP where
  size := 6
  At := HeadAt
  pos := by decide
  keep := HeadAt.keep
  imp := HeadAt.imp
  shift := by
    rintro w D vs us i j a ⟨A, c, A2, c2, e0, e1, e2, e3, e4, e5, rest⟩ h
    exact ⟨A, c, A2, c2, h 0 (by decide) _ e0, h 1 (by decide) _ e1, h 2 (by decide) _ e2, h 3 (by decide) _ e3, h 4 (by decide) _ e4, h 5 (by decide) _ e5, rest⟩
  one := by
    rintro w D vs i a ⟨A, c, A2, c2, e0, e1, e2, e3, e4, e5, rest⟩ k hk
    match k, hk with
    | 0, _ => exact ⟨_, e0, rfl⟩
    | 1, _ => exact ⟨_, e1, rfl⟩
    | 2, _ => exact ⟨_, e2, rfl⟩
    | 3, _ => exact ⟨_, e3, rfl⟩
    | 4, _ => exact ⟨_, e4, rfl⟩
    | 5, _ => exact ⟨_, e5, rfl⟩
/-- a record. -/
def recElt : Elt RecP where
  size := 3
  At := RecAt
  pos := by decide
  keep := RecAt.keep
  imp := RecAt.imp
  shift := by
    rintro w D vs us i j a ⟨A, c, e0, e1, e2, rest⟩ h
    exact ⟨A, c, h 0 (by decide) _ e0, h 1 (by decide) _ e1, h 2 (by decide) _ e2, rest⟩
  one := by
    rintro w D vs i a ⟨A, c, e0, e1, e2, rest⟩ k hk
    match k, hk with
    | 0, _ => exact ⟨_, e0, rfl⟩
    | 1, _ => exact ⟨_, e1, rfl⟩
    | 2, _ => exact ⟨_, e2, rfl⟩
/-- a row of bytes. -/
def imgElt : Elt (List UInt8) where
  size := 1
  At := ImgAt
  pos := by decide
  keep := ImgAt.keep
  imp := ImgAt.imp
  shift := by
    rintro w D vs us i j a ⟨A, c, e0, rest⟩ h
    exact ⟨A, c, h 0 (by decide) _ e0, rest⟩
  one := by
    rintro w D vs i a ⟨A, c, e0, rest⟩ k hk
    match k, hk with
    | 0, _ => exact ⟨_, e0, rfl⟩
/-- a slice of such. -/
def slElt {α : Type} (E : Elt α) : Elt (List α) where
  size := 1
  At w D vs i ls := ∃ A c, vs[i]? = some (.slice A ls.length c) ∧ ls.length ≤ c ∧ c ≤ 9223372036854775807 ∧ Sl E w D A ls.length ls
  pos := by decide
  keep := by
    rintro w w' D F vs i a ⟨A, c, e, h1, h2, h3⟩ hk hE
    exact ⟨A, c, e, h1, h2, h3.keep hk hE⟩
  imp := by
    rintro w D F vs i a ⟨A, c, e, h1, h2, h3⟩ hE
    exact ⟨A, c, e, h1, h2, h3.imp hE⟩
  shift := by
    rintro w D vs us i j a ⟨A, c, e0, rest⟩ h
    exact ⟨A, c, h 0 (by decide) _ e0, rest⟩
  one := by
    rintro w D vs i a ⟨A, c, e0, rest⟩ k hk
    match k, hk with
    | 0, _ => exact ⟨_, e0, rfl⟩


theorem imgs_sl {w : World} {D : Nat → Prop} {A : Option Addr} {n : Nat} {ls : List (List UInt8)} : Imgs w D A n ls ↔ Sl imgElt w D A n ls := by
  constructor
  · rintro ⟨vs, h1, h2, h3⟩
    exact ⟨vs, h1, h2, fun k hk => by rw [show k * imgElt.size = k from Nat.mul_one k]; exact h3 k hk⟩
  · rintro ⟨vs, h1, h2, h3⟩
    exact ⟨vs, h1, h2, fun k hk => by have := h3 k hk; rwa [show k * imgElt.size = k from Nat.mul_one k] at this⟩
theorem ownHeads_sl {w : World} {base : Nat} {D : Nat → Prop} {A : Option Addr} {n c : Nat} {hs : List HeadP} : OwnHeads w base D A n c hs ↔ OwnSl 33 headElt w base D A n c hs := Iff.rfl
/-- where an element of a slice of slices lies. -/
theorem Sl.at1 {α : Type} {E : Elt α} {w : World} {D : Nat → Prop} {A : Option Addr} {n : Nat} {ls : List (List α)} (h : Sl (slElt E) w D A n ls) {k : Nat} (hk : k < ls.length) :
    ∃ b off Q qc, A = some ⟨b, off, none⟩ ∧ D b ∧ w.cell? ⟨b, off + k, none⟩ = some (.slice Q ls[k].length qc) ∧ ls[k].length ≤ qc ∧ qc ≤ 9223372036854775807 ∧ Sl E w D Q ls[k].length ls[k] := by
  obtain ⟨vs, h1, h2, h3⟩ := h
  obtain ⟨Q, qc, e, r1, r2, r3⟩ := h3 k hk
  obtain ⟨b, off, hA, hD, _, hcell⟩ := h1.2 (by omega)
  exact ⟨b, off, Q, qc, hA, hD, hcell k _ (by rw [show k * (slElt E).size = k from Nat.mul_one k] at e; exact e), r1, r2, r3⟩
end Go.Proofs.YtfegdgaanmcecaaGreatDoor
