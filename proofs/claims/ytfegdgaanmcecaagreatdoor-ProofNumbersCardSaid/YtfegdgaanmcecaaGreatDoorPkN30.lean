/-
  PROVED HERE: texts that belong together, one behind the other; what each proves, and under which conditions, its own opening remark says: ProofLaw, Index, Clone, ChainFollow, MadeLaw, Elt, Float, HoldW, MakeLaw, Leaves2, Elt2.
-/
import Derived.Test.YtfegdgaanmcecaaGreatDoorPkN28
/-
  PROVED HERE: plain law: the path of a leaf climbs to the root; no condition.
-/
namespace Go.Proofs.YtfegdgaanmcecaaGreatDoor
open Go.RowKit
theorem climb_path (n : Nat) : ∀ (ls : List (List UInt8)) (i : Nat), ls.length = n → i < n → climbOf (shaSum (0 :: ls.getD i [])) i n (pathOf ls i) = (rootOf ls, true) := by
 induction n using Nat.strongRecOn with
 | _ n ih =>
  intro ls i hl hi
  by_cases h1 : n = 1
  ·subst h1
   obtain rfl : i = 0 := by omega
   rw [pathOf_few ls 0 (by omega), climbOf_one]
   match ls, hl with
   | [x], _ => rfl
  ·have h2 : 2 ≤ n := by omega
   have hp := partN_lt h2
   have hq := partN_pos n
   have hR := rootOf_more ls (by omega)
   by_cases hik : i < partN n
   ·have hP := pathOf_left ls i (by omega) (by rw [hl]; exact hik)
    have IH := ih (partN n) hp (ls.take (partN n)) i (by rw [List.length_take]; omega) hik
    rw [hl] at hP hR
    have hg : (ls.take (partN n)).getD i [] = ls.getD i [] := by rw [List.getD_eq_getElem?_getD, List.getD_eq_getElem?_getD, List.getElem?_take, if_pos hik]
    rw [hg] at IH
    generalize hps : pathOf (ls.take (partN n)) i = ps at *
    rw [hP, climbOf_left _ i n ps.length _ h1 (by rw [List.length_append]; rfl) hik, List.take_left, IH]
    have hd : (ps ++ [rootOf (ls.drop (partN n))]).getD ps.length [] = rootOf (ls.drop (partN n)) := by rw [List.getD_eq_getElem?_getD, List.getElem?_append_right (Nat.le_refl _), Nat.sub_self]; rfl
    rw [hd, hR]
   ·have hP := pathOf_right ls i (by omega) (by rw [hl]; exact hik)
    have IH := ih (n - partN n) (by omega) (ls.drop (partN n)) (i - partN n) (by rw [List.length_drop]; omega) (by omega)
    rw [hl] at hP hR
    have hg : (ls.drop (partN n)).getD (i - partN n) [] = ls.getD i [] := by rw [List.getD_eq_getElem?_getD, List.getD_eq_getElem?_getD, List.getElem?_drop, show partN n + (i - partN n) = i from by omega]
    rw [hg] at IH
    generalize hps : pathOf (ls.drop (partN n)) (i - partN n) = ps at *
    rw [hP, climbOf_right _ i n ps.length _ h1 (by rw [List.length_append]; rfl) hik, List.take_left, IH]
    have hd : (ps ++ [rootOf (ls.take (partN n))]).getD ps.length [] = rootOf (ls.take (partN n)) := by rw [List.getD_eq_getElem?_getD, List.getElem?_append_right (Nat.le_refl _), Nat.sub_self]; rfl
    rw [hd, hR]
theorem check_path (ls : List (List UInt8)) (i : Nat) (h : i < ls.length) : checkOf (rootOf ls) (ls.getD i []) i ls.length (pathOf ls i) = true := by
 rw [checkOf_in _ _ _ _ _ h, climb_path ls.length ls i rfl h]
 simp
/-
  PROVED HERE: what proof.Make's function value and slices.IndexFunc answer; condition: lengths that a slice may have.
-/
theorem seqis_any (g : Nat) (s : Int) (r : RecP) (A : Option Addr) (c : Nat) (w : World) (hs : w.cell? ⟨g, 0, none⟩ = some (.int .u64 s)) :
  Calls Tryz.prog 34 #[.agg #[.int .i64 r.kind, .int .u64 r.seq, .slice A r.body.length c], .pointer (some ⟨g, 0, none⟩)] w fun e w' => e = .returned (.bool (r.seq == s)) ∧ New w w' := by
 have hN := (New.refl w).alloc (.cells #[.int .i64 r.kind, .int .u64 r.seq, .slice A r.body.length c] 42)
 have x1 := cellOf (heap_alloc_new w (.cells #[.int .i64 r.kind, .int .u64 r.seq, .slice A r.body.length c] 42)) (k := 1) rfl
 have x2 := hN.cell_some hs trivial
 have HN := Lib.hid hN
 clear hN
 go_enter Tryz.func34, Tryz.ntmps34
 go_wp2_with fail
 go_ret
 exact ⟨rfl, HN.out⟩
def seqPlace (rs : List RecP) (s : Int) : Int := match rs.findIdx? (fun r => r.seq == s) with
 | some i => (i : Int)
 | none => -1
set_option maxRecDepth 100000 in
set_option maxHeartbeats 2000000 in
theorem index_any (D : Nat → Prop) (A : Option Addr) (n c g : Nat) (s : Int) (rs : List RecP) (w : World) (hR : Recs w D A n rs) (hn : n ≤ 1000000) (hs : w.cell? ⟨g, 0, none⟩ = some (.int .u64 s)) :
  Calls Tryz.prog 33 #[.slice A n c, .func (Fn.func 34) #[] #[.pointer (some ⟨g, 0, none⟩)]] w fun e w' => e = .returned (.int .i64 (seqPlace rs s)) ∧ New w w' := by
 have HL := Lib.hid hR.len
 have HR := Lib.hid hR
 have HS := Lib.hid hs
 clear hR hs
 go_enter Tryz.func33, Tryz.ntmps33
 go_wp2_with fail
 go_loopw [8] (fun i wx => ∃ k : Nat, k ≤ n ∧ i = .int .i64 (k : Int) ∧ (∀ j (h : j < rs.length), j < k → (rs[j].seq == s) = false) ∧ New w wx) (fun i _ => n - (intOf i).toNat)
 case atStart => exact ⟨0, Nat.zero_le _, rfl, fun j h hj => absurd hj (by omega), New.refl _⟩
 case round =>
  obtain ⟨k, hk, rfl, hno, hK⟩ := hrel
  have HNO := Lib.hid hno
  have HK := Lib.hid hK
  clear hno hK
  by_cases hlt : k < n
  ·have hlk : k < rs.length := by have := HL.out; omega
   have HEQ : Hid (rs[k] = rs[k]) := Lib.hid rfl
   have HSI := Lib.hid (fun A' c' => seqis_any g s rs[k] A' c' wr (HK.out.cell_some HS.out trivial))
   have hat := (HR.out.new HK.out).at_ hlk
   have HFI : Hid ((rs[k].seq == s) = true → seqPlace rs s = (k : Int)) := Lib.hid fun h => by
    unfold seqPlace
    rw [List.findIdx?_eq_some_iff_getElem.2 ⟨hlk, h, fun j hj => by simpa using HNO.out j (by omega) hj⟩]
   have HNX : Hid ((rs[k].seq == s) = false → ∀ j (h : j < rs.length), j < k + 1 → (rs[j].seq == s) = false) := Lib.hid fun h j hj hjk => by
    by_cases e : j = k
    ·subst e; exact h
    ·exact HNO.out j hj (by omega)
   generalize rs[k] = r at *
   obtain ⟨b, off, A', c', rfl, u0, u1, u2, _⟩ := hat
   have HSI := Lib.hid (HSI.out A' c')
   cases he : (r.seq == s)
   ·rw [he] at HSI
    have HNX := Lib.hid (HNX.out he)
    clear he HFI
    go_wp2_with fail
    refine HSI.out.mono ?_
    rintro e w' ⟨rfl, k1⟩
    go_wp2_with fail
    go_roundw
    case rel => exact ⟨k + 1, by omega, by go_num, HNX.out, HK.out.new k1⟩
    case measure => simp [intOf]; omega
   ·rw [he] at HSI
    have HFI := Lib.hid (HFI.out he)
    clear he HNX
    go_wp2_with fail
    refine HSI.out.mono ?_
    rintro e w' ⟨rfl, k1⟩
    go_wp2_with fail
    go_ret
    exact ⟨by rw [HFI.out]; rfl, HK.out.new k1⟩
  ·obtain rfl : k = n := by omega
   have HFI : Hid (seqPlace rs s = -1) := Lib.hid (by
    unfold seqPlace
    rw [List.findIdx?_eq_none_iff.2 fun x hx => by
     obtain ⟨j, hj, rfl⟩ := List.mem_iff_getElem.1 hx
     exact HNO.out j hj (by have := HL.out; omega)])
   go_wp2_with fail
   go_ret
   exact ⟨by rw [HFI.out]; rfl, HK.out⟩
/-
  PROVED HERE: what slices.Clone answers at heads that are not nil; condition: fewer than 2^40 heads.
-/
/-
  PROVED HERE: plain law: the heads of a chain follow one another; condition: at most 1000 segments.
-/
theorem chain_heads_len (id : List UInt8) (l : List (List (List UInt8))) : ∀ n, (chainTo id l n).heads.length = n
 | 0 => rfl
 | n + 1 => by
  rw [chainTo]
  dsimp only
  rw [List.length_append, chain_heads_len id l n]
  rfl
theorem chain_head_at (id : List UInt8) (l : List (List (List UInt8))) (k : Nat) : ∀ n, k < n → (chainTo id l n).heads[k]? = some (chainHead k (chainTo id l k).next (chainTo id l k).prev (chainRecs (chainTo id l k).next (l.getD k [])))
 | 0, h => absurd h (by omega)
 | n + 1, h => by
  have hl := chain_heads_len id l n
  rw [chainTo]
  dsimp only
  by_cases hk : k < n
  ·rw [List.getElem?_append_left (by omega)]
   exact chain_head_at id l k n hk
  ·obtain rfl : k = n := by omega
   rw [List.getElem?_append_right (by omega), hl, Nat.sub_self]
   rfl
theorem chain_follows (id : List UInt8) (l : List (List (List UInt8))) {n k : Nat} (hn : n ≤ 1000) (hk : k + 1 < n) {a b : HeadP} (ha : (chainTo id l n).heads[k]? = some a) (hb : (chainTo id l n).heads[k + 1]? = some b) : followOf a b = true := by
 rw [chain_head_at id l k n (by omega)] at ha
 rw [chain_head_at id l (k + 1) n hk] at hb
 injection ha with ha
 injection hb with hb
 have hok := chain_ok id l k (by omega)
 have q0 := hok.next0
 have q1 := hok.next1
 have hr := chainRecs_length (chainTo id l k).next (l.getD k [])
 have e1 : (chainTo id l (k + 1)).next = (chainTo id l k).next + (chainRecs (chainTo id l k).next (l.getD k [])).length := rfl
 have e2 : (chainTo id l (k + 1)).prev = sealOf a := by rw [← ha]; rfl
 have i1 : b.index = ((k + 1 : Nat) : Int) := by rw [← hb]; rfl
 have i2 : b.first = (chainTo id l (k + 1)).next := by rw [← hb]; rfl
 have i3 : b.prev = (chainTo id l (k + 1)).prev := by rw [← hb]; rfl
 have j1 : a.index = (k : Int) := by rw [← ha]; rfl
 have j2 : a.first = (chainTo id l k).next := by rw [← ha]; rfl
 have j3 : a.count = ((chainRecs (chainTo id l k).next (l.getD k [])).length : Int) := by rw [← ha]; rfl
 have w1 : IntKind.i64.wrap ((k : Int) + 1) = (k : Int) + 1 := IntWalk.i64_in _ (by omega)
 unfold followOf
 rw [i1, i2, i3, j1, j2, j3, e1, e2, w1]
 generalize (chainRecs (chainTo id l k).next (l.getD k [])).length = c at *
 generalize (chainTo id l k).next = x at *
 have w2 : IntKind.u64.wrap (c : Int) = (c : Int) := by rw [IntKind.wrap_u64]; omega
 rw [w2]
 have w3 : IntKind.u64.wrap (x + (c : Int)) = x + (c : Int) := by rw [IntKind.wrap_u64]; omega
 rw [w3]
 simp
theorem lastOf_all : ∀ (hs : List HeadP) (a : HeadP), (∀ k (x y : HeadP), (a :: hs)[k]? = some x → (a :: hs)[k + 1]? = some y → followOf x y = true) → lastOf a hs = some ((a :: hs).getLast (by simp))
 | [], a, _ => rfl
 | b :: hs, a, h => by
  rw [lastOf, h 0 a b rfl rfl, if_pos rfl, lastOf_all hs b (fun k x y hx hy => h (k + 1) x y hx hy)]
  rfl
/-
  PROVED HERE: plain law: a proof that is made of a record is checked, and shows that record; no condition.
-/
def madeProof (rs : List RecP) (h : HeadP) (i : Nat) (later : List HeadP) : ProofP := ⟨h, (i : Int), (leavesOf rs).getD i [], pathOf (leavesOf rs) i, later⟩
theorem leaf_at {rs : List RecP} {i : Nat} (hi : i < rs.length) (hr : recRight rs[i] = true) : (leavesOf rs).getD i [] = recEnc rs[i] := by
 unfold leavesOf
 rw [List.getD_eq_getElem?_getD, List.getElem?_map, List.getElem?_eq_getElem hi]
 simp [hr]
theorem check_made {h : HeadP} {rs : List RecP} {i : Nat} {later : List HeadP} {hd : List UInt8} {l : HeadP} (hi : i < rs.length) (hr : recRight rs[i] = true) (hs : 0 ≤ rs[i].seq) (hroot : h.root = rootOf (leavesOf rs)) (hcnt : h.count = (rs.length : Int)) (hseq : rs[i].seq = IntKind.u64.wrap (h.first + IntKind.u64.wrap (i : Int))) (hlast : lastOf h later = some l) (hhd : sealOf l = hd) :
  checkProof hd (madeProof rs h i later) = some rs[i] := by
 have hlv : (leavesOf rs).length = rs.length := by unfold leavesOf; rw [List.length_map]
 have hc := check_path (leavesOf rs) i (by omega)
 have hd0 := recDec_enc rs[i] [] hr hs
 rw [List.append_nil] at hd0
 have hln := recEnc_len hr
 unfold checkProof madeProof
 dsimp only
 rw [hroot, hcnt, ← hlv, hc, if_pos rfl, hlast]
 show checkEnd hd _ l = some rs[i]
 unfold checkEnd
 dsimp only
 rw [leaf_at hi hr, hd0, hln, hhd]
 dsimp only
 rw [← hseq]
 simp
/-
  PROVED HERE: slices of whatever lies in cells, and rows of such a call's own, with the law of append at them, once for all kinds of elements; no condition; no program is named.
-/
structure Elt (α : Type) where
 size : Nat
 At : World → (Nat → Prop) → List Value → Nat → α → Prop
 pos : 0 < size
 keep : ∀ {w w' : World} {D E : Nat → Prop} {vs : List Value} {i : Nat} {a : α}, At w D vs i a → Keep E w w' → (∀ b, b < w.heap.size → D b → E b) → At w' D vs i a
 imp : ∀ {w : World} {D E : Nat → Prop} {vs : List Value} {i : Nat} {a : α}, At w D vs i a → (∀ b, b < w.heap.size → D b → E b) → At w E vs i a
 shift : ∀ {w : World} {D : Nat → Prop} {vs us : List Value} {i j : Nat} {a : α}, At w D vs i a → (∀ k, k < size → ∀ u, vs[i + k]? = some u → us[j + k]? = some u) → At w D us j a
 one : ∀ {w : World} {D : Nat → Prop} {vs : List Value} {i : Nat} {a : α}, At w D vs i a → ∀ k, k < size → ∃ u, vs[i + k]? = some u ∧ u.oneCell' = true
section
variable {α : Type} {E : Elt α} {w w' : World} {base base' : Nat} {t : TypeId} {D F : Nat → Prop} {A : Option Addr} {n c : Nat} {ls : List α}
def Sl (E : Elt α) (w : World) (D : Nat → Prop) (A : Option Addr) (n : Nat) (ls : List α) : Prop :=
 ∃ vs : List Value, Row w D A n E.size vs ∧ ls.length = n ∧ ∀ k (h : k < ls.length), E.At w D vs (k * E.size) ls[k]
theorem Sl.len (h : Sl E w D A n ls) : ls.length = n := by obtain ⟨_, _, h, _⟩ := h; exact h
theorem Sl.keep (h : Sl E w D A n ls) (hk : Keep F w w') (hE : ∀ b, b < w.heap.size → D b → F b) : Sl E w' D A n ls := by
 obtain ⟨vs, h1, h2, h3⟩ := h
 exact ⟨vs, h1.keep hk hE, h2, fun k hk' => E.keep (h3 k hk') hk hE⟩
theorem Sl.new (h : Sl E w D A n ls) (hk : New w w') : Sl E w' D A n ls := h.keep hk fun _ _ _ => trivial
theorem Sl.imp (h : Sl E w D A n ls) (hE : ∀ b, b < w.heap.size → D b → F b) : Sl E w F A n ls := by
 obtain ⟨vs, h1, h2, h3⟩ := h
 exact ⟨vs, h1.imp hE, h2, fun k hk => E.imp (h3 k hk) hE⟩
theorem Sl.any (h : Sl E w D A n ls) : Sl E w (fun _ => True) A n ls := h.imp fun _ _ _ => trivial
theorem Sl.old (h : Sl E w D A n ls) : Sl E w (fun b => b < w.heap.size) A n ls := h.imp fun _ hb _ => hb
theorem Sl.nil (E : Elt α) (w : World) (D : Nat → Prop) (A : Option Addr) : Sl E w D A 0 [] := ⟨[], by have := Row.nil w D A E.size; exact this, rfl, fun k hk => absurd hk (by simp)⟩
theorem Sl.cutTo (h : Sl E w D A n ls) {m : Nat} (hm : m ≤ n) : Sl E w D A m (ls.take m) := by
 obtain ⟨vs, h1, h2, h3⟩ := h
 refine ⟨vs.take (m * E.size), h1.cutTo hm, by rw [List.length_take]; omega, fun k hk => ?_⟩
 have hk' : k < m ∧ k < ls.length := by rw [List.length_take] at hk; omega
 rw [List.getElem_take]
 refine E.shift (h3 k hk'.2) fun j hj u hu => ?_
 rw [List.getElem?_take, if_pos]
 ·exact hu
 ·have := Nat.mul_le_mul_right E.size (show k + 1 ≤ m from hk'.1)
  rw [Nat.add_mul] at this
  omega
theorem Sl.from_ (h : Sl E w D A n ls) {m : Nat} (hm : m ≤ n) : Sl E w D (Option.map (fun x => x.add (m * E.size)) A) (n - m) (ls.drop m) := by
 obtain ⟨vs, h1, h2, h3⟩ := h
 refine ⟨vs.drop (m * E.size), h1.from_ hm, by rw [List.length_drop]; omega, fun k hk => ?_⟩
 rw [List.getElem_drop]
 have hk' : m + k < ls.length := by rw [List.length_drop] at hk; omega
 refine E.shift (h3 (m + k) hk') fun j hj u hu => ?_
 rw [List.getElem?_drop, ← Nat.add_assoc, ← Nat.add_mul]
 exact hu
theorem Sl.at_ (h : Sl E w D A n ls) {k : Nat} (hk : k < ls.length) : ∃ b off us, A = some ⟨b, off, none⟩ ∧ D b ∧ b < w.heap.size ∧ E.At w D us 0 ls[k] ∧ us.length = E.size ∧ ∀ j u, us[j]? = some u → w.cell? ⟨b, off + k * E.size + j, none⟩ = some u := by
 obtain ⟨vs, h1, h2, h3⟩ := h
 obtain ⟨b, off, hA, hD, hb, hcell⟩ := h1.2 (by omega)
 have hl := h1.1
 have h4 := Nat.mul_le_mul_right E.size (show k + 1 ≤ n by omega)
 rw [Nat.add_mul] at h4
 refine ⟨b, off, (vs.drop (k * E.size)).take E.size, hA, hD, hb, E.shift (h3 k hk) (fun j hj u hu => ?_), by rw [List.length_take, List.length_drop]; omega, fun j u hu => ?_⟩
 ·rw [Nat.zero_add, List.getElem?_take, if_pos hj, List.getElem?_drop]
  exact hu
 ·rw [List.getElem?_take] at hu
  split at hu
  ·rw [List.getElem?_drop] at hu
   rw [Nat.add_assoc]
   exact hcell _ _ hu
  ·cases hu
def OwnSl (t : TypeId) (E : Elt α) (w : World) (base : Nat) (D : Nat → Prop) (A : Option Addr) (n c : Nat) (ls : List α) : Prop :=
 ∃ vs : List Value, Own w base t E.size A n c vs ∧ ls.length = n ∧ ∀ k (h : k < ls.length), E.At w (fun b => D b ∧ some b ≠ blk A) vs (k * E.size) ls[k]
theorem OwnSl.nil (t : TypeId) (E : Elt α) (w : World) (base : Nat) (D : Nat → Prop) : OwnSl t E w base D none 0 0 [] := ⟨[], Own.nil _ _ _ _, rfl, fun k hk => absurd hk (by simp)⟩
theorem OwnSl.new (h : OwnSl t E w base D A n c ls) (hk : New w w') : OwnSl t E w' base D A n c ls := by
 obtain ⟨vs, h1, h2, h3⟩ := h
 exact ⟨vs, own_keep h1 hk (fun _ _ => trivial), h2, fun k hk' => E.keep (h3 k hk') hk fun _ _ _ => trivial⟩
theorem OwnSl.len (h : OwnSl t E w base D A n c ls) : ls.length = n := by obtain ⟨_, _, h, _⟩ := h; exact h
theorem OwnSl.cap (h : OwnSl t E w base D A n c ls) : n ≤ c := by obtain ⟨_, h, _⟩ := h; exact own_cap h
theorem OwnSl.capMax (h : OwnSl t E w base D A n c ls) : c ≤ 9223372036854775807 := by obtain ⟨_, h, _⟩ := h; exact own_capMax h
theorem OwnSl.lt (h : OwnSl t E w base D A n c ls) : ∀ k, blk A = some k → base ≤ k ∧ k < w.heap.size := by obtain ⟨_, h, _⟩ := h; exact own_lt h
theorem OwnSl.imp (h : OwnSl t E w base D A n c ls) (hE : ∀ b, b < w.heap.size → D b → F b) : OwnSl t E w base F A n c ls := by
 obtain ⟨vs, h1, h2, h3⟩ := h
 exact ⟨vs, h1, h2, fun k hk => E.imp (h3 k hk) fun b hb hd => ⟨hE b hb hd.1, hd.2⟩⟩
theorem OwnSl.rebase (h : OwnSl t E w base' D A n c ls) (hb : base ≤ base') : OwnSl t E w base D A n c ls := by
 obtain ⟨vs, h1, h2, h3⟩ := h
 exact ⟨vs, own_base h1 hb, h2, h3⟩
theorem OwnSl.keepE (h : OwnSl t E w base D A n c ls) (hk : Keep F w w') (hb : ∀ k, blk A = some k → F k) (hD : ∀ b, D b → F b) : OwnSl t E w' base D A n c ls := by
 obtain ⟨vs, h1, h2, h3⟩ := h
 exact ⟨vs, own_keep h1 hk hb, h2, fun k hk' => E.keep (h3 k hk') hk fun b _ hd => hD b hd.1⟩
theorem OwnSl.sl (h : OwnSl t E w base D A n c ls) : Sl E w (fun b => base ≤ b ∨ D b) A n ls := by
 obtain ⟨vs, h1, h2, h3⟩ := h
 exact ⟨vs, (Row.of_own h1).imp (fun _ _ h => .inl h), h2, fun k hk => E.imp (h3 k hk) fun _ _ h => .inr h.1⟩
theorem OwnSl.any (h : OwnSl t E w base D A n c ls) : Sl E w (fun _ => True) A n ls := h.sl.any
theorem OwnSl.beside {b1 : Nat} {t1 : TypeId} {s1 : Nat} {A1 A3 : Option Addr} {n1 c1 : Nat} {xs : List Value} (h1 : Own w b1 t1 s1 A1 n1 c1 xs) (ht : t1 ≠ t) (h : OwnSl t E w base (fun b => D b ∧ some b ≠ blk A1) A n c ls) (hg : w.grownBy w' (blk A1)) (hbk : blk A3 = blk A1 ∨ blk A3 = some w.heap.size) : OwnSl t E w' base (fun b => D b ∧ some b ≠ blk A3) A n c ls := by
 obtain ⟨vs, h2, h3, h4⟩ := h
 refine ⟨vs, own_keep h2 (keep_blk hg) (own_apart6 h1 h2 ht), h3, fun k hk' => ?_⟩
 have h5 := E.imp (h4 k hk') (E := fun b => ((D b ∧ some b ≠ blk A3) ∧ some b ≠ blk A) ∧ some b ≠ blk A1) fun b hb hd => ⟨⟨⟨hd.1.1, ne_blk hbk hb hd.1.2⟩, hd.2⟩, hd.1.2⟩
 exact E.imp (E.keep h5 (keep_blk hg) fun b _ hd => hd.2) fun b _ hd => hd.1
theorem OwnSl.own (h : OwnSl t E w base D A n c ls) : ∃ xs, Own w base t E.size A n c xs := by obtain ⟨vs, h, _⟩ := h; exact ⟨vs, h⟩
theorem app_slM {P : Program} {ops : Array Oper} {rest : List Oper} {o : Oper} {a : Act} {Q : Exit → Act → World → Prop} (w : World) (hgd : o.guard = none) (s x : Operand) (T t : TypeId)
  (ho : o.op = .call { callee := .builtin .append, args := #[s, x], argTypes := #[T, T] })
  (i : TypeInfo) (z : Value) (bytes : Nat) (ht : P.underlying T = some (.slice t)) (hi : P.info? t = some i) (hz : i.zero = some z) (hsize : i.size = E.size) (hby : i.bytes = bytes) (hzs : z.cells.size = E.size)
  (base : Nat) (D : Nat → Prop) (A : Option Addr) (n c : Nat) (ls : List α) (hs : a.eval s = .slice A n c) (hown : OwnSl t E w base D A n c ls)
  (D2 : Nat → Prop) (A2 : Option Addr) (m c2 : Nat) (us : List Value) (ms : List α) (hx : a.eval x = .slice A2 m c2) (hr : Row w D2 A2 m E.size us) (hm : ms.length = m) (hy : ∀ k (h : k < ms.length), E.At w (fun b => D b ∧ some b ≠ blk A) us (k * E.size) ms[k])
  (h63 : n + m ≤ 9223372036854775807) (hbytes : (n + m) * bytes ≤ 140737488355328) (hbase : base ≤ w.heap.size)
  (h : ∀ A3 c3 w3, OwnSl t E w3 base D A3 (n + m) c3 (ls ++ ms) → w.grownBy w3 (blk A) → (blk A3 = blk A ∨ blk A3 = some w.heap.size) → wpList P ops Q rest (a.put o.dst (.slice A3 (n + m) c3)) w3) : wpList P ops Q (o :: rest) a w := by
 obtain ⟨vs, h1, h2, h3⟩ := hown
 have hul : us.length = m * E.size := hr.1
 have hp := E.pos
 have hone : ∀ u ∈ us, u.oneCell' = true := by
  intro u hu
  obtain ⟨j, hj, rfl⟩ := List.mem_iff_getElem.1 hu
  have hjm : j / E.size < ms.length := by rw [hm]; exact Nat.div_lt_of_lt_mul (by rw [Nat.mul_comm]; omega)
  obtain ⟨u, hu1, hu2⟩ := E.one (hy (j / E.size) hjm) (j % E.size) (Nat.mod_lt _ hp)
  rw [Nat.mul_comm, Nat.div_add_mod, List.getElem?_eq_getElem hj] at hu1
  injection hu1 with hu1
  rw [hu1]
  exact hu2
 refine wpList_append_row w hgd s x T ho base t i z E.size bytes ht hi hz hsize hby hzs hp A n c vs hs h1 D2 A2 m c2 us hx hr hone (by unfold maxLen; exact h63) hbytes hbase ?_
 intro A3 c3 w3 hown3 hg3 hbk3
 refine h A3 c3 w3 ⟨vs ++ us, hown3, by rw [List.length_append]; omega, fun k hk => ?_⟩ hg3 hbk3
 have hvl : vs.length = n * E.size := h1.1
 have move : ∀ {xs : List Value} {j : Nat} {y : α}, E.At w (fun b => D b ∧ some b ≠ blk A) xs j y → E.At w3 (fun b => D b ∧ some b ≠ blk A3) xs j y := fun {xs j y} hb => by
  have hb3 := E.imp hb (E := fun b => (D b ∧ some b ≠ blk A) ∧ some b ≠ blk A3) fun b hlt hd => ⟨hd, ne_blk hbk3 hlt hd.2⟩
  exact E.imp (E.keep hb3 (keep_blk hg3) (fun b _ hd => hd.1.2)) fun b _ hd => ⟨hd.1.1, hd.2⟩
 by_cases hkn : k < ls.length
 ·rw [List.getElem_append_left hkn]
  refine move (E.shift (h3 k hkn) fun j hj u hu => ?_)
  have h4 := Nat.mul_le_mul_right E.size (show k + 1 ≤ n by omega)
  rw [Nat.add_mul] at h4
  rw [List.getElem?_append_left (by omega)]
  exact hu
 ·rw [List.getElem_append_right (by omega)]
  have hkl : k - ls.length < ms.length := by rw [List.length_append] at hk; omega
  refine move (E.shift (hy (k - ls.length) hkl) fun j hj u hu => ?_)
  have h4 : k * E.size = vs.length + (k - ls.length) * E.size := by rw [hvl, ← h2, ← Nat.add_mul]; congr 1; omega
  rw [h4, Nat.add_assoc, List.getElem?_append_right (by omega), Nat.add_sub_cancel_left]
  exact hu
theorem app_sl {P : Program} {ops : Array Oper} {rest : List Oper} {o : Oper} {a : Act} {Q : Exit → Act → World → Prop} (w : World) (hgd : o.guard = none) (s x : Operand) (T t : TypeId)
  (ho : o.op = .call { callee := .builtin .append, args := #[s, x], argTypes := #[T, T] })
  (i : TypeInfo) (z : Value) (bytes : Nat) (ht : P.underlying T = some (.slice t)) (hi : P.info? t = some i) (hz : i.zero = some z) (hsize : i.size = E.size) (hby : i.bytes = bytes) (hzs : z.cells.size = E.size)
  (base : Nat) (D : Nat → Prop) (A : Option Addr) (n c : Nat) (ls : List α) (hs : a.eval s = .slice A n c) (hown : OwnSl t E w base D A n c ls)
  (D2 : Nat → Prop) (A2 : Option Addr) (c2 : Nat) (us : List Value) (y : α) (hx : a.eval x = .slice A2 1 c2) (hr : Row w D2 A2 1 E.size us) (hy : E.At w (fun b => D b ∧ some b ≠ blk A) us 0 y)
  (h63 : n + 1 ≤ 9223372036854775807) (hbytes : (n + 1) * bytes ≤ 140737488355328) (hbase : base ≤ w.heap.size)
  (h : ∀ A3 c3 w3, OwnSl t E w3 base D A3 (n + 1) c3 (ls ++ [y]) → w.grownBy w3 (blk A) → (blk A3 = blk A ∨ blk A3 = some w.heap.size) → wpList P ops Q rest (a.put o.dst (.slice A3 (n + 1) c3)) w3) : wpList P ops Q (o :: rest) a w := by
 refine app_slM w hgd s x T t ho i z bytes ht hi hz hsize hby hzs base D A n c ls hs hown D2 A2 1 c2 us [y] hx hr rfl (fun k hk => ?_) h63 hbytes hbase h
 obtain rfl : k = 0 := by simpa using hk
 rw [Nat.zero_mul]
 exact hy
end
/-! ### kinds of elements -/
def headElt : Elt HeadP where
 size := 6
 At := HeadAt
 pos := by decide
 keep := HeadAt.keep
 imp := HeadAt.imp
 shift := by
  rintro w D vs us i j a ⟨A, c, A2, c2, e0, e1, e2, e3, e4, e5, rest⟩ h
  exact ⟨A, c, A2, c2, h 0 (by decide) _ e0, h 1 (by decide) _ e1, h 2 (by decide) _ e2, h 3 (by decide) _ e3, h 4 (by decide) _ e4, h 5 (by decide) _ e5, rest⟩
 one := by
  rintro w D vs i a ⟨A, c, A2, c2, e0, e1, e2, e3, e4, e5, rest⟩ k hk
  match k, hk with
  | 0, _ => exact ⟨_, e0, rfl⟩
  | 1, _ => exact ⟨_, e1, rfl⟩
  | 2, _ => exact ⟨_, e2, rfl⟩
  | 3, _ => exact ⟨_, e3, rfl⟩
  | 4, _ => exact ⟨_, e4, rfl⟩
  | 5, _ => exact ⟨_, e5, rfl⟩
def recElt : Elt RecP where
 size := 3
 At := RecAt
 pos := by decide
 keep := RecAt.keep
 imp := RecAt.imp
 shift := by
  rintro w D vs us i j a ⟨A, c, e0, e1, e2, rest⟩ h
  exact ⟨A, c, h 0 (by decide) _ e0, h 1 (by decide) _ e1, h 2 (by decide) _ e2, rest⟩
 one := by
  rintro w D vs i a ⟨A, c, e0, e1, e2, rest⟩ k hk
  match k, hk with
  | 0, _ => exact ⟨_, e0, rfl⟩
  | 1, _ => exact ⟨_, e1, rfl⟩
  | 2, _ => exact ⟨_, e2, rfl⟩
def imgElt : Elt (List UInt8) where
 size := 1
 At := ImgAt
 pos := by decide
 keep := ImgAt.keep
 imp := ImgAt.imp
 shift := by
  rintro w D vs us i j a ⟨A, c, e0, rest⟩ h
  exact ⟨A, c, h 0 (by decide) _ e0, rest⟩
 one := by
  rintro w D vs i a ⟨A, c, e0, rest⟩ k hk
  match k, hk with
  | 0, _ => exact ⟨_, e0, rfl⟩
def slElt {α : Type} (E : Elt α) : Elt (List α) where
 size := 1
 At w D vs i ls := ∃ A c, vs[i]? = some (.slice A ls.length c) ∧ ls.length ≤ c ∧ c ≤ 9223372036854775807 ∧ Sl E w D A ls.length ls
 pos := by decide
 keep := by
  rintro w w' D F vs i a ⟨A, c, e, h1, h2, h3⟩ hk hE
  exact ⟨A, c, e, h1, h2, h3.keep hk hE⟩
 imp := by
  rintro w D F vs i a ⟨A, c, e, h1, h2, h3⟩ hE
  exact ⟨A, c, e, h1, h2, h3.imp hE⟩
 shift := by
  rintro w D vs us i j a ⟨A, c, e0, rest⟩ h
  exact ⟨A, c, h 0 (by decide) _ e0, rest⟩
 one := by
  rintro w D vs i a ⟨A, c, e0, rest⟩ k hk
  match k, hk with
  | 0, _ => exact ⟨_, e0, rfl⟩
theorem imgs_sl {w : World} {D : Nat → Prop} {A : Option Addr} {n : Nat} {ls : List (List UInt8)} : Imgs w D A n ls ↔ Sl imgElt w D A n ls := by
 constructor
 ·rintro ⟨vs, h1, h2, h3⟩
  exact ⟨vs, h1, h2, fun k hk => by rw [show k * imgElt.size = k from Nat.mul_one k]; exact h3 k hk⟩
 ·rintro ⟨vs, h1, h2, h3⟩
  exact ⟨vs, h1, h2, fun k hk => by have := h3 k hk; rwa [show k * imgElt.size = k from Nat.mul_one k] at this⟩
theorem ownHeads_sl {w : World} {base : Nat} {D : Nat → Prop} {A : Option Addr} {n c : Nat} {hs : List HeadP} : OwnHeads w base D A n c hs ↔ OwnSl 33 headElt w base D A n c hs := Iff.rfl
theorem Sl.at1 {α : Type} {E : Elt α} {w : World} {D : Nat → Prop} {A : Option Addr} {n : Nat} {ls : List (List α)} (h : Sl (slElt E) w D A n ls) {k : Nat} (hk : k < ls.length) :
  ∃ b off Q qc, A = some ⟨b, off, none⟩ ∧ D b ∧ w.cell? ⟨b, off + k, none⟩ = some (.slice Q ls[k].length qc) ∧ ls[k].length ≤ qc ∧ qc ≤ 9223372036854775807 ∧ Sl E w D Q ls[k].length ls[k] := by
 obtain ⟨vs, h1, h2, h3⟩ := h
 obtain ⟨Q, qc, e, r1, r2, r3⟩ := h3 k hk
 obtain ⟨b, off, hA, hD, _, hcell⟩ := h1.2 (by omega)
 exact ⟨b, off, Q, qc, hA, hD, hcell k _ (by rw [show k * (slElt E).size = k from Nat.mul_one k] at e; exact e), r1, r2, r3⟩
/-
  PROVED HERE: laws for a region that draws its order where one operation may come at any time: a fork under one condition, and places where the orders meet whose frame is found by the first that comes there; no condition; no program is named.
-/
section
variable {P : Program} {ops : Array Oper} {Q : Exit → Act → World → Prop} {md : Region.Mode} {S : World → Prop}
theorem hold_fork0 {i j : Nat} {o o' : Oper} {fuel : Nat} {listed : Array Bool} {a : Act} {w : World} (hr : Region.ready md ops listed = [i, j]) (ho : ops[i]? = some o) (hw : Region.wanted o (yielded ops a.tmps) = true) (ho' : ops[j]? = some o') (hw' : Region.wanted o' (yielded ops a.tmps) = true)
  (h : ∀ K : Act → World → Prop, Hid (∀ a' w', S w' → wpAnyH P md ops Q S fuel (listed.setIfInBounds i true) a' w' → K a' w') → Oper.wp P o a w K Q)
  (h' : ∀ K : Act → World → Prop, Hid (∀ a' w', S w' → wpAnyH P md ops Q S fuel (listed.setIfInBounds j true) a' w' → K a' w') → Oper.wp P o' a w K Q) : wpAnyH P md ops Q S (fuel + 1) listed a w := by
 refine wpAnyH_all hr (by simp) fun k hk => ?_
 have hk' : k = i ∨ k = j := by simpa using hk
 unfold wpOp
 rcases hk' with rfl | rfl
 ·simp only [ho, hw, if_true]
  exact .inl (h _ (Lib.hid fun a' w' hN hk => ⟨hN, hk⟩))
 ·simp only [ho', hw', if_true]
  exact .inl (h' _ (Lib.hid fun a' w' hN hk => ⟨hN, hk⟩))
theorem hold_place1 {α : Type} (F : α → Act) (I : α → World → Prop) {fuel fuel2 : Nat} {listed listed2 : Array Bool} {a : Act} {w : World}
  (h2 : Hid (∀ x w', I x w' → wpAnyH P md ops Q S fuel2 listed2 (F x) w') → wpAnyH P md ops Q S fuel listed a w)
  (h1 : ∀ x w', I x w' → wpAnyH P md ops Q S fuel2 listed2 (F x) w') : wpAnyH P md ops Q S fuel listed a w := h2 (Lib.hid h1)
theorem hold_place2 {α β : Type} (F : α → β → Act) (I : α → β → World → Prop) {fuel fuel2 : Nat} {listed listed2 : Array Bool} {a : Act} {w : World}
  (h2 : Hid (∀ x y w', I x y w' → wpAnyH P md ops Q S fuel2 listed2 (F x y) w') → wpAnyH P md ops Q S fuel listed a w)
  (h1 : ∀ x y w', I x y w' → wpAnyH P md ops Q S fuel2 listed2 (F x y) w') : wpAnyH P md ops Q S fuel listed a w := h2 (Lib.hid h1)
theorem hold_place4 {α β γ δ : Type} (F : α → β → γ → δ → Act) (I : α → β → γ → δ → World → Prop) {fuel fuel2 : Nat} {listed listed2 : Array Bool} {a : Act} {w : World}
  (h2 : Hid (∀ x y z u w', I x y z u w' → wpAnyH P md ops Q S fuel2 listed2 (F x y z u) w') → wpAnyH P md ops Q S fuel listed a w)
  (h1 : ∀ x y z u w', I x y z u w' → wpAnyH P md ops Q S fuel2 listed2 (F x y z u) w') : wpAnyH P md ops Q S fuel listed a w := h2 (Lib.hid h1)
theorem hold_place6 {α β γ δ ε ζ : Type} (F : α → β → γ → δ → ε → ζ → Act) (I : α → β → γ → δ → ε → ζ → World → Prop) {fuel fuel2 : Nat} {listed listed2 : Array Bool} {a : Act} {w : World}
  (h2 : Hid (∀ x y z u v t w', I x y z u v t w' → wpAnyH P md ops Q S fuel2 listed2 (F x y z u v t) w') → wpAnyH P md ops Q S fuel listed a w)
  (h1 : ∀ x y z u v t w', I x y z u v t w' → wpAnyH P md ops Q S fuel2 listed2 (F x y z u v t) w') : wpAnyH P md ops Q S fuel listed a w := h2 (Lib.hid h1)
theorem hold_at {fuel : Nat} {listed listed' : Array Bool} {a a' : Act} {w : World} (h : wpAnyH P md ops Q S fuel listed' a' w) (e : a' = a) (hl : listed' = listed) : wpAnyH P md ops Q S fuel listed a w := by
 subst e
 subst hl
 exact h
end
/-
  PROVED HERE: laws for a region that draws its order, reads, calls, and at its end writes what it read: a condition on the worlds that need hold only as long as none of the named operations has come up; no condition; no program is named.
-/
def clearB (Ws : List Nat) (l : Array Bool) : Bool := Ws.all fun k => l.getD k true == false
def chkW (md : Region.Mode) (ops : Array Oper) (Ws : List Nat) (i : Nat) : Bool :=
 !Ws.contains i && Ws.all fun j => match ops[j]? with
  | some o => o.after.any fun e => Region.binds md e && (e.on == i || Ws.contains e.on)
  | none => false
section
variable {P : Program} {ops : Array Oper} {Q : Exit → Act → World → Prop} {md : Region.Mode} {Ws : List Nat} {S T : World → Prop}
def wpAnyW (P : Program) (md : Region.Mode) (ops : Array Oper) (Q : Exit → Act → World → Prop) (Ws : List Nat) (S T : World → Prop) : Nat → Array Bool → Act → World → Prop
 | 0, listed, a, w => Region.ready md ops listed = [] ∧ Q .normal a w
 | fuel + 1, listed, a, w =>
  (Region.ready md ops listed = [] → Q .normal a w) ∧
  ∀ i ∈ Region.ready md ops listed, wpOp P ops Q i (fun a' w' => (S w' ∧ (clearB Ws (listed.setIfInBounds i true) = true → T w')) ∧ wpAnyW P md ops Q Ws S T fuel (listed.setIfInBounds i true) a' w') a w
theorem wpAny_of_W : ∀ (fuel : Nat) (listed : Array Bool) (a : Act) (w : World), wpAnyW P md ops Q Ws S T fuel listed a w → wpAny P md ops Q fuel listed a w
 | 0, _, _, _, h => h
 | fuel + 1, _, _, _, h => ⟨h.1, fun i hi => wpOp_mono (fun a' w' h' => wpAny_of_W fuel _ a' w' h'.2) (h.2 i hi)⟩
theorem clear_get {l : Array Bool} (h : clearB Ws l = true) {k : Nat} (hk : k ∈ Ws) : l.getD k true = false := by
 have := List.all_eq_true.1 h k hk
 simpa using this
theorem clear_set {l : Array Bool} (h : clearB Ws l = true) {j : Nat} (hj : j ∉ Ws) : clearB Ws (l.setIfInBounds j true) = true := by
 refine List.all_eq_true.2 fun k hk => ?_
 have hne : j ≠ k := fun e => hj (e ▸ hk)
 have h1 := clear_get h hk
 rw [getD_set_ne true hne, h1]
 rfl
theorem chk_not {l : Array Bool} {i j : Nat} (hc : chkW md ops Ws i = true) (h : clearB Ws l = true) (hi : l.getD i true = false) (hj : j ∈ Region.ready md ops l) : j ∉ Ws := by
 intro hjw
 obtain ⟨_, oj, hoj, hall⟩ := mem_ready.1 hj
 have h1 := List.all_eq_true.1 (Bool.and_eq_true_iff.1 hc).2 j hjw
 rw [hoj] at h1
 obtain ⟨e, he, h2⟩ := Array.any_eq_true'.1 h1
 have h3 := Bool.and_eq_true_iff.1 h2
 have h4 := hall e he h3.1
 have hun : l.getD e.on true = false := by
  rcases Bool.or_eq_true_iff.1 h3.2 with h5 | h5
  ·have : e.on = i := by simpa using h5
   rw [this]; exact hi
  ·exact clear_get h (by simpa using h5)
 rcases Nat.lt_or_ge e.on l.size with h' | h'
 ·simp [h'] at h4 hun; rw [h4] at hun; cases hun
 ·simp [Array.getElem?_eq_none h'] at h4
theorem wpAnyW_first {i : Nat} {oi : Oper} {v : Value} (hi : ops[i]? = some oi) (hsel : ∀ (j : Nat) (o : Oper) cs b, ops[j]? = some o → o.op ≠ .select cs b)
  (hQ : ∀ c a w, Q (.panic c) (a.put oi.dst v) w → Q (.panic c) a w) (hc : chkW md ops Ws i = true) :
  ∀ (fuel : Nat) (listed : Array Bool) (a : Act) (w : World),
   (∀ j oj, ops[j]? = some oj → j ≠ i → listed.getD j true = false → (∀ e ∈ oj.after, Region.binds md e = true → e.on ≠ i) → oi.apart ops oj = true) →
   i ∈ Region.ready md ops listed → clearB Ws listed = true → YieldsIf P ops T oi v a → S w → T w →
   wpAnyW P md ops Q Ws S T fuel (listed.setIfInBounds i true) (a.put oi.dst v) w → wpAnyW P md ops Q Ws S T (fuel + 1) listed a w := by
 have hiW : i ∉ Ws := by
  have := (Bool.and_eq_true_iff.1 hc).1
  simpa using this
 intro fuel
 induction fuel with
 | zero =>
  intro listed a w _ hr _ hy hS hT H
  refine ⟨fun h => (by rw [h] at hr; cases hr), fun j hj => ?_⟩
  by_cases hji : j = i
  ·subst hji; exact hy.wpOp hi hT ⟨⟨hS, fun _ => hT⟩, H⟩
  ·have := ready_mono hj hji
   rw [H.1] at this
   cases this
 | succ fuel ih =>
  intro listed a w hfree hr hcl hy hS hT H
  refine ⟨fun h => (by rw [h] at hr; cases hr), fun j hj => ?_⟩
  by_cases hji : j = i
  ·subst hji; exact hy.wpOp hi hT ⟨⟨hS, fun _ => hT⟩, H⟩
  ·have h1 := H.2 j (ready_mono hj hji)
   obtain ⟨hjun, oj, hoj, hall⟩ := mem_ready.1 hj
   have hiun := (mem_ready.1 hr).1
   have hjW : j ∉ Ws := chk_not hc hcl hiun hj
   have hnot : ∀ e ∈ oj.after, Region.binds md e = true → e.on ≠ i := fun e he hb heq => by
    have h1 := hall e he hb
    have h0 := hiun
    rw [heq] at h1
    rcases Nat.lt_or_ge i listed.size with h' | h'
    ·simp [h'] at h0 h1; rw [h0] at h1; cases h1
    ·simp [Array.getElem?_eq_none h'] at h1
   have h2 := wpOp_putIf hoj (hfree j oj hoj hji hjun hnot) (fun cs b => hsel i oi cs b hi) (fun cs b => hsel j oj cs b hoj) hQ hy h1
   have hfree' : ∀ k ok, ops[k]? = some ok → k ≠ i → (listed.setIfInBounds j true).getD k true = false →
     (∀ e ∈ ok.after, Region.binds md e = true → e.on ≠ i) → oi.apart ops ok = true := fun k ok hk hki hun hno => by
    refine hfree k ok hk hki ?_ hno
    by_cases hjk : j = k
    ·subst hjk; exact hjun
    ·rw [getD_set_ne true hjk] at hun; exact hun
   have hcl2 : clearB Ws (listed.setIfInBounds j true) = true := clear_set hcl hjW
   have hcl3 : clearB Ws ((listed.setIfInBounds i true).setIfInBounds j true) = true := clear_set (clear_set hcl hiW) hjW
   refine wpOp_mono (fun a' w' h3 => ⟨⟨h3.2.1.1, fun _ => h3.2.1.2 hcl3⟩, ih (listed.setIfInBounds j true) a' w' hfree' (ready_mono hr (Ne.symm hji)) hcl2 h3.1 h3.2.1.1 (h3.2.1.2 hcl3) ?_⟩) h2
   rw [Array.setIfInBounds_comm _ _ hji]
   exact h3.2.2
theorem clear_same {l : Array Bool} {i : Nat} (hi : i ∉ Ws) : clearB Ws (l.setIfInBounds i true) = clearB Ws l := by
 rw [Bool.eq_iff_iff]
 refine ⟨fun h => List.all_eq_true.2 fun k hk => ?_, fun h => clear_set h hi⟩
 have h1 := clear_get h hk
 have hne : i ≠ k := fun e => hi (by rw [e]; exact hk)
 rw [getD_set_ne true hne] at h1
 rw [h1]
 rfl
theorem wpAnyW_firstS {i : Nat} {oi : Oper} {v : Value} (hi : ops[i]? = some oi) (hsel : ∀ (j : Nat) (o : Oper) cs b, ops[j]? = some o → o.op ≠ .select cs b)
  (hQ : ∀ c a w, Q (.panic c) (a.put oi.dst v) w → Q (.panic c) a w) (hiW : i ∉ Ws) :
  ∀ (fuel : Nat) (listed : Array Bool) (a : Act) (w : World),
   (∀ j oj, ops[j]? = some oj → j ≠ i → listed.getD j true = false → (∀ e ∈ oj.after, Region.binds md e = true → e.on ≠ i) → oi.apart ops oj = true) →
   i ∈ Region.ready md ops listed → YieldsIf P ops S oi v a → S w → (clearB Ws listed = true → T w) →
   wpAnyW P md ops Q Ws S T fuel (listed.setIfInBounds i true) (a.put oi.dst v) w → wpAnyW P md ops Q Ws S T (fuel + 1) listed a w := by
 intro fuel
 induction fuel with
 | zero =>
  intro listed a w _ hr hy hS hT H
  refine ⟨fun h => (by rw [h] at hr; cases hr), fun j hj => ?_⟩
  by_cases hji : j = i
  ·subst hji; exact hy.wpOp hi hS ⟨⟨hS, fun h => hT (by rwa [clear_same hiW] at h)⟩, H⟩
  ·have := ready_mono hj hji
   rw [H.1] at this
   cases this
 | succ fuel ih =>
  intro listed a w hfree hr hy hS hT H
  refine ⟨fun h => (by rw [h] at hr; cases hr), fun j hj => ?_⟩
  by_cases hji : j = i
  ·subst hji; exact hy.wpOp hi hS ⟨⟨hS, fun h => hT (by rwa [clear_same hiW] at h)⟩, H⟩
  ·have h1 := H.2 j (ready_mono hj hji)
   obtain ⟨hjun, oj, hoj, hall⟩ := mem_ready.1 hj
   have hiun := (mem_ready.1 hr).1
   have hnot : ∀ e ∈ oj.after, Region.binds md e = true → e.on ≠ i := fun e he hb heq => by
    have h1 := hall e he hb
    have h0 := hiun
    rw [heq] at h1
    rcases Nat.lt_or_ge i listed.size with h' | h'
    ·simp [h'] at h0 h1; rw [h0] at h1; cases h1
    ·simp [Array.getElem?_eq_none h'] at h1
   have h2 := wpOp_putIf hoj (hfree j oj hoj hji hjun hnot) (fun cs b => hsel i oi cs b hi) (fun cs b => hsel j oj cs b hoj) hQ hy h1
   have hfree' : ∀ k ok, ops[k]? = some ok → k ≠ i → (listed.setIfInBounds j true).getD k true = false →
     (∀ e ∈ ok.after, Region.binds md e = true → e.on ≠ i) → oi.apart ops ok = true := fun k ok hk hki hun hno => by
    refine hfree k ok hk hki ?_ hno
    by_cases hjk : j = k
    ·subst hjk; exact hjun
    ·rw [getD_set_ne true hjk] at hun; exact hun
   have hcc : clearB Ws ((listed.setIfInBounds i true).setIfInBounds j true) = clearB Ws (listed.setIfInBounds j true) := by
    rw [Array.setIfInBounds_comm _ _ (Ne.symm hji), clear_same hiW]
   refine wpOp_mono (fun a' w' h3 => ⟨⟨h3.2.1.1, fun h => h3.2.1.2 (by rw [hcc]; exact h)⟩, ih (listed.setIfInBounds j true) a' w' hfree' (ready_mono hr (Ne.symm hji)) h3.1 h3.2.1.1 (fun h => h3.2.1.2 (by rw [hcc]; exact h)) ?_⟩) h2
   rw [Array.setIfInBounds_comm _ _ hji]
   exact h3.2.2
theorem holdW_begin (Ws : List Nat) (S T : World → Prop) {id : Nat} {a : Act} {w : World} (hm : P.follows .mixedOrders = true) (h : wpAnyW P .any ops Q Ws S T ops.size (Array.replicate ops.size false) a w.drew) : (Code.region id ops true).wp P Q a w :=
 wp_region_any hm (wpAny_of_W _ _ _ _ h)
theorem holdW_read {i : Nat} {oi : Oper} {v : Value} {fuel : Nat} {listed : Array Bool} {a : Act} {w : World} (hST : S w ∧ (clearB Ws listed = true → T w)) (hi : ops[i]? = some oi)
  (hs : Region.noSelect ops = true) (hf : Region.free md ops listed i = true) (hr : (Region.ready md ops listed).contains i = true) (hc : Ws.contains i = false)
  (hQ : ∀ c a w, Q (.panic c) (a.put oi.dst v) w → Q (.panic c) a w) (hw : Region.wanted oi (yielded ops a.tmps) = true)
  (hy : ∀ w', S w' → (execOp a.eval oi).run P w' = .ok (.value v) w')
  (h : wpAnyW P md ops Q Ws S T fuel (listed.setIfInBounds i true) (a.put oi.dst v) w) : wpAnyW P md ops Q Ws S T (fuel + 1) listed a w :=
 wpAnyW_firstS hi (Region.noSelect_spec hs) hQ (by simpa using hc) fuel listed a w (Region.free_spec hi hf) (by simpa using hr) (.inl ⟨hw, hy⟩) hST.1 hST.2 h
theorem holdW_readT {i : Nat} {oi : Oper} {v : Value} {fuel : Nat} {listed : Array Bool} {a : Act} {w : World} (hST : S w ∧ (clearB Ws listed = true → T w)) (hi : ops[i]? = some oi)
  (hs : Region.noSelect ops = true) (hf : Region.free md ops listed i = true) (hr : (Region.ready md ops listed).contains i = true) (hc : chkW md ops Ws i = true) (hcl : clearB Ws listed = true)
  (hQ : ∀ c a w, Q (.panic c) (a.put oi.dst v) w → Q (.panic c) a w) (hw : Region.wanted oi (yielded ops a.tmps) = true)
  (hy : ∀ w', T w' → (execOp a.eval oi).run P w' = .ok (.value v) w')
  (h : wpAnyW P md ops Q Ws S T fuel (listed.setIfInBounds i true) (a.put oi.dst v) w) : wpAnyW P md ops Q Ws S T (fuel + 1) listed a w :=
 wpAnyW_first hi (Region.noSelect_spec hs) hQ hc fuel listed a w (Region.free_spec hi hf) (by simpa using hr) hcl (.inl ⟨hw, hy⟩) hST.1 (hST.2 hcl) h
theorem holdW_step {i : Nat} {o : Oper} {fuel : Nat} {listed : Array Bool} {a : Act} {w : World} (hr : Region.ready md ops listed = [i]) (ho : ops[i]? = some o) (hw : Region.wanted o (yielded ops a.tmps) = true)
  (h : ∀ K : Act → World → Prop, Hid (∀ a' w', (S w' ∧ (clearB Ws (listed.setIfInBounds i true) = true → T w')) → wpAnyW P md ops Q Ws S T fuel (listed.setIfInBounds i true) a' w' → K a' w') → Oper.wp P o a w K Q) : wpAnyW P md ops Q Ws S T (fuel + 1) listed a w := by
 refine ⟨fun h0 => absurd (hr ▸ h0) (by simp), fun j hj => ?_⟩
 rw [hr] at hj
 have hj' : j = i := by simpa using hj
 subst hj'
 unfold wpOp
 simp only [ho, hw, if_true]
 exact .inl (h _ (Lib.hid fun a' w' hN hk => ⟨hN, hk⟩))
theorem wpAnyW_done {listed : Array Bool} {a : Act} {w : World} (hr : Region.ready md ops listed = []) (h : Q .normal a w) : ∀ fuel, wpAnyW P md ops Q Ws S T fuel listed a w
 | 0 => ⟨hr, h⟩
 | _ + 1 => ⟨fun _ => h, by rw [hr]; simp⟩
end
/-
  PROVED HERE: what a proof's making answers, in plain law; what it answers of a chain's segments; condition: at most 1000 segments.
-/
def mayFollow : Option HeadP → HeadP → Bool
 | none, _ => true
 | some a, b => followOf a b
def gather : Option HeadP → List (List UInt8) → Option (List HeadP × List (List RecP))
 | _, [] => some ([], [])
 | p, b :: bs => if (segRead b).2.2 = 0 ∧ mayFollow p (segRead b).1 = true then (gather (some (segRead b).1) bs).map fun q => ((segRead b).1 :: q.1, (segRead b).2.1 :: q.2) else none
def seekIn (s : Int) : List HeadP → List (List RecP) → Option ProofP
 | h :: hs, rs :: rss => match rs.findIdx? (fun r => r.seq == s) with
  | some k => some (madeProof rs h k hs)
  | none => seekIn s hs rss
 | _, _ => none
def noProof : ProofP := ⟨⟨0, 0, 0, 0, [], []⟩, 0, [], [], []⟩
def makeOf (images : List (List UInt8)) (s : Int) : ProofP × Int := match gather none images with
 | none => (noProof, 40)
 | some (hs, rss) => match seekIn s hs rss with
  | none => (noProof, 20)
  | some p => (p, 0)
theorem gather_step {p : Option HeadP} {images : List (List UInt8)} {k : Nat} (hk : k < images.length) (h : (segRead images[k]).2.2 = 0 ∧ mayFollow p (segRead images[k]).1 = true) :
  gather p (images.drop k) = (gather (some (segRead images[k]).1) (images.drop (k + 1))).map fun q => ((segRead images[k]).1 :: q.1, (segRead images[k]).2.1 :: q.2) := by
 rw [List.drop_eq_getElem_cons hk, gather, if_pos h]
theorem gather_stop {p : Option HeadP} {images : List (List UInt8)} {k : Nat} (hk : k < images.length) (h : ¬ ((segRead images[k]).2.2 = 0 ∧ mayFollow p (segRead images[k]).1 = true)) : gather p (images.drop k) = none := by
 rw [List.drop_eq_getElem_cons hk, gather, if_neg h]
theorem gather_more {images : List (List UInt8)} {k : Nat} {hs : List HeadP} {rss : List (List RecP)} (hk : k < images.length) (hg : gather none images = (gather hs.getLast? (images.drop k)).map fun q => (hs ++ q.1, rss ++ q.2)) :
  (¬ ((segRead images[k]).2.2 = 0 ∧ mayFollow hs.getLast? (segRead images[k]).1 = true) → gather none images = none) ∧
  ((segRead images[k]).2.2 = 0 ∧ mayFollow hs.getLast? (segRead images[k]).1 = true → gather none images = (gather (hs ++ [(segRead images[k]).1]).getLast? (images.drop (k + 1))).map fun q => ((hs ++ [(segRead images[k]).1]) ++ q.1, (rss ++ [(segRead images[k]).2.1]) ++ q.2)) := by
 constructor
 ·intro h
  rw [hg, gather_stop hk h]
  rfl
 ·intro h
  rw [hg, gather_step hk h, List.getLast?_concat]
  cases gather (some (segRead images[k]).1) (images.drop (k + 1)) with
  | none => rfl
  | some q => simp
theorem gather_done {images : List (List UInt8)} {k : Nat} {hs : List HeadP} {rss : List (List RecP)} (hk : images.length ≤ k) (hg : gather none images = (gather hs.getLast? (images.drop k)).map fun q => (hs ++ q.1, rss ++ q.2)) : gather none images = some (hs, rss) := by
 rw [hg, List.drop_eq_nil_of_le hk, gather]
 simp
theorem gather_snoc (b : List UInt8) : ∀ (l : List (List UInt8)) (p : Option HeadP), gather p (l ++ [b]) = (gather p l).bind fun q => if (segRead b).2.2 = 0 ∧ mayFollow (q.1.getLast?.or p) (segRead b).1 = true then some (q.1 ++ [(segRead b).1], q.2 ++ [(segRead b).2.1]) else none
 | [], p => by
  simp only [List.nil_append, gather, Option.bind_some, Option.map_some, List.getLast?_nil, Option.none_or]
  try rfl
 | a :: l, p => by
  rw [List.cons_append, gather, gather]
  split
  ·rw [gather_snoc b l]
   cases gather (some (segRead a).1) l with
   | none => rfl
   | some q =>
    obtain ⟨q1, q2⟩ := q
    simp only [Option.bind_some, Option.map_some]
    have e : ((segRead a).1 :: q1).getLast?.or p = q1.getLast?.or (some (segRead a).1) := by
     cases q1 with
     | nil => rfl
     | cons x xs => rw [List.getLast?_cons_cons]; cases h : (x :: xs).getLast? with
      | none => simp at h
      | some y => rfl
    rw [e]
    split <;> simp
  ·rfl
theorem seekIn_at (s : Int) : ∀ (hs : List HeadP) (rss : List (List RecP)) (i j : Nat) (h : HeadP) (rs : List RecP), hs[i]? = some h → rss[i]? = some rs → (∀ i' rs', i' < i → rss[i']? = some rs' → rs'.findIdx? (fun r => r.seq == s) = none) → rs.findIdx? (fun r => r.seq == s) = some j → seekIn s hs rss = some (madeProof rs h j (hs.drop (i + 1)))
 | [], _, i, j, h, rs, h1, _, _, _ => by simp at h1
 | x :: hs, [], i, j, h, rs, _, h2, _, _ => by simp at h2
 | x :: hs, y :: rss, 0, j, h, rs, h1, h2, _, h4 => by
  simp only [List.getElem?_cons_zero, Option.some.injEq] at h1 h2
  subst h1
  subst h2
  rw [seekIn, h4]
  rfl
 | x :: hs, y :: rss, i + 1, j, h, rs, h1, h2, h3, h4 => by
  rw [List.getElem?_cons_succ] at h1 h2
  rw [seekIn, h3 0 y (by omega) rfl]
  exact seekIn_at s hs rss i j h rs h1 h2 (fun i' rs' hi' hr => h3 (i' + 1) rs' (by omega) (by rw [List.getElem?_cons_succ]; exact hr)) h4
theorem seekIn_none (s : Int) : ∀ (hs : List HeadP) (rss : List (List RecP)), (∀ rs ∈ rss, rs.findIdx? (fun r => r.seq == s) = none) → seekIn s hs rss = none
 | [], _, _ => by unfold seekIn; rfl
 | x :: hs, [], _ => by unfold seekIn; rfl
 | x :: hs, y :: rss, h => by
  rw [seekIn, h y (by simp)]
  exact seekIn_none s hs rss fun rs hr => h rs (by simp [hr])
/-! ### a chain's -/
def segRecs (id : List UInt8) (l : List (List (List UInt8))) (i : Nat) : List RecP := chainRecs (chainTo id l i).next (l.getD i [])
def chainSegs (id : List UInt8) (l : List (List (List UInt8))) (n : Nat) : List (List RecP) := (List.range n).map (segRecs id l)
theorem chain_last (id : List UInt8) (l : List (List (List UInt8))) {n : Nat} (h0 : n ≠ 0) : (chainTo id l n).heads.getLast? = some (chainHead (n - 1) (chainTo id l (n - 1)).next (chainTo id l (n - 1)).prev (segRecs id l (n - 1))) := by
 rw [List.getLast?_eq_getElem?, chain_heads_len, chain_head_at id l (n - 1) n (by omega)]
 rfl
theorem chain_gather (id : List UInt8) (l : List (List (List UInt8))) : ∀ n, n ≤ 1000 → gather none (chainTo id l n).images = some ((chainTo id l n).heads, chainSegs id l n)
 | 0, _ => rfl
 | n + 1, hn => by
  have ho := chain_ok id l n (by omega)
  have q0 := ho.next0
  have q1 := ho.next1
  have hf := chain_fine (i := n) (next := (chainTo id l n).next) (raw := l.getD n []) (by omega) (by omega) (by omega) ho.prev
  have e1 : (chainTo id l (n + 1)).images = (chainTo id l n).images ++ [segBytes n (chainTo id l n).next (chainTo id l n).prev (segRecs id l n)] := rfl
  have e2 : (chainTo id l (n + 1)).heads = (chainTo id l n).heads ++ [chainHead n (chainTo id l n).next (chainTo id l n).prev (segRecs id l n)] := rfl
  have hr : segRead (segBytes n (chainTo id l n).next (chainTo id l n).prev (segRecs id l n)) = (chainHead n (chainTo id l n).next (chainTo id l n).prev (segRecs id l n), segRecs id l n, 0) := hf.read
  have hm : mayFollow (chainTo id l n).heads.getLast? (chainHead n (chainTo id l n).next (chainTo id l n).prev (segRecs id l n)) = true := by
   by_cases h0 : n = 0
   ·subst h0; rfl
   ·rw [chain_last id l h0]
    refine chain_follows id l (n := n + 1) (k := n - 1) hn (by omega) (chain_head_at id l (n - 1) (n + 1) (by omega)) ?_
    rw [show n - 1 + 1 = n from by omega]
    exact chain_head_at id l n (n + 1) (by omega)
  rw [e1, gather_snoc, chain_gather id l n (by omega), Option.bind_some, hr, Option.or_none]
  dsimp only
  rw [if_pos ⟨rfl, hm⟩, e2]
  unfold chainSegs
  rw [List.range_succ, List.map_append]
  rfl
theorem chain_next_mono (id : List UInt8) (l : List (List (List UInt8))) {i : Nat} : ∀ n, i ≤ n → (chainTo id l i).next ≤ (chainTo id l n).next
 | 0, h => by obtain rfl : i = 0 := (by omega); exact Int.le_refl _
 | n + 1, h => by
  by_cases e : i = n + 1
  ·subst e; exact Int.le_refl _
  ·have := chain_next_mono id l (i := i) n (by omega)
   have e1 : (chainTo id l (n + 1)).next = (chainTo id l n).next + (segRecs id l n).length := rfl
   omega
theorem segRecs_seq (id : List UInt8) (l : List (List (List UInt8))) {i : Nat} (hi : i ≤ 1000) {j : Nat} (hj : j < (segRecs id l i).length) : (segRecs id l i)[j].seq = (chainTo id l i).next + j ∧ recRight (segRecs id l i)[j] = true := by
 have ho := chain_ok id l i hi
 have q0 := ho.next0
 have q1 := ho.next1
 have := chainRecs_get (next := (chainTo id l i).next) (raw := l.getD i []) (by omega) (by omega) j hj
 exact ⟨this.1, this.2.2⟩
theorem segRecs_find (id : List UInt8) (l : List (List (List UInt8))) {i : Nat} (hi : i ≤ 1000) (s : Int) :
  (segRecs id l i).findIdx? (fun r => r.seq == s) = if (chainTo id l i).next ≤ s ∧ s < (chainTo id l (i + 1)).next then some (s - (chainTo id l i).next).toNat else none := by
 have e1 : (chainTo id l (i + 1)).next = (chainTo id l i).next + (segRecs id l i).length := rfl
 have hs := fun j (hj : j < (segRecs id l i).length) => (segRecs_seq id l hi hj).1
 split
 ·rename_i h
  have hj : (s - (chainTo id l i).next).toNat < (segRecs id l i).length := by omega
  refine List.findIdx?_eq_some_iff_getElem.2 ⟨hj, ?_, fun j hjk => ?_⟩
  ·rw [hs _ hj, beq_iff_eq]; omega
  ·rw [hs _ (by omega)]; simp; omega
 ·rename_i h
  refine List.findIdx?_eq_none_iff.2 fun r hr => ?_
  obtain ⟨j, hj, rfl⟩ := List.mem_iff_getElem.1 hr
  rw [hs _ hj]
  simp
  omega
theorem chain_find (id : List UInt8) (l : List (List (List UInt8))) : ∀ n (s : Int), 1 ≤ s → s < (chainTo id l n).next → ∃ i, i < n ∧ (chainTo id l i).next ≤ s ∧ s < (chainTo id l (i + 1)).next
 | 0, s, h0, h1 => by
  have : (chainTo id l 0).next = 1 := rfl
  omega
 | n + 1, s, h0, h1 => by
  by_cases h : s < (chainTo id l n).next
  ·obtain ⟨i, hi, r⟩ := chain_find id l n s h0 h
   exact ⟨i, by omega, r⟩
  ·exact ⟨n, by omega, by omega, h1⟩
def chainProof (id : List UInt8) (l : List (List (List UInt8))) (n i : Nat) (s : Int) : ProofP := madeProof (segRecs id l i) (chainHead i (chainTo id l i).next (chainTo id l i).prev (segRecs id l i)) (s - (chainTo id l i).next).toNat ((chainTo id l n).heads.drop (i + 1))
theorem chain_make_in (id : List UInt8) (l : List (List (List UInt8))) {n i : Nat} (hn : n ≤ 1000) (hi : i < n) {s : Int} (h0 : (chainTo id l i).next ≤ s) (h1 : s < (chainTo id l (i + 1)).next) : makeOf (chainTo id l n).images s = (chainProof id l n i s, 0) := by
 have hsk : seekIn s (chainTo id l n).heads (chainSegs id l n) = some (chainProof id l n i s) := by
  refine seekIn_at s _ _ i (s - (chainTo id l i).next).toNat _ (segRecs id l i) (chain_head_at id l i n hi) ?_ ?_ ?_
  ·unfold chainSegs; rw [List.getElem?_map, List.getElem?_range hi]; rfl
  ·intro i' rs' hi' hr
   unfold chainSegs at hr
   rw [List.getElem?_map, List.getElem?_range (by omega)] at hr
   injection hr with hr
   subst hr
   rw [segRecs_find id l (by omega), if_neg]
   have := chain_next_mono id l (i := i' + 1) i (by omega)
   omega
  ·rw [segRecs_find id l (by omega), if_pos ⟨h0, h1⟩]
 unfold makeOf
 rw [chain_gather id l n hn]
 dsimp only
 rw [hsk]
theorem chain_make_out (id : List UInt8) (l : List (List (List UInt8))) {n : Nat} (hn : n ≤ 1000) {s : Int} (h : s < 1 ∨ (chainTo id l n).next ≤ s) : makeOf (chainTo id l n).images s = (noProof, 20) := by
 have hsk : seekIn s (chainTo id l n).heads (chainSegs id l n) = none := by
  refine seekIn_none s _ _ fun rs hr => ?_
  unfold chainSegs at hr
  obtain ⟨i, hi, rfl⟩ := List.mem_map.1 hr
  have hi : i < n := by simpa using hi
  rw [segRecs_find id l (by omega), if_neg]
  have h1 := (chain_ok id l i (by omega)).next0
  have := chain_next_mono id l (i := i + 1) n (by omega)
  omega
 unfold makeOf
 rw [chain_gather id l n hn]
 dsimp only
 rw [hsk]
theorem lastOf_drop (id : List UInt8) (l : List (List (List UInt8))) {n i : Nat} (hn : n ≤ 1000) (hi : i < n) {h : HeadP} (hh : (chainTo id l n).heads[i]? = some h) : ∃ x, lastOf h ((chainTo id l n).heads.drop (i + 1)) = some x ∧ (chainTo id l n).heads.getLast? = some x := by
 have hl := chain_heads_len id l n
 have hd : h :: (chainTo id l n).heads.drop (i + 1) = (chainTo id l n).heads.drop i := by
  obtain ⟨h1, h2⟩ := List.getElem?_eq_some_iff.1 hh
  rw [List.drop_eq_getElem_cons h1, h2]
 refine ⟨_, lastOf_all _ h fun k x y hx hy => ?_, ?_⟩
 ·rw [hd, List.getElem?_drop] at hx hy
  have hk : i + (k + 1) < n := by
   have := (List.getElem?_eq_some_iff.1 hy).1
   omega
  exact chain_follows id l (k := i + k) hn (by omega) hx hy
 ·rw [List.getLast?_eq_getElem?, ← List.getLast?_eq_getElem?]
  have : (chainTo id l n).heads.getLast? = ((chainTo id l n).heads.drop i).getLast? := by rw [List.getLast?_drop, if_neg (by omega)]
  rw [this, ← hd]
  exact List.getLast?_eq_some_getLast (by simp)
theorem chain_check (id : List UInt8) (l : List (List (List UInt8))) {n i : Nat} (hn : n ≤ 1000) (hi : i < n) {s : Int} (h0 : (chainTo id l i).next ≤ s) (h1 : s < (chainTo id l (i + 1)).next) :
  ∃ r, (segRecs id l i)[(s - (chainTo id l i).next).toNat]? = some r ∧ checkProof (headSeal id (chainTo id l n).heads) (chainProof id l n i s) = some r ∧ r.seq = s := by
 have e1 : (chainTo id l (i + 1)).next = (chainTo id l i).next + (segRecs id l i).length := rfl
 have hj : (s - (chainTo id l i).next).toNat < (segRecs id l i).length := by omega
 have hg := segRecs_seq id l (i := i) (by omega) hj
 have q0 := (chain_ok id l i (by omega)).next0
 have q1 := (chain_ok id l i (by omega)).next1
 have hl := chainRecs_length (chainTo id l i).next (l.getD i [])
 have hl6 : (segRecs id l i).length ≤ 6 := hl.2
 obtain ⟨x, hx1, hx2⟩ := lastOf_drop id l hn hi (chain_head_at id l i n hi)
 refine ⟨_, List.getElem?_eq_getElem hj, check_made hj hg.2 (by omega) rfl rfl ?_ hx1 ?_, by rw [hg.1]; omega⟩
 ·rw [hg.1]
  show _ = IntKind.u64.wrap ((chainTo id l i).next + IntKind.u64.wrap _)
  rw [IntKind.wrap_u64, IntKind.wrap_u64]
  omega
 ·unfold headSeal
  rw [hx2]
/-
  PROVED HERE: what segment.Leaves and permafrostref17.Leaves answer, with the rows' capacities bounded; condition: lengths that a slice may have.
-/
theorem OwnImgs.apart {w : World} {base base' : Nat} {D : Nat → Prop} {A A' : Option Addr} {n c n' c' : Nat} {ls : List (List UInt8)} {bs : List UInt8} (h : OwnImgs w base D A n c ls) (hb : OwnB w base' 5 A' n' c' bs) : Bs w (fun b => base' ≤ b ∧ some b ≠ blk A) A' n' bs := by
 obtain ⟨_, h1, _⟩ := h
 exact own_u8_ne h1 hb
set_option maxRecDepth 100000 in
set_option maxHeartbeats 2000000 in
theorem leavesM_any (D : Nat → Prop) (A : Option Addr) (n c : Nat) (rs : List RecP) (w : World) (hB : Recs w D A n rs) (hn : n ≤ 1099511620000) :
  Calls Tryz.prog 35 #[.slice A n c] w fun e w' => (∃ A' c', e = .returned (.slice A' n c') ∧ OwnImgs w' w.heap.size (fun b => w.heap.size ≤ b) A' n c' (leavesOf rs)) ∧ New w w' := by
 have hl := hB.len
 have HB := Lib.hid hB
 clear hB
 go_enter Tryz.func35, Tryz.ntmps35
 go_wp2_with fail
 go_loopw [3, 10] (fun s3 i wx => ∃ (k : Nat) (A' : Option Addr) (c' : Nat), k ≤ n ∧ i = .int .i64 (k : Int) ∧ s3 = .slice A' k c' ∧ OwnImgs wx w.heap.size (fun b => w.heap.size ≤ b) A' k c' (leavesOf (rs.take k)) ∧ New w wx) (fun _ i _ => n - (intOf i).toNat)
 case atStart => exact ⟨0, none, 0, Nat.zero_le _, rfl, rfl, OwnImgs.nil _ _ _, New.refl _⟩
 case round =>
  obtain ⟨k, A1, c1, hk, rfl, rfl, hown, hK⟩ := hrel
  by_cases hlt : k < n
  ·obtain ⟨b, off, A', c', rfl, h1, h2, h3, hc', hb, hs0, hs1, hc9⟩ := (HB.out.new hK).at_ (k := k) (by omega)
   have HLT := Lib.hid (leaves_take rs k (by omega))
   generalize rs[k]'_ = r at *
   have hK0 : New w (wr.alloc (.cells #[.int .i64 r.kind, .int .u64 r.seq, .slice A' r.body.length c'] 42)) := hK.alloc _
   have hN0 : New wr (wr.alloc (.cells #[.int .i64 r.kind, .int .u64 r.seq, .slice A' r.body.length c'] 42)) := (New.refl wr).alloc _
   by_cases hr : recRight r = true
   ·have HE := Lib.hid (encode_yes D A' r.body.length c' r _ (hb.new hN0) hc' (by omega) hs0 hs1 hr)
    rw [if_pos hr] at HLT
    clear hb hc' hs0 hs1 hr
    go_wp2_with fail
    refine HE.out.mono ?_
    rintro e w1 ⟨⟨A2, c2, rfl, hown2⟩, hK1⟩
    have hN1 := hN0.new hK1
    have hown1 := hown.new hN1
    have hK01 := hK.new hN1
    have hge : w.heap.size ≤ (wr.alloc (.cells #[.int .i64 r.kind, .int .u64 r.seq, .slice A' r.body.length c'] 42)).heap.size := hK0.size
    have hy := (Row.imp (hown1.apart hown2) (E := fun b => w.heap.size ≤ b ∧ some b ≠ blk A1) (fun b _ h => ⟨Nat.le_trans hge h.1, h.2⟩)).alloc (.cells #[.slice A2 (recEnc r).length c2] 31)
    have hmc := own_cap hown2
    have hmx := own_capMax hown2
    have hown1' := hown1.new ((New.refl w1).alloc (.cells #[.slice A2 (recEnc r).length c2] 31))
    have hrow := row_one w1 31 (.slice A2 (recEnc r).length c2)
    have hbd : k + 1 ≤ 1099511627776 := by omega
    have hsz : w.heap.size ≤ (w1.alloc (.cells #[.slice A2 (recEnc r).length c2] 31)).heap.size := (hK01.alloc _).size
    clear hown hK hN1 hN0 hK0 hK1 h1 h2 h3 HE hown2 hge
    go_wp2_with (at_builtin; refine app_imgs _ rfl (.tmp 19) (.tmp 21) rfl w.heap.size (fun b => w.heap.size ≤ b) A1 k c1 _ rfl hown1' (fun g => w1.heap.size ≤ g) _ 1 A2 _ c2 _ rfl hrow hy hmc hmx hbd hsz ?_; intro A3 c3 w3 hown3 hg3 hbk3)
    have hK3 := (hK01.alloc (.cells #[.slice A2 (recEnc r).length c2] 31)).grown hg3 (fun k hk _ => (hown1.lt k hk).1)
    clear hown1 hown1' hrow hy hmc hg3 hbk3 hK01 hsz
    go_roundw
    case rel => exact ⟨k + 1, _, _, by omega, by go_num, rfl, by rw [HLT.out]; exact hown3, hK3⟩
    case measure => simp [intOf]; omega
   ·have hr' : recRight r = false := by simpa using hr
    have HE := Lib.hid (encode_no D A' r.body.length c' r _ (hb.new hN0) hc' (by omega) hs0 hs1 hr')
    rw [if_neg hr] at HLT
    clear hb hc' hs0 hs1 hr hr'
    go_wp2_with fail
    refine HE.out.mono ?_
    rintro e w1 ⟨rfl, hK1⟩
    have hN1 := hN0.new hK1
    have hown1 := hown.new hN1
    have hK01 := hK.new hN1
    have hy : Bs (w1.alloc (.cells #[.slice none 0 0] 31)) (fun b => w.heap.size ≤ b ∧ some b ≠ blk A1) none 0 [] := Row.nil _ _ _ _
    have hown1' := hown1.new ((New.refl w1).alloc (.cells #[.slice none 0 0] 31))
    have hrow := row_one w1 31 (.slice none 0 0)
    have hbd : k + 1 ≤ 1099511627776 := by omega
    have hsz : w.heap.size ≤ (w1.alloc (.cells #[.slice none 0 0] 31)).heap.size := (hK01.alloc _).size
    clear hown hK hN1 hN0 hK0 hK1 h1 h2 h3 HE
    go_wp2_with (at_builtin; refine app_imgs _ rfl (.tmp 19) (.tmp 21) rfl w.heap.size (fun b => w.heap.size ≤ b) A1 k c1 _ rfl hown1' (fun g => w1.heap.size ≤ g) _ 1 none _ 0 _ rfl hrow hy (Nat.le_refl _) (by decide) hbd hsz ?_; intro A3 c3 w3 hown3 hg3 hbk3)
    have hK3 := (hK01.alloc (.cells #[.slice none 0 0] 31)).grown hg3 (fun k hk _ => (hown1.lt k hk).1)
    clear hown1 hown1' hrow hy hg3 hbk3 hK01 hsz
    go_roundw
    case rel => exact ⟨k + 1, _, _, by omega, by go_num, rfl, by rw [HLT.out]; exact hown3, hK3⟩
    case measure => simp [intOf]; omega
  ·obtain rfl : k = n := by omega
   rw [List.take_of_length_le (by omega)] at hown
   go_wp2_with fail
   go_ret
   exact ⟨⟨_, _, rfl, hown⟩, hK⟩
set_option maxRecDepth 100000 in
set_option maxHeartbeats 2000000 in
theorem leavesM17_any (D : Nat → Prop) (A : Option Addr) (n c : Nat) (rs : List RecP) (w : World) (hB : Recs w D A n rs) (hn : n ≤ 1099511620000) :
  Calls Tryz.prog 50 #[.slice A n c] w fun e w' => (∃ A' c', e = .returned (.slice A' n c') ∧ OwnImgs w' w.heap.size (fun b => w.heap.size ≤ b) A' n c' (leavesOf rs)) ∧ New w w' := by
 have hl := hB.len
 have HB := Lib.hid hB
 clear hB
 go_enter Tryz.func50, Tryz.ntmps50
 go_wp2_with fail
 go_loopw [3, 4] (fun s3 i wx => ∃ (k : Nat) (A' : Option Addr) (c' : Nat), k ≤ n ∧ i = .int .i64 (k : Int) ∧ s3 = .slice A' k c' ∧ OwnImgs wx w.heap.size (fun b => w.heap.size ≤ b) A' k c' (leavesOf (rs.take k)) ∧ New w wx) (fun _ i _ => n - (intOf i).toNat)
 case atStart => exact ⟨0, none, 0, Nat.zero_le _, rfl, rfl, OwnImgs.nil _ _ _, New.refl _⟩
 case round =>
  obtain ⟨k, A1, c1, hk, rfl, rfl, hown, hK⟩ := hrel
  by_cases hlt : k < n
  ·obtain ⟨b, off, A', c', rfl, h1, h2, h3, hc', hb, hs0, hs1, hc9⟩ := (HB.out.new hK).at_ (k := k) (by omega)
   have HLT := Lib.hid (leaves_take rs k (by omega))
   generalize rs[k]'_ = r at *
   have HRI := Lib.hid (fun W => right16_any r.kind r.seq A' r.body.length c' r W rfl rfl rfl (by omega))
   have HE := Lib.hid (fun W hW => encode16_any D A' r.body.length c' r W (hb.new hW) hc' (by omega) hs0 hs1)
   have H1 := Lib.hid h1
   have H2 := Lib.hid h2
   have H3 := Lib.hid h3
   clear hb hc' hs0 hs1
   go_wp2_with fail
   refine (HRI.out wr).mono ?_
   rintro e w0 ⟨rfl, hK0⟩
   have g1 := hK0.cell_some H1.out trivial
   have g2 := hK0.cell_some H2.out trivial
   have g3 := hK0.cell_some H3.out trivial
   have hown0 := hown.new hK0
   have hK00 := hK.new hK0
   have HK0 := Lib.hid hK0
   clear h1 h2 h3 hown hK hK0 HRI
   by_cases hr : recRight r = true
   ·rw [if_pos hr] at HLT
    rw [hr]
    clear hr
    go_wp2_with fail
    refine (HE.out w0 HK0.out).mono ?_
    rintro e w1 ⟨⟨A2, c2, rfl, hown2⟩, hK1⟩
    have hown1 := hown0.new hK1
    have hK01 := hK00.new hK1
    have hge : w.heap.size ≤ w0.heap.size := hK00.size
    have hy := (Row.imp (hown1.apart hown2) (E := fun b => w.heap.size ≤ b ∧ some b ≠ blk A1) (fun b _ h => ⟨Nat.le_trans hge h.1, h.2⟩)).alloc (.cells #[.slice A2 (recEnc r).length c2] 31)
    have hmc := own_cap hown2
    have hmx := own_capMax hown2
    have hown1' := hown1.new ((New.refl w1).alloc (.cells #[.slice A2 (recEnc r).length c2] 31))
    have hrow := row_one w1 31 (.slice A2 (recEnc r).length c2)
    have hbd : k + 1 ≤ 1099511627776 := by omega
    have hsz : w.heap.size ≤ (w1.alloc (.cells #[.slice A2 (recEnc r).length c2] 31)).heap.size := (hK01.alloc _).size
    clear hown0 hK00 hK1 g1 g2 g3 HE hown2 hge
    go_wp2_with (at_builtin; refine app_imgs _ rfl _ _ rfl w.heap.size (fun b => w.heap.size ≤ b) A1 k c1 _ rfl hown1' (fun g => w1.heap.size ≤ g) _ 1 A2 _ c2 _ rfl hrow hy hmc hmx hbd hsz ?_; intro A3 c3 w3 hown3 hg3 hbk3)
    have hK3 := (hK01.alloc (.cells #[.slice A2 (recEnc r).length c2] 31)).grown hg3 (fun k hk _ => (hown1.lt k hk).1)
    clear hown1 hown1' hrow hy hmc hg3 hbk3 hK01 hsz
    go_roundw
    case rel => exact ⟨k + 1, _, _, by omega, by go_num, rfl, by rw [HLT.out]; exact hown3, hK3⟩
    case measure => simp [intOf]; omega
   ·have hr' : recRight r = false := by simpa using hr
    rw [if_neg hr] at HLT
    rw [hr']
    clear hr hr'
    have hy : Bs (w0.alloc (.cells #[.slice none 0 0] 31)) (fun b => w.heap.size ≤ b ∧ some b ≠ blk A1) none 0 [] := Row.nil _ _ _ _
    have hown1' := hown0.new ((New.refl w0).alloc (.cells #[.slice none 0 0] 31))
    have hrow := row_one w0 31 (.slice none 0 0)
    have hbd : k + 1 ≤ 1099511627776 := by omega
    have hsz : w.heap.size ≤ (w0.alloc (.cells #[.slice none 0 0] 31)).heap.size := (hK00.alloc _).size
    clear g1 g2 g3 HE
    go_wp2_with (at_builtin; refine app_imgs _ rfl _ _ rfl w.heap.size (fun b => w.heap.size ≤ b) A1 k c1 _ rfl hown1' (fun g => w0.heap.size ≤ g) _ 1 none _ 0 _ rfl hrow hy (Nat.le_refl _) (by decide) hbd hsz ?_; intro A3 c3 w3 hown3 hg3 hbk3)
    have hK3 := (hK00.alloc (.cells #[.slice none 0 0] 31)).grown hg3 (fun k hk _ => (hown0.lt k hk).1)
    clear hown0 hown1' hrow hy hg3 hbk3 hK00 hsz
    go_roundw
    case rel => exact ⟨k + 1, _, _, by omega, by go_num, rfl, by rw [HLT.out]; exact hown3, hK3⟩
    case measure => simp [intOf]; omega
  ·obtain rfl : k = n := by omega
   rw [List.take_of_length_le (by omega)] at hown
   go_wp2_with fail
   go_ret
   exact ⟨⟨_, _, rfl, hown⟩, hK⟩
/-
  PROVED HERE: the laws of append at rows of elements for one operation alone; no condition; no program is named.
-/
section
variable {α : Type} {E : Elt α}
theorem wp_slM {P : Program} {o : Oper} {a : Act} {K : Act → World → Prop} {Q : Exit → Act → World → Prop} (w : World) (s x : Operand) (T t : TypeId)
  (ho : o.op = .call { callee := .builtin .append, args := #[s, x], argTypes := #[T, T] })
  (i : TypeInfo) (z : Value) (bytes : Nat) (ht : P.underlying T = some (.slice t)) (hi : P.info? t = some i) (hz : i.zero = some z) (hsize : i.size = E.size) (hby : i.bytes = bytes) (hzs : z.cells.size = E.size)
  (base : Nat) (D : Nat → Prop) (A : Option Addr) (n c : Nat) (ls : List α) (hs : a.eval s = .slice A n c) (hown : OwnSl t E w base D A n c ls)
  (D2 : Nat → Prop) (A2 : Option Addr) (m c2 : Nat) (us : List Value) (ms : List α) (hx : a.eval x = .slice A2 m c2) (hr : Row w D2 A2 m E.size us) (hm : ms.length = m) (hy : ∀ k (h : k < ms.length), E.At w (fun b => D b ∧ some b ≠ blk A) us (k * E.size) ms[k])
  (h63 : n + m ≤ 9223372036854775807) (hbytes : (n + m) * bytes ≤ 140737488355328) (hbase : base ≤ w.heap.size)
  (h : ∀ A3 c3 w3, OwnSl t E w3 base D A3 (n + m) c3 (ls ++ ms) → w.grownBy w3 (blk A) → (blk A3 = blk A ∨ blk A3 = some w.heap.size) → K (a.put o.dst (.slice A3 (n + m) c3)) w3) : o.wp P a w K Q := by
 obtain ⟨vs, h1, h2, h3⟩ := hown
 have hul : us.length = m * E.size := hr.1
 have hp := E.pos
 have hone : ∀ u ∈ us, u.oneCell' = true := by
  intro u hu
  obtain ⟨j, hj, rfl⟩ := List.mem_iff_getElem.1 hu
  have hjm : j / E.size < ms.length := by rw [hm]; exact Nat.div_lt_of_lt_mul (by rw [Nat.mul_comm]; omega)
  obtain ⟨u, hu1, hu2⟩ := E.one (hy (j / E.size) hjm) (j % E.size) (Nat.mod_lt _ hp)
  rw [Nat.mul_comm, Nat.div_add_mod, List.getElem?_eq_getElem hj] at hu1
  injection hu1 with hu1
  rw [hu1]
  exact hu2
 refine wp_append_row w s x T ho base t i z E.size bytes ht hi hz hsize hby hzs hp A n c vs hs h1 D2 A2 m c2 us hx hr hone (by unfold maxLen; exact h63) hbytes hbase ?_
 intro A3 c3 w3 hown3 hg3 hbk3
 refine h A3 c3 w3 ⟨vs ++ us, hown3, by rw [List.length_append]; omega, fun k hk => ?_⟩ hg3 hbk3
 have hvl : vs.length = n * E.size := h1.1
 have move : ∀ {xs : List Value} {j : Nat} {y : α}, E.At w (fun b => D b ∧ some b ≠ blk A) xs j y → E.At w3 (fun b => D b ∧ some b ≠ blk A3) xs j y := fun {xs j y} hb => by
  have hb3 := E.imp hb (E := fun b => (D b ∧ some b ≠ blk A) ∧ some b ≠ blk A3) fun b hlt hd => ⟨hd, ne_blk hbk3 hlt hd.2⟩
  exact E.imp (E.keep hb3 (keep_blk hg3) (fun b _ hd => hd.1.2)) fun b _ hd => ⟨hd.1.1, hd.2⟩
 by_cases hkn : k < ls.length
 ·rw [List.getElem_append_left hkn]
  refine move (E.shift (h3 k hkn) fun j hj u hu => ?_)
  have h4 := Nat.mul_le_mul_right E.size (show k + 1 ≤ n by omega)
  rw [Nat.add_mul] at h4
  rw [List.getElem?_append_left (by omega)]
  exact hu
 ·rw [List.getElem_append_right (by omega)]
  have hkl : k - ls.length < ms.length := by rw [List.length_append] at hk; omega
  refine move (E.shift (hy (k - ls.length) hkl) fun j hj u hu => ?_)
  have h4 : k * E.size = vs.length + (k - ls.length) * E.size := by rw [hvl, ← h2, ← Nat.add_mul]; congr 1; omega
  rw [h4, Nat.add_assoc, List.getElem?_append_right (by omega), Nat.add_sub_cancel_left]
  exact hu
theorem wp_sl {P : Program} {o : Oper} {a : Act} {K : Act → World → Prop} {Q : Exit → Act → World → Prop} (w : World) (s x : Operand) (T t : TypeId)
  (ho : o.op = .call { callee := .builtin .append, args := #[s, x], argTypes := #[T, T] })
  (i : TypeInfo) (z : Value) (bytes : Nat) (ht : P.underlying T = some (.slice t)) (hi : P.info? t = some i) (hz : i.zero = some z) (hsize : i.size = E.size) (hby : i.bytes = bytes) (hzs : z.cells.size = E.size)
  (base : Nat) (D : Nat → Prop) (A : Option Addr) (n c : Nat) (ls : List α) (hs : a.eval s = .slice A n c) (hown : OwnSl t E w base D A n c ls)
  (D2 : Nat → Prop) (A2 : Option Addr) (c2 : Nat) (us : List Value) (y : α) (hx : a.eval x = .slice A2 1 c2) (hr : Row w D2 A2 1 E.size us) (hy : E.At w (fun b => D b ∧ some b ≠ blk A) us 0 y)
  (h63 : n + 1 ≤ 9223372036854775807) (hbytes : (n + 1) * bytes ≤ 140737488355328) (hbase : base ≤ w.heap.size)
  (h : ∀ A3 c3 w3, OwnSl t E w3 base D A3 (n + 1) c3 (ls ++ [y]) → w.grownBy w3 (blk A) → (blk A3 = blk A ∨ blk A3 = some w.heap.size) → K (a.put o.dst (.slice A3 (n + 1) c3)) w3) : o.wp P a w K Q := by
 refine wp_slM w s x T t ho i z bytes ht hi hz hsize hby hzs base D A n c ls hs hown D2 A2 1 c2 us [y] hx hr rfl (fun k hk => ?_) h63 hbytes hbase h
 obtain rfl : k = 0 := by simpa using hk
 rw [Nat.zero_mul]
 exact hy
end
end Go.Proofs.YtfegdgaanmcecaaGreatDoor
