/-
  PROVED HERE: texts that belong together, one behind the other; what each proves, and under which conditions, its own opening remark says: Ref17a, Seal17, Heads, OwnHeads, Zeros, BuildAny, Args17, Build17, Imgs, OwnImgs, HeadsM, Law18.
-/
import Derived.Test.YtijjhfkgbmckkaaGreatDoorPkF25
/-
  PROVED HERE: what permafrostref17.Fits, Leaves and hash answer: what the program's do; conditions: lengths that a slice may have.
-/
namespace Go.Proofs.YtijjhfkgbmckkaaGreatDoor
open Go.RowKit
/-
  PROVED HERE: what permafrostref17.Seal answers: what segment.Seal does; conditions: lengths that a slice may have.
-/
/-
  PROVED HERE: slices of heads; what seal.Genesis and Head, permafrostref18.Genesis answer; conditions: lengths that a slice may have.
-/
def HeadAt (w : World) (D : Nat → Prop) (vs : List Value) (i : Nat) (h : HeadP) : Prop :=
 ∃ A c A2 c2, vs[i]? = some (.int .i64 h.index) ∧ vs[i + 1]? = some (.int .u64 h.first) ∧ vs[i + 2]? = some (.int .i64 h.count) ∧ vs[i + 3]? = some (.int .i64 h.bytes) ∧ vs[i + 4]? = some (.slice A h.prev.length c) ∧ vs[i + 5]? = some (.slice A2 h.root.length c2) ∧
  h.prev.length ≤ c ∧ h.root.length ≤ c2 ∧ Bs w D A h.prev.length h.prev ∧ Bs w D A2 h.root.length h.root ∧ 0 ≤ h.first ∧ h.first ≤ 18446744073709551615
theorem HeadAt.keep {w w' : World} {D E : Nat → Prop} {vs : List Value} {i : Nat} {h : HeadP} (hh : HeadAt w D vs i h) (hk : Keep E w w') (hE : ∀ b, b < w.heap.size → D b → E b) : HeadAt w' D vs i h := by
 obtain ⟨A, c, A2, c2, e0, e1, e2, e3, e4, e5, l1, l2, b1, b2, f⟩ := hh
 exact ⟨A, c, A2, c2, e0, e1, e2, e3, e4, e5, l1, l2, b1.keep hk hE, b2.keep hk hE, f⟩
theorem HeadAt.imp {w : World} {D E : Nat → Prop} {vs : List Value} {i : Nat} {h : HeadP} (hh : HeadAt w D vs i h) (hE : ∀ b, b < w.heap.size → D b → E b) : HeadAt w E vs i h := by
 obtain ⟨A, c, A2, c2, e0, e1, e2, e3, e4, e5, l1, l2, b1, b2, f⟩ := hh
 exact ⟨A, c, A2, c2, e0, e1, e2, e3, e4, e5, l1, l2, b1.imp hE, b2.imp hE, f⟩
def Heads (w : World) (D : Nat → Prop) (A : Option Addr) (n : Nat) (hs : List HeadP) : Prop :=
 ∃ vs : List Value, Row w D A n 6 vs ∧ hs.length = n ∧ ∀ k (h : k < hs.length), HeadAt w D vs (k * 6) hs[k]
section
variable {w w' : World} {D E : Nat → Prop} {A : Option Addr} {n : Nat} {hs : List HeadP}
theorem Heads.len (h : Heads w D A n hs) : hs.length = n := by obtain ⟨_, _, h, _⟩ := h; exact h
theorem Heads.keep (h : Heads w D A n hs) (hk : Keep E w w') (hE : ∀ b, b < w.heap.size → D b → E b) : Heads w' D A n hs := by
 obtain ⟨vs, h1, h2, h3⟩ := h
 exact ⟨vs, h1.keep hk hE, h2, fun k hk' => (h3 k hk').keep hk hE⟩
theorem Heads.new (h : Heads w D A n hs) (hk : New w w') : Heads w' D A n hs := h.keep hk fun _ _ _ => trivial
theorem Heads.imp (h : Heads w D A n hs) (hE : ∀ b, b < w.heap.size → D b → E b) : Heads w E A n hs := by
 obtain ⟨vs, h1, h2, h3⟩ := h
 exact ⟨vs, h1.imp hE, h2, fun k hk => (h3 k hk).imp hE⟩
theorem Heads.nil (w : World) (D : Nat → Prop) (A : Option Addr) : Heads w D A 0 [] := ⟨[], Row.nil w D A 6, rfl, fun k hk => absurd hk (by simp)⟩
theorem Heads.at_ (h : Heads w D A n hs) {k : Nat} (hk : k < hs.length) :
  ∃ b off A1 c1 A2 c2, A = some ⟨b, off, none⟩ ∧ D b ∧ w.cell? ⟨b, off + k * 6, none⟩ = some (.int .i64 hs[k].index) ∧ w.cell? ⟨b, off + k * 6 + 1, none⟩ = some (.int .u64 hs[k].first) ∧
   w.cell? ⟨b, off + k * 6 + 2, none⟩ = some (.int .i64 hs[k].count) ∧ w.cell? ⟨b, off + k * 6 + 3, none⟩ = some (.int .i64 hs[k].bytes) ∧ w.cell? ⟨b, off + k * 6 + 4, none⟩ = some (.slice A1 hs[k].prev.length c1) ∧
   w.cell? ⟨b, off + k * 6 + 5, none⟩ = some (.slice A2 hs[k].root.length c2) ∧ hs[k].prev.length ≤ c1 ∧ hs[k].root.length ≤ c2 ∧ Bs w D A1 hs[k].prev.length hs[k].prev ∧ Bs w D A2 hs[k].root.length hs[k].root ∧ 0 ≤ hs[k].first ∧ hs[k].first ≤ 18446744073709551615 := by
 obtain ⟨vs, h1, h2, h3⟩ := h
 obtain ⟨A1, c1, A2, c2, e0, e1, e2, e3, e4, e5, rest⟩ := h3 k hk
 obtain ⟨b, off, hA, hD, _, hcell⟩ := h1.2 (by omega)
 refine ⟨b, off, A1, c1, A2, c2, hA, hD, hcell _ _ e0, ?_, ?_, ?_, ?_, ?_, rest⟩
 ·rw [Nat.add_assoc]; exact hcell _ _ e1
 ·rw [Nat.add_assoc]; exact hcell _ _ e2
 ·rw [Nat.add_assoc]; exact hcell _ _ e3
 ·rw [Nat.add_assoc]; exact hcell _ _ e4
 ·rw [Nat.add_assoc]; exact hcell _ _ e5
end
def genesisOf (id : List UInt8) : List UInt8 := shaSum (3 :: id)
def headSeal (id : List UInt8) (hs : List HeadP) : List UInt8 := match hs.getLast? with | none => genesisOf id | some h => sealOf h
set_option maxRecDepth 100000 in
theorem genesis_any (D : Nat → Prop) (A : Option Addr) (n c : Nat) (bs : List UInt8) (w : World) (hB : Bs w D A n bs) (hc : n ≤ c) (hn : n ≤ 1099511620000) :
  Calls Tryz.prog 47 #[.slice A n c] w fun e w' => (∃ A' c', e = .returned (.slice A' 32 c') ∧ OwnB w' w.heap.size 5 A' 32 c' (genesisOf bs)) ∧ New w w' := by
 have hl := hB.len
 have h0 := bs_one w 5 3 _ rfl
 have hlit := (Bss.lit (w.alloc (.cells #[.int .u8 3] 5)) 22 [.slice (some ⟨w.heap.size, 0, none⟩) 1 1, .slice A n c] [[3], bs] rfl
  (fun k hk => match k, hk with | 0, _ => ⟨_, 1, rfl, by simp, _, h0⟩ | 1, _ => ⟨A, c, by simp [hl], by simp [hl]; exact hc, D, by simpa [hl] using hB.alloc _⟩))
 rw [show (w.alloc (.cells #[.int .u8 3] 5)).heap.size = w.heap.size + 1 from by simp] at hlit
 replace hlit := Lib.hid hlit
 have HF := Lib.hid (show ([[3], bs] : List (List UInt8)).flatten = 3 :: bs by simp)
 have HFL := Lib.hid (show ([[3], bs] : List (List UInt8)).flatten.length = n + 1 by simp [hl])
 have HN := Lib.hid (show New w ((w.alloc (.cells #[.int .u8 3] 5)).alloc (.cells #[.slice (some ⟨w.heap.size, 0, none⟩) 1 1, .slice A n c] 22)) from ((New.refl w).alloc _).alloc _)
 clear hl h0
 go_enter Tryz.func47, Tryz.ntmps47
 go_wp2_with fail
 refine (concat_any _ _ _ _ [[3], bs] _ hlit.out (by rw [HFL.out]; omega) (by simp)).mono ?_
 rintro e w2 ⟨⟨A', c', rfl, hown⟩, hK2⟩
 rw [HFL.out, HF.out] at hown
 rw [HFL.out]
 go_wp2_with fail
 refine (shaSum_any _ A' (n + 1) c' (3 :: bs) w2 (Row.of_own hown) (own_cap hown) (by omega)).mono ?_
 rintro e w3 ⟨⟨A3, c3, rfl, hown3⟩, hK3⟩
 go_wp2_with fail
 go_ret
 exact ⟨⟨A3, c3, rfl, own_base hown3 (HN.out.new hK2).size⟩, (HN.out.new hK2).new hK3⟩
set_option maxRecDepth 100000 in
theorem genesis18_any (D : Nat → Prop) (A : Option Addr) (n c : Nat) (bs : List UInt8) (w : World) (hB : Bs w D A n bs) (hn : n ≤ 1099511620000) :
  Calls Tryz.prog 21 #[.slice A n c] w fun e w' => (∃ A' c', e = .returned (.slice A' 32 c') ∧ OwnB w' w.heap.size 5 A' 32 c' (genesisOf bs)) ∧ New w w' := by
 have hown0 : OwnB (w.alloc (.cells #[.int .u8 3] 5)) w.heap.size 5 (some ⟨w.heap.size, 0, none⟩) 1 1 [3] := ownB_one w 3
 have hK0 : New w (w.alloc (.cells #[.int .u8 3] 5)) := (New.refl w).alloc _
 have hB0 := hB.alloc (.cells #[.int .u8 3] 5)
 have hbd : 1 + n ≤ 140737488355328 := by omega
 have hbd2 : 1 + n ≤ 1099511627776 := by omega
 clear hB
 go_enter Tryz.func21, Tryz.ntmps21
 go_wp2_with (at_builtin; refine app_bytes _ rfl _ _ rfl w.heap.size _ 1 1 [3] rfl hown0 D A n c bs rfl hB0 hbd hK0.size ?_; intro A1 c1 w1 hown1 hg1 hbk1)
 have hK1 := new_app0 hK0 hown0 hg1
 clear hg1 hbk1 hB0 hown0 hK0
 refine (refsum_any _ A1 (1 + n) c1 _ w1 (Row.of_own hown1) hbd2).mono ?_
 rintro e w2 ⟨⟨A2, c2, rfl, hown2⟩, hK2⟩
 go_wp2_with fail
 go_ret
 exact ⟨⟨_, _, rfl, own_base hown2 hK1.size⟩, hK1.new hK2⟩
/-
  PROVED HERE: rows of heads that a call makes, and the law of append at them; condition: fewer than 2^40 heads.
-/
def OwnHeads (w : World) (base : Nat) (D : Nat → Prop) (A : Option Addr) (n c : Nat) (hs : List HeadP) : Prop :=
 ∃ vs : List Value, Own w base 139 6 A n c vs ∧ hs.length = n ∧ ∀ k (h : k < hs.length), HeadAt w (fun b => D b ∧ some b ≠ blk A) vs (k * 6) hs[k]
section
variable {w w' : World} {base base' : Nat} {D E : Nat → Prop} {A : Option Addr} {n c : Nat} {hs : List HeadP}
theorem OwnHeads.nil (w : World) (base : Nat) (D : Nat → Prop) : OwnHeads w base D none 0 0 [] := ⟨[], Own.nil _ _ _ _, rfl, fun k hk => absurd hk (by simp)⟩
theorem OwnHeads.new (h : OwnHeads w base D A n c hs) (hk : New w w') : OwnHeads w' base D A n c hs := by
 obtain ⟨vs, h1, h2, h3⟩ := h
 exact ⟨vs, own_keep h1 hk (fun _ _ => trivial), h2, fun k hk' => (h3 k hk').keep hk fun _ _ _ => trivial⟩
theorem OwnHeads.len (h : OwnHeads w base D A n c hs) : hs.length = n := by obtain ⟨_, _, h, _⟩ := h; exact h
theorem OwnHeads.cap (h : OwnHeads w base D A n c hs) : n ≤ c := by obtain ⟨_, h, _⟩ := h; exact own_cap h
theorem OwnHeads.capMax (h : OwnHeads w base D A n c hs) : c ≤ 9223372036854775807 := by obtain ⟨_, h, _⟩ := h; exact own_capMax h
theorem OwnHeads.lt (h : OwnHeads w base D A n c hs) : ∀ k, blk A = some k → base ≤ k ∧ k < w.heap.size := by obtain ⟨_, h, _⟩ := h; exact own_lt h
theorem OwnHeads.keepE (h : OwnHeads w base D A n c hs) (hk : Keep E w w') (hb : ∀ k, blk A = some k → E k) (hD : ∀ b, D b → E b) : OwnHeads w' base D A n c hs := by
 obtain ⟨vs, h1, h2, h3⟩ := h
 exact ⟨vs, own_keep h1 hk hb, h2, fun k hk' => (h3 k hk').keep hk fun b _ hd => hD b hd.1⟩
theorem OwnHeads.heads (h : OwnHeads w base D A n c hs) : Heads w (fun b => base ≤ b ∨ D b) A n hs := by
 obtain ⟨vs, h1, h2, h3⟩ := h
 exact ⟨vs, (Row.of_own h1).imp (fun _ _ h => .inl h), h2, fun k hk => (h3 k hk).imp fun _ _ h => .inr h.1⟩
end
/-
  PROVED HERE: the law of append of so many noughts onto a row of bytes of the call's own, for one operation alone; condition: fewer than 2^47 bytes.
-/
theorem zeroCells_u8 (k : Nat) : (Builtin.zeroCells (Value.int .u8 0).cells k).toList = (List.replicate k (0 : UInt8)).map byteVal := by
 simp [Builtin.zeroCells, Value.cells, byteVal, bv]
 apply List.ext_getElem
 ·simp
 ·intro i h1 h2; simp [Nat.mod_one]
set_option maxRecDepth 20000 in
theorem run_zeros_own (w : World) (ty : TypeId) (base : Nat) (A : Option Addr) (n c k : Nat) (bs : List UInt8) (hown : OwnB w base 5 A n c bs) (h63 : n + k ≤ 1099511627776) (hbase : base ≤ w.heap.size) :
  ∃ A' c' w', (Builtin.append_ #[22, 3] ty #[.slice A n c, .int .i64 (k : Int)]).run Tryz.prog w = .ok (.slice A' (n + k) c') w' ∧ OwnB w' base 5 A' (n + k) c' (bs ++ List.replicate k 0) ∧ w.grownBy w' (blk A) ∧
   (blk A' = blk A ∨ blk A' = some w.heap.size) := by
 obtain ⟨i, hi, hz0, hz1, hz2⟩ := info_parts info_u8
 have ht := Tryz.underlying22
 have htn := Tryz.underlying3
 have hbl : bs.length = n := by have := hown.1; simpa using this
 have hw : IntKind.i64.wrap (k : Int) = k := IntWalk.i64_in _ (by omega)
 have hk0 : ¬ ((k : Int) < 0) := by omega
 have hk48 : ¬ (281474976710656 < (k : Int)) := by omega
 by_cases hroom : n + k ≤ c
 ·rcases hown.2 with ⟨hv, hxs⟩ | ⟨g, cap, cur, hv, hbg, hg, hnc, hcm, hcs, htake⟩
  ·injection hv with h1 h2 h3
   subst h1; subst h2; subst h3
   obtain rfl : k = 0 := by omega
   have hb : bs = [] := List.eq_nil_of_length_eq_zero hbl
   subst hb
   refine ⟨none, 0, w, ?_, Own.nil _ _ _ _, World.grownBy.refl w _, .inl rfl⟩
   have e0 : IntKind.i64.wrap 0 = 0 := IntWalk.i64_in _ (by decide)
   simp [Builtin.append_, run_underlying ht, run_underlying htn, sizeOf, typeInfo, zeroValue, hi, hz0, hz2, asInt, asIntOf, e0]
  ·injection hv with h1 h2 h3
   subst h1; subst h3
   have hfit : n + k ≤ cur.size := by omega
   have hst := run_storeCells_at Tryz.prog g n 5 ((List.replicate k (0 : UInt8)).map byteVal) 0 cur w hg (by simp; omega) (byteVal_one _)
   simp only [Nat.add_zero] at hst
   refine ⟨some ⟨g, 0, none⟩, c, w.setRow g (cur.toList.take n ++ (List.replicate k (0 : UInt8)).map byteVal ++ cur.toList.drop (n + k)).toArray, ?_, ?_, ?_, .inl rfl⟩
   ·by_cases hk : k = 0
    ·subst hk
     have e0 : IntKind.i64.wrap 0 = 0 := IntWalk.i64_in _ (by decide)
     simp at hst
     simp [Builtin.append_, run_underlying ht, run_underlying htn, sizeOf, typeInfo, zeroValue, hi, hz0, hz1, hz2, asInt, asIntOf, e0, hnc, hst, Addr.add_lit]
    ·have hz := zeroCells_u8 k
     simp [Builtin.append_, run_underlying ht, run_underlying htn, sizeOf, typeInfo, zeroValue, hi, hz0, hz1, hz2, asInt, asIntOf, hw, hk0, hk48, hroom, hk, hz, Addr.add_lit]
     simp at hst
     simp [hst]
   ·refine ⟨by simp [hbl], .inr ⟨g, c, _, rfl, hbg, setRow_heap w g cur _ 5 _ hg, hroom, hcm, ?_, ?_⟩⟩
    ·simp; omega
    ·have htk : cur.toList.take n = bs.map byteVal := by simpa using htake
     have hl : (bs.map byteVal ++ (List.replicate k (0 : UInt8)).map byteVal).length = (n + k) * 1 := by simp [hbl]
     rw [htk, List.map_append, List.toList_toArray, ← hl, List.take_left]
   ·exact ⟨rfl, rfl, rfl, by simp, fun j _ hj => setRow_other w g j _ (fun e => hj (by rw [e]; rfl))⟩
 ·have hold : (Builtin.firstCells i.size n (.slice A n c)).run Tryz.prog w.drew = .ok (bs.map byteVal).toArray w.drew := by
   rcases hown.2 with ⟨hv, hxs⟩ | ⟨g, cap, cur, hv, hbg, hg, hnc, hcm, hcs, htake⟩
   ·injection hv with h1 h2 h3
    subst h1; subst h2
    have hb : bs = [] := List.eq_nil_of_length_eq_zero hbl
    subst hb
    simp [Builtin.firstCells]
   ·injection hv with h1 h2 h3
    subst h1
    exact run_firstCells_some w.drew i.size n ⟨g, 0, none⟩ n c _ (by simp [hbl, hz1]) (by intro j u hu; simpa using hown.cells (g := g) rfl j u hu)
  have hcapfit : Builtin.nextslicecap (n + k) c * i.bytes ≤ 281474976710656 := by
   rw [hz2]
   exact growslice_fits (by omega) (by omega)
  have hr := Lib.run_append_grow_zeros w 22 3 ty 5 i (.int .u8 0) .i64 .i64 ht htn hi hz0 A n c (bs.map byteVal) hold k (by have := own_cap hown; omega) (by omega) (by omega) (by omega) (by rw [hz2]; omega) hcapfit
  have hge := Go.grownCap_ge w (n + k) c 5
  have hle := Go.grownCap_le_maxLen w (n + k) c 5 (by unfold maxLen; omega)
  refine ⟨_, _, _, hr, ⟨by simp [hbl], .inr ⟨w.heap.size, _, _, rfl, hbase, heap_alloc_new w.drew _, hge, hle, ?_, ?_⟩⟩, ⟨rfl, rfl, rfl, by simp, fun j hj _ => Below.heap_alloc w.drew _ j hj⟩, .inr rfl⟩
  ·simp [Builtin.zeroCells, Value.cells, hbl]; omega
  ·have hl : (bs.map byteVal ++ (List.replicate k (0 : UInt8)).map byteVal).length = (n + k) * 1 := by simp [hbl]
   simp only [Array.toList_append, zeroCells_u8]
   rw [List.map_append, ← hl]
   exact List.take_left
theorem wp_zeros {o : Oper} {a : Act} {K : Act → World → Prop} {Q : Exit → Act → World → Prop} (w : World) (s x : Operand)
  (ho : o.op = .call { callee := .builtin .append, args := #[s, x], argTypes := #[22, 3] })
  (base : Nat) (A : Option Addr) (n c k : Nat) (bs : List UInt8) (hs : a.eval s = .slice A n c) (hown : OwnB w base 5 A n c bs) (hx : a.eval x = .int .i64 (k : Int))
  (h63 : n + k ≤ 1099511627776) (hbase : base ≤ w.heap.size)
  (h : ∀ A' c' w', OwnB w' base 5 A' (n + k) c' (bs ++ List.replicate k 0) → w.grownBy w' (blk A) → (blk A' = blk A ∨ blk A' = some w.heap.size) → K (a.put o.dst (.slice A' (n + k) c')) w') : o.wp Tryz.prog a w K Q := by
 obtain ⟨A', c', w', hr, h2, h3, h4⟩ := run_zeros_own w o.type base A n c k bs hown h63 hbase
 unfold Oper.wp execOp
 simp only [ho, resolve, invoke, builtin, Sem.run_bind, Sem.run_pure, Result.andThen_ok, List.map_toArray, List.map_cons, List.map_nil, hs, hx, hr]
 exact h A' c' w' h2 h3 h4
theorem app_zeros {ops : Array Oper} {rest : List Oper} {o : Oper} {a : Act} {Q : Exit → Act → World → Prop} (w : World) (hgd : o.guard = none) (s x : Operand)
  (ho : o.op = .call { callee := .builtin .append, args := #[s, x], argTypes := #[22, 3] })
  (base : Nat) (A : Option Addr) (n c k : Nat) (bs : List UInt8) (hs : a.eval s = .slice A n c) (hown : OwnB w base 5 A n c bs) (hx : a.eval x = .int .i64 (k : Int))
  (h63 : n + k ≤ 1099511627776) (hbase : base ≤ w.heap.size)
  (h : ∀ A' c' w', OwnB w' base 5 A' (n + k) c' (bs ++ List.replicate k 0) → w.grownBy w' (blk A) → (blk A' = blk A ∨ blk A' = some w.heap.size) → wpList Tryz.prog ops Q rest (a.put o.dst (.slice A' (n + k) c')) w') : wpList Tryz.prog ops Q (o :: rest) a w :=
 wpList_plain hgd fun _ hK => wp_zeros w s x ho base A n c k bs hs hown hx h63 hbase fun A' c' w' h2 h3 h4 => hK _ _ (h A' c' w' h2 h3 h4)
/-
  PROVED HERE: what segment.Build answers, for any arguments; conditions: lengths that a slice may have.
-/
def buildOf (index first : Int) (pr : List UInt8) (rs : List RecP) : List UInt8 × Int :=
 if buildArgs index first pr.length rs = false then ([], 1) else if seqsFrom first rs = false then ([], 12) else (segBytes index first pr rs, 0)
/-
  PROVED HERE: which arguments permafrostref17.Build refuses; conditions: lengths that a slice may have.
-/
/-
  PROVED HERE: what permafrostref17.Build answers: what segment.Build does; conditions: lengths that a slice may have.
-/
end Go.Proofs.YtijjhfkgbmckkaaGreatDoor
/-
  PROVED HERE: slices of images, and slices of structs of one such slice, that came in: how they read; no condition.
-/
namespace Go.Proofs.YtijjhfkgbmckkaaGreatDoor
open Go.ChangeShapes Go.WideShapes Go.ChangeAt Go.RowKit Go.Joins Go.Deep
def ImgAt (w : World) (D : Nat → Prop) (vs : List Value) (k : Nat) (b : List UInt8) : Prop := ∃ A' c', vs[k]? = some (.slice A' b.length c') ∧ b.length ≤ c' ∧ c' ≤ 9223372036854775807 ∧ Bs w D A' b.length b
theorem ImgAt.keep {w w' : World} {D E : Nat → Prop} {vs : List Value} {k : Nat} {b : List UInt8} (h : ImgAt w D vs k b) (hk : Keep E w w') (hE : ∀ b, b < w.heap.size → D b → E b) : ImgAt w' D vs k b := by
 obtain ⟨A', c', e, hc, hc9, hb⟩ := h
 exact ⟨A', c', e, hc, hc9, hb.keep hk hE⟩
theorem ImgAt.imp {w : World} {D E : Nat → Prop} {vs : List Value} {k : Nat} {b : List UInt8} (h : ImgAt w D vs k b) (hE : ∀ b, b < w.heap.size → D b → E b) : ImgAt w E vs k b := by
 obtain ⟨A', c', e, hc, hc9, hb⟩ := h
 exact ⟨A', c', e, hc, hc9, hb.imp hE⟩
def Imgs (w : World) (D : Nat → Prop) (A : Option Addr) (n : Nat) (ls : List (List UInt8)) : Prop :=
 ∃ vs : List Value, Row w D A n 1 vs ∧ ls.length = n ∧ ∀ k (h : k < ls.length), ImgAt w D vs k ls[k]
theorem Imgs.len {w : World} {D : Nat → Prop} {A : Option Addr} {n : Nat} {ls : List (List UInt8)} (h : Imgs w D A n ls) : ls.length = n := by obtain ⟨_, _, h, _⟩ := h; exact h
theorem Imgs.keep {w w' : World} {D E : Nat → Prop} {A : Option Addr} {n : Nat} {ls : List (List UInt8)} (h : Imgs w D A n ls) (hk : Keep E w w') (hE : ∀ b, b < w.heap.size → D b → E b) : Imgs w' D A n ls := by
 obtain ⟨vs, h1, h2, h3⟩ := h
 refine ⟨vs, h1.keep hk hE, h2, fun k hk' => ?_⟩
 obtain ⟨A', c', e, hc, hc9, hb⟩ := h3 k hk'
 exact ⟨A', c', e, hc, hc9, hb.keep hk hE⟩
theorem Imgs.new {w w' : World} {D : Nat → Prop} {A : Option Addr} {n : Nat} {ls : List (List UInt8)} (h : Imgs w D A n ls) (hk : New w w') : Imgs w' D A n ls := h.keep hk fun _ _ _ => trivial
theorem Imgs.at_ {w : World} {D : Nat → Prop} {A : Option Addr} {n : Nat} {ls : List (List UInt8)} (h : Imgs w D A n ls) {k : Nat} (hk : k < ls.length) :
  ∃ b off A' c', A = some ⟨b, off, none⟩ ∧ D b ∧ w.cell? ⟨b, off + k, none⟩ = some (.slice A' ls[k].length c') ∧ ls[k].length ≤ c' ∧ c' ≤ 9223372036854775807 ∧ Bs w D A' ls[k].length ls[k] := by
 obtain ⟨vs, h1, h2, h3⟩ := h
 obtain ⟨A', c', e, hc, hc9, hb⟩ := h3 k hk
 obtain ⟨b, off, hA, hD, _, hcell⟩ := h1.2 (by omega)
 exact ⟨b, off, A', c', hA, hD, hcell _ _ e, hc, hc9, hb⟩
theorem Imgs.imp {w : World} {D E : Nat → Prop} {A : Option Addr} {n : Nat} {ls : List (List UInt8)} (h : Imgs w D A n ls) (hE : ∀ b, b < w.heap.size → D b → E b) : Imgs w E A n ls := by
 obtain ⟨vs, h1, h2, h3⟩ := h
 refine ⟨vs, h1.imp hE, h2, fun k hk' => ?_⟩
 obtain ⟨A', c', e, hc, hc9, hb⟩ := h3 k hk'
 exact ⟨A', c', e, hc, hc9, hb.imp hE⟩
def Raws8 (w : World) (D : Nat → Prop) (A : Option Addr) (n : Nat) (ls : List (List (List UInt8))) : Prop :=
 ∃ vs : List Value, Row w D A n 1 vs ∧ ls.length = n ∧ ∀ k (h : k < ls.length), ∃ A' c', vs[k]? = some (.slice A' ls[k].length c') ∧ ls[k].length ≤ c' ∧ c' ≤ 9223372036854775807 ∧ Imgs w D A' ls[k].length ls[k]
section
variable {w w' : World} {D E : Nat → Prop} {A : Option Addr} {n : Nat} {ls : List (List (List UInt8))}
theorem Raws8.len (h : Raws8 w D A n ls) : ls.length = n := by obtain ⟨_, _, h, _⟩ := h; exact h
theorem Raws8.keep (h : Raws8 w D A n ls) (hk : Keep E w w') (hE : ∀ b, b < w.heap.size → D b → E b) : Raws8 w' D A n ls := by
 obtain ⟨vs, h1, h2, h3⟩ := h
 refine ⟨vs, h1.keep hk hE, h2, fun k hk' => ?_⟩
 obtain ⟨A', c', e, hc, hc9, hb⟩ := h3 k hk'
 exact ⟨A', c', e, hc, hc9, hb.keep hk hE⟩
theorem Raws8.new (h : Raws8 w D A n ls) (hk : New w w') : Raws8 w' D A n ls := h.keep hk fun _ _ _ => trivial
theorem Raws8.imp (h : Raws8 w D A n ls) (hE : ∀ b, b < w.heap.size → D b → E b) : Raws8 w E A n ls := by
 obtain ⟨vs, h1, h2, h3⟩ := h
 refine ⟨vs, h1.imp hE, h2, fun k hk' => ?_⟩
 obtain ⟨A', c', e, hc, hc9, hb⟩ := h3 k hk'
 exact ⟨A', c', e, hc, hc9, hb.imp hE⟩
theorem Raws8.at_ (h : Raws8 w D A n ls) {k : Nat} (hk : k < ls.length) :
  ∃ b off A' c', A = some ⟨b, off, none⟩ ∧ w.cell? ⟨b, off + k, none⟩ = some (.slice A' ls[k].length c') ∧ ls[k].length ≤ c' ∧ c' ≤ 9223372036854775807 ∧ Imgs w D A' ls[k].length ls[k] := by
 obtain ⟨vs, h1, h2, h3⟩ := h
 obtain ⟨A', c', e, hc, hc9, hb⟩ := h3 k hk
 obtain ⟨b, off, hA, hD, _, hcell⟩ := h1.2 (by omega)
 exact ⟨b, off, A', c', hA, hcell _ _ e, hc, hc9, hb⟩
end
end Go.Proofs.YtijjhfkgbmckkaaGreatDoor
/-
  PROVED HERE: rows of images that a call makes, and the law of append at them; condition: fewer than 2^40 images.
-/
namespace Go.Proofs.YtijjhfkgbmckkaaGreatDoor
open Go.RowKit
def OwnImgs (w : World) (base : Nat) (D : Nat → Prop) (A : Option Addr) (n c : Nat) (ls : List (List UInt8)) : Prop :=
 ∃ vs : List Value, Own w base 22 1 A n c vs ∧ ls.length = n ∧ ∀ k (h : k < ls.length), ImgAt w (fun b => D b ∧ some b ≠ blk A) vs k ls[k]
section
variable {w w' : World} {base base' : Nat} {D E : Nat → Prop} {A : Option Addr} {n c : Nat} {ls : List (List UInt8)}
theorem OwnImgs.imgs (h : OwnImgs w base D A n c ls) : Imgs w (fun b => base ≤ b ∨ D b) A n ls := by
 obtain ⟨vs, h1, h2, h3⟩ := h
 exact ⟨vs, (Row.of_own h1).imp (fun _ _ h => .inl h), h2, fun k hk => (h3 k hk).imp fun _ _ h => .inr h.1⟩
theorem OwnImgs.nil (w : World) (base : Nat) (D : Nat → Prop) : OwnImgs w base D none 0 0 [] := ⟨[], Own.nil _ _ _ _, rfl, fun k hk => absurd hk (by simp)⟩
theorem OwnImgs.new (h : OwnImgs w base D A n c ls) (hk : New w w') : OwnImgs w' base D A n c ls := by
 obtain ⟨vs, h1, h2, h3⟩ := h
 exact ⟨vs, own_keep h1 hk (fun _ _ => trivial), h2, fun k hk' => (h3 k hk').keep hk fun _ _ _ => trivial⟩
theorem OwnImgs.rebase (h : OwnImgs w base' D A n c ls) (hb : base ≤ base') : OwnImgs w base D A n c ls := by
 obtain ⟨vs, h1, h2, h3⟩ := h
 exact ⟨vs, own_base h1 hb, h2, h3⟩
theorem OwnImgs.imp (h : OwnImgs w base D A n c ls) (hE : ∀ b, b < w.heap.size → D b → E b) : OwnImgs w base E A n c ls := by
 obtain ⟨vs, h1, h2, h3⟩ := h
 exact ⟨vs, h1, h2, fun k hk' => (h3 k hk').imp fun b hb hd => ⟨hE b hb hd.1, hd.2⟩⟩
theorem OwnImgs.keepE (h : OwnImgs w base D A n c ls) (hk : Keep E w w') (hb : ∀ k, blk A = some k → E k) (hD : ∀ b, D b → E b) : OwnImgs w' base D A n c ls := by
 obtain ⟨vs, h1, h2, h3⟩ := h
 exact ⟨vs, own_keep h1 hk hb, h2, fun k hk' => (h3 k hk').keep hk fun b _ hd => hD b hd.1⟩
theorem OwnImgs.len (h : OwnImgs w base D A n c ls) : ls.length = n := by obtain ⟨_, _, h, _⟩ := h; exact h
theorem OwnImgs.cap (h : OwnImgs w base D A n c ls) : n ≤ c := by obtain ⟨_, h, _⟩ := h; exact own_cap h
theorem OwnImgs.capMax (h : OwnImgs w base D A n c ls) : c ≤ 9223372036854775807 := by obtain ⟨_, h, _⟩ := h; exact own_capMax h
theorem OwnImgs.lt (h : OwnImgs w base D A n c ls) : ∀ k, blk A = some k → base ≤ k ∧ k < w.heap.size := by obtain ⟨_, h, _⟩ := h; exact own_lt h
end
/-
  PROVED HERE: the law of append at rows of heads, many at once; condition: fewer than 2^40 heads.
-/
/-
  PROVED HERE: plain law on chained segments: a chain is walked, its beginning too, another archive's is refused; no program is in sight.
-/
theorem genesisOf_length (id : List UInt8) : (genesisOf id).length = 32 := shaSum_length _
theorem sealOf_length (h : HeadP) : (sealOf h).length = 32 := shaSum_length _
theorem recRight_def (r : RecP) : recRight r = decide (r.seq ≤ 1099511627776 ∧ r.body.length ≤ 900 ∧ (r.kind = 1 ∨ r.kind = 2 ∧ r.body.length = 0)) := rfl
/-! ### segments, chained -/
structure ChainS where
 images : List (List UInt8)
 heads : List HeadP
 recs : List RecP
 prev : List UInt8
 next : Int
def chainHead (i : Nat) (next : Int) (prev : List UInt8) (rs : List RecP) : HeadP := ⟨i, next, rs.length, (leavesOf rs).flatten.length, prev, rootOf (leavesOf rs)⟩
end Go.Proofs.YtijjhfkgbmckkaaGreatDoor
