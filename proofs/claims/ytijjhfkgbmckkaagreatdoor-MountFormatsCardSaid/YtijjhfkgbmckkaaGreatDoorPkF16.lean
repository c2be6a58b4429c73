/-
  PROVED HERE: texts that belong together, one behind the other; what each proves, and under which conditions, its own opening remark says: Law17, BackLaw, CutsLaw, RefRot.
-/
import Derived.Test.YtijjhfkgbmckkaaGreatDoorPkF15
/-
  PROVED HERE: plain law on a segment's bytes: what is laid is read; a byte turned, but for those of a Body's length, is told; no program is in sight.
-/
namespace Go.Proofs.YtijjhfkgbmckkaaGreatDoor
open Go.RowKit
/-! ### a segment -/
theorem headOf_cut (a b c d e f rest : List UInt8) (ha : a.length = 2) (hb : b.length = 8) (hc : c.length = 2) (hd : d.length = 2) (he : e.length = 32) (hf : f.length = 32) :
  headOf (a ++ (b ++ (c ++ (d ++ (e ++ (f ++ rest)))))) = ⟨(beNat a : Nat), (beNat b : Nat), (beNat c : Nat), (beNat d : Nat), e, f⟩ := by
 unfold headOf
 dsimp only
 rw [RdS.num_cut a _ 2 ha.symm]
 dsimp only
 rw [RdS.num_cut b _ 8 hb.symm]
 dsimp only
 rw [RdS.num_cut c _ 2 hc.symm]
 dsimp only
 rw [RdS.num_cut d _ 2 hd.symm]
 dsimp only
 rw [RdS.raw_zero e _ 32 (by omega)]
 dsimp only
 rw [RdS.raw_zero f _ 32 (by omega)]
theorem seg_split {index first : Int} {prev : List UInt8} {rs : List RecP} (h : prev.length = 32) : segBytes index first prev rs = (segHead index first prev rs ++ be4 (crcSum (segHead index first prev rs))) ++ ((leavesOf rs).flatten ++ List.replicate (942 - (leavesOf rs).flatten.length) 0) ∧ (segHead index first prev rs ++ be4 (crcSum (segHead index first prev rs))).length = 82 := by
 refine ⟨by unfold segBytes; rw [List.append_assoc], ?_⟩
 rw [List.length_append, segHead_length _ _ _ _ h, be4_length]
theorem seg_sum {hd sum rest : List UInt8} (h : hd.length = 78) (hs : sum.length = 4) : ((hd ++ sum ++ rest).drop 78).take 4 = sum ∧ (hd ++ sum ++ rest).take 78 = hd ∧ (hd ++ sum ++ rest).drop 82 = rest := by
 refine ⟨?_, ?_, ?_⟩
 ·rw [List.append_assoc, List.drop_left' h, List.take_left' hs]
 ·rw [List.append_assoc, List.take_left' h]
 ·rw [List.drop_left']; simp [h, hs]
structure SegFine (index first : Int) (prev : List UInt8) (rs : List RecP) : Prop where
 i0 : 0 ≤ index
 i1 : index ≤ 65535
 f0 : 0 ≤ first
 f1 : first ≤ 1099511627776
 prev : prev.length = 32
 any : rs.length ≠ 0
 right : ∀ r ∈ rs, recRight r = true ∧ 0 ≤ r.seq
 room : (leavesOf rs).flatten.length ≤ 942
 many : 15 * rs.length ≤ 942
 seqs : ∀ k (h : k < rs.length), rs[k].seq = first + k
section
variable {index first : Int} {prev : List UInt8} {rs : List RecP}
theorem SegFine.seqsW (h : SegFine index first prev rs) : ∀ k (hk : k < rs.length), rs[k].seq = IntKind.u64.wrap (first + (0 + k : Nat)) := by
 intro k hk
 have h1 := h.seqs k hk
 have h2 := h.right rs[k] (List.getElem_mem hk)
 have h3 : rs[k].seq ≤ 1099511627776 := by have := h2.1; unfold recRight at this; rw [decide_eq_true_eq] at this; exact this.1
 rw [IntKind.wrap_u64]
 omega
theorem SegFine.head (h : SegFine index first prev rs) (rest : List UInt8) : headOf (segHead index first prev rs ++ rest) = ⟨index, first, rs.length, (leavesOf rs).flatten.length, prev, rootOf (leavesOf rs)⟩ := by
 have e : segHead index first prev rs ++ rest = beI 2 index ++ (beI 8 first ++ (beI 2 rs.length ++ (beI 2 (leavesOf rs).flatten.length ++ (prev ++ (rootOf (leavesOf rs) ++ rest))))) := by
  simp only [segHead, List.append_assoc]
 rw [e, headOf_cut _ _ _ _ _ _ _ (beI_length _ _) (beI_length _ _) (beI_length _ _) (beI_length _ _) h.prev (rootOf_length _)]
 rw [beNat_beI 2 index h.i0 (by have := h.i1; omega), beNat_beI 8 first h.f0 (by have := h.f1; omega), beNat_beI 2 rs.length (by omega) (by have := h.many; omega), beNat_beI 2 _ (by omega) (by have := h.room; omega)]
theorem SegFine.read (h : SegFine index first prev rs) : segRead (segBytes index first prev rs) = (⟨index, first, rs.length, (leavesOf rs).flatten.length, prev, rootOf (leavesOf rs)⟩, rs, 0) := by
 have hl := segBytes_length index first prev rs h.prev h.room
 have hs := seg_split (index := index) (first := first) (rs := rs) h.prev
 have hd := seg_sum (hd := segHead index first prev rs) (sum := be4 (crcSum (segHead index first prev rs))) (rest := (leavesOf rs).flatten ++ List.replicate (942 - (leavesOf rs).flatten.length) 0) (segHead_length _ _ _ _ h.prev) rfl
 have hh := h.head (be4 (crcSum (segHead index first prev rs)) ++ ((leavesOf rs).flatten ++ List.replicate (942 - (leavesOf rs).flatten.length) 0))
 rw [← List.append_assoc, ← hs.1] at hh
 rw [← hs.1] at hd
 have hgo := recsGo_enc first [] rs 0 h.right h.seqsW
 rw [List.append_nil] at hgo
 have h942 := h.room
 have hsome := h.any
 unfold segRead
 rw [if_neg (by rw [hl]; decide), if_neg (by rw [hd.1, hd.2.1]; simp), hh]
 dsimp only
 rw [if_neg (by omega), hd.2.2, Int.toNat_natCast, Int.toNat_natCast, List.take_left' rfl, hgo]
 dsimp only
 rw [if_neg, if_neg (by simp)]
 rw [hs.1, ← List.drop_drop, List.drop_left' hs.2, List.drop_left' rfl]
 simp
theorem SegFine.readBody (h : SegFine index first prev rs) (body : List UInt8) (hb : body.length = 942) :
  segRead (segHead index first prev rs ++ be4 (crcSum (segHead index first prev rs)) ++ body) =
   match recsGo first rs.length 0 (body.take (leavesOf rs).flatten.length) with
   | none => (noHead, [], 12)
   | some (l, rest) =>
    if rest.length ≠ 0 ∨ (body.drop (leavesOf rs).flatten.length).all (· == 0) = false then (noHead, [], 12)
    else if rootOf (leavesOf l) ≠ rootOf (leavesOf rs) then (noHead, [], 40)
    else (⟨index, first, rs.length, (leavesOf rs).flatten.length, prev, rootOf (leavesOf rs)⟩, l, 0) := by
 have hd := seg_sum (hd := segHead index first prev rs) (sum := be4 (crcSum (segHead index first prev rs))) (rest := body) (segHead_length _ _ _ _ h.prev) rfl
 have hh := h.head (be4 (crcSum (segHead index first prev rs)) ++ body)
 rw [← List.append_assoc] at hh
 have h942 := h.room
 have hsome := h.any
 have hl : (segHead index first prev rs ++ be4 (crcSum (segHead index first prev rs)) ++ body).length = 1024 := by
  simp only [List.length_append, segHead_length _ _ _ _ h.prev, be4_length, hb]
 have hdd : ∀ k, (segHead index first prev rs ++ be4 (crcSum (segHead index first prev rs)) ++ body).drop (82 + k) = body.drop k := by
  intro k; rw [← List.drop_drop, hd.2.2]
 unfold segRead
 rw [if_neg (by rw [hl]; decide), if_neg (by rw [hd.1, hd.2.1]; simp), hh]
 dsimp only
 rw [if_neg (by omega), hd.2.2, Int.toNat_natCast, Int.toNat_natCast, hdd]
 try rfl
theorem segRead_sum {hd sum rest : List UInt8} (h : hd.length = 78) (hs : sum.length = 4) (hne : be4 (crcSum hd) ≠ sum) : (segRead (hd ++ sum ++ rest)).2.2 ≠ 0 := by
 have hd := seg_sum (rest := rest) h hs
 unfold segRead
 split
 ·decide
 rw [if_pos (by rw [hd.1, hd.2.1]; exact hne)]
 simp
theorem SegFine.turn (h : SegFine index first prev rs) {k : Nat} {y : UInt8} (hk : k < (segBytes index first prev rs).length) (hy : y ≠ (segBytes index first prev rs)[k])
  (hj : ∀ j, j < rs.length → k ≠ 82 + offOf rs j + 9 ∧ k ≠ 82 + offOf rs j + 10) : (segRead ((segBytes index first prev rs).set k y)).2.2 ≠ 0 := by
 have hl := segBytes_length index first prev rs h.prev h.room
 have hH := segHead_length index first prev rs h.prev
 have h4 := be4_length (crcSum (segHead index first prev rs))
 have hs := seg_split (index := index) (first := first) (rs := rs) h.prev
 have hroom := h.room
 rw [hl] at hk
 have hget := hy
 simp only [hs.1] at hget
 rw [hs.1]
 generalize hB : (leavesOf rs).flatten ++ List.replicate (942 - (leavesOf rs).flatten.length) 0 = body at *
 have hBl : body.length = 942 := by rw [← hB, List.length_append, List.length_replicate]; omega
 by_cases h78 : k < 78
 ·rw [List.set_append_left _ _ (by omega), List.set_append_left _ _ (by omega)]
  refine segRead_sum (by rw [List.length_set]; omega) h4 ?_
  intro e
  have := crcSum_set (by omega) (be4_inj e)
  apply hget
  rw [this, List.getElem_append_left (by omega), List.getElem_append_left (by omega)]
 ·by_cases h82 : k < 82
  ·rw [List.set_append_left _ _ (by omega), List.set_append_right _ _ (by omega)]
   refine segRead_sum hH (by rw [List.length_set]; omega) ?_
   intro e
   have h2 := congrArg (fun l => l[k - (segHead index first prev rs).length]?) e
   have hlt : k - (segHead index first prev rs).length < (be4 (crcSum (segHead index first prev rs))).length := by omega
   simp only [List.getElem?_set_self hlt, List.getElem?_eq_getElem hlt] at h2
   injection h2 with h2
   apply hget
   rw [← h2, List.getElem_append_left (by omega), List.getElem_append_right (by omega)]
  ·rw [List.set_append_right _ _ (by omega), hs.2]
   rw [h.readBody (body.set (k - 82) y) (by rw [List.length_set]; exact hBl)]
   by_cases hin : k - 82 < (leavesOf rs).flatten.length
   ·have e1 : (body.set (k - 82) y).take (leavesOf rs).flatten.length = (leavesOf rs).flatten.set (k - 82) y := by
     rw [← hB, List.set_append_left _ _ hin, List.take_left' (by rw [List.length_set])]
    have e2 := recsGo_turn first [] y rs 0 (k - 82) h.right hin (fun j hj' => by have := hj j hj'; omega) (by
     intro e
     apply hget
     have : (segHead index first prev rs ++ be4 (crcSum (segHead index first prev rs)) ++ body)[k]'(by rw [List.length_append, hs.2]; omega) = (leavesOf rs).flatten[k - 82] := by
      rw [List.getElem_append_right (by omega)]
      simp only [hs.2, ← hB]
      rw [List.getElem_append_left hin]
     rw [e, this])
    rw [List.append_nil] at e2
    rw [e1, e2]
    simp
   ·have e1 : (body.set (k - 82) y).take (leavesOf rs).flatten.length = (leavesOf rs).flatten := by
     rw [← hB, List.set_append_right _ _ (by omega), List.take_left' rfl]
    have e2 := recsGo_enc first [] rs 0 h.right h.seqsW
    rw [List.append_nil] at e2
    have e3 : ((body.set (k - 82) y).drop (leavesOf rs).flatten.length).all (· == 0) = false := by
     rw [← hB, List.set_append_right _ _ (by omega), List.drop_left' rfl, List.all_eq_false]
     refine ⟨y, List.mem_of_getElem (i := k - 82 - (leavesOf rs).flatten.length) (h := by rw [List.length_set, List.length_replicate]; omega) ?_, ?_⟩
     ·rw [List.getElem_set_self]
     ·intro e
      have e0 : y = 0 := by simpa using e
      apply hget
      rw [e0, List.getElem_append_right (by omega)]
      simp only [hs.2, ← hB]
      rw [List.getElem_append_right (by omega), List.getElem_replicate]
    rw [e1, e2]
    dsimp only
    rw [if_pos (.inr e3)]
    simp
end
section
variable {index first : Int} {prev : List UInt8} {rs : List RecP}
end
/-! ### the bytes of the Bodies' lengths -/
/-
  PROVED HERE: plain law: raw records that fit make a right segment; no program is in sight.
-/
theorem raw_none {index first : Int} {l : List RawP} {n most : Nat} (hm : fitsIn 942 (rawRecs first most l n) = 0) : buildArgs index first 32 ((rawRecs first most l n).take (fitsIn 942 (rawRecs first most l n))) = false := by
 unfold buildArgs
 rw [decide_eq_false_iff_not, hm]
 rintro ⟨_, _, _, _, h, _⟩
 exact h rfl
theorem Recs.take {w : World} {D : Nat → Prop} {A : Option Addr} {n : Nat} {rs : List RecP} (h : Recs w D A n rs) {m : Nat} (hm : m ≤ n) : Recs w D A m (rs.take m) := by
 obtain ⟨vs, h1, h2, h3⟩ := h
 refine ⟨vs.take (m * 3), h1.cutTo hm, by rw [List.length_take]; omega, fun k hk => ?_⟩
 have hk' : k < m := by rw [List.length_take] at hk; omega
 obtain ⟨A', c', e1, e2, e3, rest⟩ := h3 k (by omega)
 rw [List.getElem_take]
 exact ⟨A', c', by rw [List.getElem?_take, if_pos (by omega)]; exact e1, by rw [List.getElem?_take, if_pos (by omega)]; exact e2, by rw [List.getElem?_take, if_pos (by omega)]; exact e3, rest⟩
@[go_sem] theorem bv_xor (a b : UInt8) : bits .xor .u8 (bv a) (bv b) = bv (a ^^^ b) := by
 unfold bv
 rw [UInt8.toNat_xor]
 exact u8_xor_nat _ _ a.toNat_lt b.toNat_lt
/-
  PROVED HERE: what segment.Read answers at bytes of another length; how much it reads; no condition.
-/
theorem right_len : ∀ (rs : List RecP), (∀ r ∈ rs, recRight r = true) → 15 * rs.length ≤ (leavesOf rs).flatten.length
 | [], _ => by simp
 | r :: rs, h => by
  have ih := right_len rs (fun x hx => h x (by simp [hx]))
  have h1 := h r (by simp)
  rw [leavesOf_cons h1, List.flatten_cons, List.length_append, recEnc_len h1, List.length_cons]
  omega
theorem segRead_small (bs : List UInt8) : (∀ r ∈ (segRead bs).2.1, recRight r = true) ∧ (leavesOf (segRead bs).2.1).flatten.length ≤ 942 ∧ (segRead bs).2.1.length ≤ 942 := by
 have nil : (∀ r ∈ ([] : List RecP), recRight r = true) ∧ (leavesOf ([] : List RecP)).flatten.length ≤ 942 ∧ ([] : List RecP).length ≤ 942 := by simp [leavesOf]
 unfold segRead
 split
 ·exact nil
 split
 ·exact nil
 split
 ·exact nil
 rename_i h1 h2 h3
 split
 ·exact nil
 ·rename_i rs rest hg
  split
  ·exact nil
  split
  ·exact nil
  ·obtain ⟨e, _, hr, _⟩ := recsGo_ok _ _ _ _ _ _ hg
   have hl := congrArg List.length e
   rw [List.length_append, List.length_take] at hl
   have hb : (headOf bs).bytes.toNat ≤ 942 := by omega
   have hr' : ∀ r ∈ rs, recRight r = true := fun r h => (hr r h).1
   have h15 := right_len rs hr'
   refine ⟨hr', ?_, ?_⟩
   ·show (leavesOf rs).flatten.length ≤ 942
    omega
   ·show rs.length ≤ 942
    omega
/-
  PROVED HERE: what the reference's turn answers, laws for whole arrays, and the loops of its Sum as terms; no condition.
-/
theorem rrot2 (x : BitVec 32) (w : World) : Calls Tryz.prog 135 #[.int .u32 (wv x), .int .u64 2] w fun e w' => e = .returned (.int .u32 (wv (rotr x 2))) ∧ w = w' := by
 rw [show rotr x 2 = x >>> 2 ||| x <<< 30 from BitVec.or_comm _ _]
 go_enter Tryz.func135, Tryz.ntmps135
 go_wp2
 go_ret
 exact ⟨rfl, rfl⟩
theorem rrot6 (x : BitVec 32) (w : World) : Calls Tryz.prog 135 #[.int .u32 (wv x), .int .u64 6] w fun e w' => e = .returned (.int .u32 (wv (rotr x 6))) ∧ w = w' := by
 rw [show rotr x 6 = x >>> 6 ||| x <<< 26 from BitVec.or_comm _ _]
 go_enter Tryz.func135, Tryz.ntmps135
 go_wp2
 go_ret
 exact ⟨rfl, rfl⟩
theorem rrot7 (x : BitVec 32) (w : World) : Calls Tryz.prog 135 #[.int .u32 (wv x), .int .u64 7] w fun e w' => e = .returned (.int .u32 (wv (rotr x 7))) ∧ w = w' := by
 rw [show rotr x 7 = x >>> 7 ||| x <<< 25 from BitVec.or_comm _ _]
 go_enter Tryz.func135, Tryz.ntmps135
 go_wp2
 go_ret
 exact ⟨rfl, rfl⟩
theorem rrot11 (x : BitVec 32) (w : World) : Calls Tryz.prog 135 #[.int .u32 (wv x), .int .u64 11] w fun e w' => e = .returned (.int .u32 (wv (rotr x 11))) ∧ w = w' := by
 rw [show rotr x 11 = x >>> 11 ||| x <<< 21 from BitVec.or_comm _ _]
 go_enter Tryz.func135, Tryz.ntmps135
 go_wp2
 go_ret
 exact ⟨rfl, rfl⟩
theorem rrot13 (x : BitVec 32) (w : World) : Calls Tryz.prog 135 #[.int .u32 (wv x), .int .u64 13] w fun e w' => e = .returned (.int .u32 (wv (rotr x 13))) ∧ w = w' := by
 rw [show rotr x 13 = x >>> 13 ||| x <<< 19 from BitVec.or_comm _ _]
 go_enter Tryz.func135, Tryz.ntmps135
 go_wp2
 go_ret
 exact ⟨rfl, rfl⟩
theorem rrot17 (x : BitVec 32) (w : World) : Calls Tryz.prog 135 #[.int .u32 (wv x), .int .u64 17] w fun e w' => e = .returned (.int .u32 (wv (rotr x 17))) ∧ w = w' := by
 rw [show rotr x 17 = x >>> 17 ||| x <<< 15 from BitVec.or_comm _ _]
 go_enter Tryz.func135, Tryz.ntmps135
 go_wp2
 go_ret
 exact ⟨rfl, rfl⟩
theorem rrot18 (x : BitVec 32) (w : World) : Calls Tryz.prog 135 #[.int .u32 (wv x), .int .u64 18] w fun e w' => e = .returned (.int .u32 (wv (rotr x 18))) ∧ w = w' := by
 rw [show rotr x 18 = x >>> 18 ||| x <<< 14 from BitVec.or_comm _ _]
 go_enter Tryz.func135, Tryz.ntmps135
 go_wp2
 go_ret
 exact ⟨rfl, rfl⟩
theorem rrot19 (x : BitVec 32) (w : World) : Calls Tryz.prog 135 #[.int .u32 (wv x), .int .u64 19] w fun e w' => e = .returned (.int .u32 (wv (rotr x 19))) ∧ w = w' := by
 rw [show rotr x 19 = x >>> 19 ||| x <<< 13 from BitVec.or_comm _ _]
 go_enter Tryz.func135, Tryz.ntmps135
 go_wp2
 go_ret
 exact ⟨rfl, rfl⟩
theorem rrot22 (x : BitVec 32) (w : World) : Calls Tryz.prog 135 #[.int .u32 (wv x), .int .u64 22] w fun e w' => e = .returned (.int .u32 (wv (rotr x 22))) ∧ w = w' := by
 rw [show rotr x 22 = x >>> 22 ||| x <<< 10 from BitVec.or_comm _ _]
 go_enter Tryz.func135, Tryz.ntmps135
 go_wp2
 go_ret
 exact ⟨rfl, rfl⟩
theorem rrot25 (x : BitVec 32) (w : World) : Calls Tryz.prog 135 #[.int .u32 (wv x), .int .u64 25] w fun e w' => e = .returned (.int .u32 (wv (rotr x 25))) ∧ w = w' := by
 rw [show rotr x 25 = x >>> 25 ||| x <<< 7 from BitVec.or_comm _ _]
 go_enter Tryz.func135, Tryz.ntmps135
 go_wp2
 go_ret
 exact ⟨rfl, rfl⟩
theorem wpList_store_at {P : Program} {ops : Array Oper} {rest : List Oper} {o : Oper} {a : Act} {Q : Exit → Act → World → Prop} {w : World} (hgd : o.guard = none) (ty : TypeId) (x y : Operand) (ho : o.op = .store ty x y)
  (c c' : Array Value) (g : Nat) (hx : a.eval x = .pointer (some ⟨g, 0, none⟩)) (hy : a.eval y = .agg c') (hg : g = w.heap.size)
  (hi : (P.info? ty).map (·.size) = some c'.size) (hs : c.size = c'.size) (h1 : c'.all (·.oneCell') = true)
  (h : wpList P ops Q rest (a.put o.dst undef) (w.alloc (.cells c' ty))) : wpList P ops Q (o :: rest) a (w.alloc (.cells c ty)) :=
 wpList_store_new hgd ty x y ho ty c c' (by rw [hx, hg]) hy hi rfl hs h1 h
theorem W32s.vals (w : World) (t : TypeId) (l : List Nat) (arr : Array Value) (ha : arr.toList = l.map fun (n : Nat) => Value.int .u32 (n : Int)) (hl : ∀ n ∈ l, n < 4294967296) (m : Nat) (hm : m = l.length) :
  W32s (w.alloc (.cells arr t)) w.heap.size 0 m (fun j => BitVec.ofNat 32 (l.getD j 0)) := fun j hj => by
 refine ⟨?_, free_new w _ t _⟩
 rw [cell_of_row _ _ _ _ t (0, 0) (heap_alloc_new w _), Nat.zero_add, ← Array.getElem?_toList, ha]
 exact vals_at l hl j (by omega)
def S8.arr (S : S8) : Array Value := #[.int .u32 (wv S.a), .int .u32 (wv S.b), .int .u32 (wv S.c), .int .u32 (wv S.d), .int .u32 (wv S.e), .int .u32 (wv S.f), .int .u32 (wv S.g), .int .u32 (wv S.h)]
theorem S8.arr_at (S : S8) (j : Nat) (hj : j < 8) : S.arr[j]? = some (.int .u32 (wv (S.get j))) := by
 match j, hj with
 | 0, _ => rfl
 | 1, _ => rfl
 | 2, _ => rfl
 | 3, _ => rfl
 | 4, _ => rfl
 | 5, _ => rfl
 | 6, _ => rfl
 | 7, _ => rfl
theorem Keep.setRow {D : Nat → Prop} {a w : World} (h : Keep D a w) {g : Nat} (hg : D g → a.heap.size ≤ g) (cs : Array Value) : Keep D a (w.setRow g cs) :=
 ⟨h.os, h.tape, h.output, by simpa using h.size, fun k hk hd => (setRow_other w g k cs (by rintro rfl; have := hg hd; omega)).trans (h.block k hk hd)⟩
theorem W32s.ofArr {w : World} {g : Nat} {t : TypeId} {S : S8} (h : w.heap[g]? = some (.cells S.arr t (0, 0))) : W32s w g 0 8 S.get := fun j hj => by
 refine ⟨?_, ?_⟩
 ·rw [Nat.zero_add]; exact (cell_of_row w g j S.arr t (0, 0) h).trans (S8.arr_at S j hj)
 ·unfold World.frozen?; rw [h]; simp
theorem S8.arr_size2 (S T : S8) : S.arr.size = T.arr.size := rfl
theorem S8.arr_one (S : S8) : S.arr.all (·.oneCell') = true := by simp [S8.arr, Value.oneCell']
theorem info_8 : (Tryz.prog.info? 211).map (·.size) = some 8 := by kernel_rfl
theorem S8.arr_info (S : S8) : (Tryz.prog.info? 211).map (·.size) = some S.arr.size := info_8
theorem quiet_add_left {P : Program} {f : FuncId} {args : Array Value} {w : World} {a n : Nat} {v : Value}
  (h : Calls P f args (w.drewN (a + n)) fun e w' => e = .returned v ∧ w.drewN (a + n) = w') : Calls P f args (w.drewN (a + n)) fun e w'' => e = .returned v ∧ ∃ m, w'' = w.drewN (a + m) :=
 h.mono fun _ _ ⟨he, hm⟩ => ⟨he, n, hm.symm⟩
theorem wpList_build_lit {P : Program} {ops : Array Oper} {rest : List Oper} {a : Act} {w : World} {Q : Exit → Act → World → Prop} {dst : Option Tmp} {t ty : TypeId} {parts : Array (Nat × Operand)} {pos : String} {after : Array Edge}
  (cs : Array Value) (hf : P.built t (parts.map fun (i, x) => (i, a.eval x)).toList = some cs) (h : wpList P ops Q rest (a.put dst (.agg cs)) w) : wpList P ops Q ({ dst := dst, op := .build t parts, type := ty, pos := pos, after := after, guard := none } :: rest) a w :=
 wpList_build_as rfl t parts rfl cs hf h
theorem wpList_storerow_lit {P : Program} {ops : Array Oper} {rest : List Oper} {a : Act} {w : World} {Q : Exit → Act → World → Prop} {dst : Option Tmp} {t ty : TypeId} {x y : Operand} {pos : String} {after : Array Edge}
  (g : Nat) (cells : Array Value) (old : Array Value) (hg : w.heap[g]? = some (.cells old t (0, 0))) (hx : a.eval x = .pointer (some ⟨g, 0, none⟩)) (hy : a.eval y = .agg cells) (hi : (P.info? t).map (·.size) = some cells.size)
  (hold : old.size = cells.size) (h1 : cells.all (·.oneCell') = true) (h : wpList P ops Q rest (a.put dst undef) (w.setRow g cells)) : wpList P ops Q ({ dst := dst, op := .store t x y, type := ty, pos := pos, after := after, guard := none } :: rest) a w :=
 wpList_store_row rfl t x y rfl g cells hx hy t old hg hi hold h1 h
theorem wordAt_block (L : List UInt8) (t k : Nat) (hk : k < 16) (h : 64 * t + 4 * k + 3 < L.length) :
  wordAt ((L.drop (64 * t)).take 64) k = word4 (L[64 * t + 4 * k]'(by omega)) (L[64 * t + 4 * k + 1]'(by omega)) (L[64 * t + 4 * k + 2]'(by omega)) (L[64 * t + 4 * k + 3]'h) := by
 have e : ∀ i, i < 64 → (h' : 64 * t + i < L.length) → ((L.drop (64 * t)).take 64).getD i 0 = L[64 * t + i]'h' := fun i hi h' => by
  rw [List.getD_eq_getElem?_getD, List.getElem?_take, if_pos hi, List.getElem?_drop, List.getElem?_eq_getElem h']; rfl
 unfold wordAt
 rw [e (4 * k) (by omega) (by omega), e (4 * k + 1) (by omega) (by omega), e (4 * k + 2) (by omega) (by omega), e (4 * k + 3) (by omega) (by omega)]
 rfl
def loopsOf : Code → List Code
 | .loop c => c :: loopsOf c
 | .seq a b => loopsOf a ++ loopsOf b
 | .block _ c => loopsOf c
 | .scope c => loopsOf c
 | .cond _ a b => loopsOf a ++ loopsOf b
 | _ => []
def nthLoop (f : Func) (n : Nat) : Code := (loopsOf (f.body.getD .skip)).getD n .skip
noncomputable def refLoop3 : Code := nthLoop Tryz.f65 2
noncomputable def refLoop4 : Code := nthLoop Tryz.f65 3
noncomputable def refLoop5 : Code := nthLoop Tryz.f65 4
noncomputable def refLoop6 : Code := nthLoop Tryz.f65 5
noncomputable def refLoop7 : Code := nthLoop Tryz.f65 6
end Go.Proofs.YtijjhfkgbmckkaaGreatDoor
