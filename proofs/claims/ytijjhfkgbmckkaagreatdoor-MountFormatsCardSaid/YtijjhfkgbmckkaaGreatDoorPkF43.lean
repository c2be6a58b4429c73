/-
  PROVED HERE: texts that belong together, one behind the other; what each proves, and under which conditions, its own opening remark says: FmtLaw22, MarkLaw22, SuperRead22.
-/
import Derived.Test.YtijjhfkgbmckkaaGreatDoorPkF42
/-
  PROVED HERE: plain law: what a disk that is made ready has, byte for byte; condition: 64 to 1000 sectors, an id of 16 bytes.
-/
namespace Go.Proofs.YtijjhfkgbmckkaaGreatDoor
open Go.RowKit
def fmtPoint (k : Nat) (id : List UInt8) (gen : Nat) : List UInt8 := pointBytes ((k / 4 : Nat) : Int) (fmtMark id (gen : Int))
def fmtBytes (k : Nat) (id : List UInt8) : List UInt8 := superBytes k id ++ (fmtPoint k id 2 ++ (fmtPoint k id 1 ++ List.replicate ((k - 1 - 2 * (k / 4)) * 128) 0))
theorem chunk_left {a b : List UInt8} {m x : Nat} (ha : a.length = m * 128) (hx : x < m) : chunkOf (a ++ b) x = chunkOf a x := by
 unfold chunkOf
 rw [List.drop_append_of_le_length (by omega), List.take_append_of_le_length (by rw [List.length_drop]; omega)]
theorem chunk_right {a b : List UInt8} {m x : Nat} (ha : a.length = m * 128) (hx : m ≤ x) : chunkOf (a ++ b) x = chunkOf b (x - m) := by
 unfold chunkOf
 rw [List.drop_append, List.drop_eq_nil_of_le (by omega), List.nil_append, ha, show x * 128 - m * 128 = (x - m) * 128 from by omega]
theorem chunk_noughts {n m x y : Nat} (hx : x < n) (hy : y < m) : chunkOf (List.replicate (n * 128) 0) x = chunkOf (List.replicate (m * 128) 0) y := by
 unfold chunkOf
 rw [List.drop_replicate, List.drop_replicate, List.take_replicate, List.take_replicate, show min 128 (n * 128 - x * 128) = 128 from by omega, show min 128 (m * 128 - y * 128) = 128 from by omega]
theorem fmtPoint_length {k : Nat} {id : List UInt8} {gen : Nat} (hk : 64 ≤ k) (h1 : 1 ≤ gen) (h2 : gen ≤ 2) : (fmtPoint k id gen).length = k / 4 * 128 := by
 have h := fmtMark_ok (id := id) (p := k / 4) (g := 0) (gen := gen) h1 h2 (by omega)
 exact pointBytes_length h.1.head (by have := h.2.1; omega)
theorem fmtBytes_length {k : Nat} {id : List UInt8} (hk : 64 ≤ k) (hid : id.length = 16) : (fmtBytes k id).length = k * 128 := by
 unfold fmtBytes
 rw [List.length_append, List.length_append, List.length_append, superBytes_length hid, fmtPoint_length hk (by decide) (by decide), fmtPoint_length hk (by decide) (by decide), List.length_replicate]
 omega
theorem fmtDirt_two {M : Dirt} {k : Nat} {id : List UInt8} (hk : 64 ≤ k) (hid : id.length = 16) {i : Nat} (hi : i < k) : fmtDirt M k id 2 i = some (chunkOf (fmtBytes k id) i) := by
 have hs : (superBytes (k : Int) id).length = 1 * 128 := superBytes_length hid
 have h2 := fmtPoint_length (id := id) (gen := 2) hk (by decide) (by decide)
 have h1 := fmtPoint_length (id := id) (gen := 1) hk (by decide) (by decide)
 have e1 : (((0 + 1 : Nat) : Int) % 2).toNat = 1 := by decide
 have e2 : (((1 + 1 : Nat) : Int) % 2).toNat = 0 := by decide
 have hd : fmtDirt M k id 2 = dirtRows (dirtRows (dirtRows (dirtRows M 0 1 (superBytes k id)) 1 (k - 1) (List.replicate ((k - 1) * 128) 0)) (1 + 1 * (k / 4)) (k / 4) (fmtPoint k id 1)) (1 + 0 * (k / 4)) (k / 4) (fmtPoint k id 2) := rfl
 rw [hd]
 unfold dirtRows fmtBytes
 by_cases a0 : i = 0
 ·subst a0
  rw [if_neg (by omega), if_neg (by omega), if_neg (by omega), if_pos (by omega), chunk_left hs (by omega)]
  rfl
 ·rw [chunk_right hs (by omega)]
  by_cases a1 : i < 1 + k / 4
  ·rw [if_pos (by omega), chunk_left h2 (by omega)]
   congr 2
   omega
  ·rw [if_neg (by omega), chunk_right h2 (by omega)]
   by_cases a2 : i < 1 + 2 * (k / 4)
   ·rw [if_pos (by omega), chunk_left h1 (by omega)]
    congr 2
    omega
   ·rw [if_neg (by omega), if_pos (by omega), chunk_right h1 (by omega)]
    congr 1
    exact chunk_noughts (by omega) (by omega)
theorem flushed_all {S b : List UInt8} {M : Dirt} {k : Nat} (hb : b.length = k * 128) (hS : S.length = k * 128) (h : ∀ i, i < k → M (i : Nat) = some (chunkOf b i)) : flushed S M = b := by
 apply List.ext_getElem?
 intro j
 unfold flushed laidOver
 rw [List.getElem?_mapIdx]
 by_cases hj : j < k * 128
 ·rw [List.getElem?_eq_getElem (show j < S.length by omega), List.getElem?_eq_getElem (show j < b.length by omega), h (j / 128) (by omega)]
  simp only [Option.map_some, if_true]
  congr 1
  unfold chunkOf
  rw [List.getD_eq_getElem?_getD, List.getElem?_take, if_pos (by omega), List.getElem?_drop, show j / 128 * 128 + j % 128 = j from by omega, List.getElem?_eq_getElem (show j < b.length by omega)]
  rfl
 ·rw [List.getElem?_eq_none (by omega), List.getElem?_eq_none (by omega)]
  rfl
theorem fmt_flushed {M : Dirt} {S : List UInt8} {k : Nat} {id : List UInt8} (hk : 64 ≤ k) (hid : id.length = 16) (hS : S.length = k * 128) : flushed S (fmtDirt M k id 2) = fmtBytes k id :=
 flushed_all (fmtBytes_length hk hid) hS fun _ hi => fmtDirt_two hk hid hi
theorem fmt_within {M : Dirt} {S : List UInt8} {k : Nat} {id : List UInt8} (hk : 64 ≤ k) (hS : S.length = k * 128) (hM : ∀ (i : Nat) b, M i = some b → i * 128 + 128 ≤ S.length) : ∀ (i : Nat) b, fmtDirt M k id 2 i = some b → i * 128 + 128 ≤ S.length := by
 intro i b h
 by_cases hi : i < k
 ·omega
 ·have e1 : (((0 + 1 : Nat) : Int) % 2).toNat = 1 := by decide
  have e2 : (((1 + 1 : Nat) : Int) % 2).toNat = 0 := by decide
  have hd : fmtDirt M k id 2 = dirtRows (dirtRows (dirtRows (dirtRows M 0 1 (superBytes k id)) 1 (k - 1) (List.replicate ((k - 1) * 128) 0)) (1 + 1 * (k / 4)) (k / 4) (fmtPoint k id 1)) (1 + 0 * (k / 4)) (k / 4) (fmtPoint k id 2) := rfl
  rw [hd] at h
  unfold dirtRows at h
  rw [if_neg (by omega), if_neg (by omega), if_neg (by omega), if_neg (by omega)] at h
  exact hM i b h
theorem mformat_ok {w : World} {D : Nat → Prop} {q : DiskB} {S : List UInt8} {M : Dirt} {n : Nat} {wr0 : Int} {k : Nat} (h : DiskAt w D q S M n wr0) (hk : S.length = k * 128) (hk0 : 64 ≤ k) (hk1 : k ≤ 1000) (hD : ∀ b, w.heap.size ≤ b → D b) (hn : n ≤ 100000)
  {D1 : Nat → Prop} {A : Option Addr} {c : Nat} {id : List UInt8} (hM : ∀ (i : Nat) b, M i = some b → i * 128 + 128 ≤ S.length) (hid : Bs w D1 A 16 id) (hD1 : ∀ b, D1 b → b ≠ q.bd ∧ b ≠ q.bm) (hc : 16 ≤ c) :
  Calls Tryz.prog 13 #[.pointer (some ⟨q.bd, 0, none⟩), .slice A 16 c] w fun e w' => e = .returned (.int .i64 0) ∧ Keep (fun j => j ≠ q.bd ∧ j ≠ q.bs ∧ j ≠ q.bm) w w' ∧ ∃ wr', DiskAt w' D q (fmtBytes k id) Dirt.no 0 wr' := by
 have hf := fmt_flushed (M := M) (S := S) (id := id) hk0 hid.len hk
 have := mformat_any h hk hk0 hk1 hD hn (fmt_within hk0 hk hM) hid hD1 hc
 rw [hf] at this
 exact this
/-
  PROVED HERE: plain law: what is read of a point's bytes; condition: a mark that may be, and that fits.
-/
theorem num_at (k : Nat) (n : Int) (rest : List UInt8) (h0 : 0 ≤ n) (h1 : n < 256 ^ k) : ∃ m : Nat, RdS.num ⟨beI k n ++ rest, 0⟩ k = (m, ⟨rest, 0⟩) ∧ (m : Int) = n :=
 ⟨beNat (beI k n), RdS.num_cut _ _ _ (beI_length k n).symm, beNat_beI k n h0 h1⟩
theorem lowb_nat (x : BitVec 32) : (lowb x).toNat = x.toNat % 256 := by
 unfold lowb
 rw [UInt8.toNat_ofNat']
 omega
theorem be4_nums (c : BitVec 32) (rest : List UInt8) : ∃ a b : Nat, ∃ r : List UInt8, RdS.num ⟨be4 c ++ rest, 0⟩ 2 = (a, ⟨r, 0⟩) ∧ RdS.num ⟨r, 0⟩ 2 = (b, ⟨rest, 0⟩) ∧ (a : Int) = wv (c >>> 16) ∧ (b : Int) = wv (c &&& 65535#32) := by
 refine ⟨beNat [lowb (c >>> 24), lowb (c >>> 16)], beNat [lowb (c >>> 8), lowb c], [lowb (c >>> 8), lowb c] ++ rest, ?_, RdS.num_cut _ _ _ rfl, ?_, ?_⟩
 ·rw [show be4 c ++ rest = [lowb (c >>> 24), lowb (c >>> 16)] ++ ([lowb (c >>> 8), lowb c] ++ rest) from rfl]
  exact RdS.num_cut _ _ _ rfl
 ·have hc := c.isLt
  simp only [beNat, List.foldl_cons, List.foldl_nil, lowb_nat, wv, BitVec.toNat_ushiftRight, Nat.shiftRight_eq_div_pow]
  omega
 ·have hc := c.isLt
  have e : (c &&& 65535#32).toNat = c.toNat % 65536 := by
   rw [BitVec.toNat_and]
   exact Nat.and_two_pow_sub_one_eq_mod c.toNat 16
  simp only [beNat, List.foldl_cons, List.foldl_nil, lowb_nat, wv, BitVec.toNat_ushiftRight, Nat.shiftRight_eq_div_pow, e]
  omega
theorem word_halves (c : BitVec 32) : (c >>> 16) <<< 16 ||| (c &&& 65535#32) = c := by
 apply BitVec.eq_of_toNat_eq
 have hc := c.isLt
 have e : (c &&& 65535#32).toNat = c.toNat % 65536 := by
  rw [BitVec.toNat_and]
  exact Nat.and_two_pow_sub_one_eq_mod c.toNat 16
 rw [BitVec.toNat_or, e, BitVec.toNat_shiftLeft, BitVec.toNat_ushiftRight, Nat.shiftRight_eq_div_pow, Nat.shiftLeft_eq]
 have h1 : c.toNat / 2 ^ 16 * 2 ^ 16 % 2 ^ 32 = c.toNat / 2 ^ 16 * 2 ^ 16 := by omega
 rw [h1, ← Nat.shiftLeft_eq, ← Nat.shiftLeft_add_eq_or_of_lt (show c.toNat % 65536 < 2 ^ 16 by omega), Nat.shiftLeft_eq]
 omega
structure MarkParts (bs : List UInt8) (m : MarkP) (g q s a b : Nat) (r1 r2 r3 r4 r5 r6 r7 r8 r9 : List UInt8) (z : Nat) : Prop where
 e1 : RdS.num ⟨bs, 0⟩ 8 = (g, ⟨r1, 0⟩)
 e2 : RdS.num ⟨r1, 0⟩ 8 = (q, ⟨r2, 0⟩)
 e3 : RdS.num ⟨r2, 0⟩ 2 = (s, ⟨r3, 0⟩)
 e4 : RdS.raw ⟨r3, 0⟩ 32 = (m.head, ⟨r4, 0⟩)
 e5 : RdS.num ⟨r4, 0⟩ 8 = (m.data.length, ⟨r5, 0⟩)
 e6 : RdS.num ⟨r5, 0⟩ 2 = (a, ⟨r6, 0⟩)
 e7 : RdS.num ⟨r6, 0⟩ 2 = (b, ⟨r7, 0⟩)
 e8 : RdS.raw ⟨r7, 0⟩ 32 = (shaSum m.data, ⟨r8, 0⟩)
 e9 : RdS.raw ⟨r8, 0⟩ m.data.length = (m.data, ⟨r9, 0⟩)
 hg : (g : Int) = m.gen
 hq : (q : Int) = m.seq
 hs : (s : Int) = m.segs
 ha : (a : Int) = wv (crcSum (bs.take 58) >>> 16)
 hb : (b : Int) = wv (crcSum (bs.take 58) &&& 65535#32)
 tail : bs.drop (94 + m.data.length) = List.replicate z 0
 sum4 : (bs.drop 58).take 4 = be4 (crcSum (bs.take 58))
 hash : (bs.drop 62).take 32 = shaSum m.data
 body : (bs.drop 94).take m.data.length = m.data
 r9z : r9 = List.replicate z 0
theorem point_parts {p g : Int} {m : MarkP} (hm : MarkOk p g m) (hp : g ≤ 512) (hf : m.data.length ≤ 1000000) :
  ∃ g q s a b : Nat, ∃ r1 r2 r3 r4 r5 r6 r7 r8 r9 : List UInt8, MarkParts (pointBytes p m) m g q s a b r1 r2 r3 r4 r5 r6 r7 r8 r9 ((128 * p).toNat - 94 - m.data.length) := by
 obtain ⟨z, hz⟩ : ∃ z, z = (128 * p).toNat - 94 - m.data.length := ⟨_, rfl⟩
 rw [← hz]
 have hpl := pointHead_length hm.head
 obtain ⟨g1, g2⟩ := hm.gen
 obtain ⟨q1, q2⟩ := hm.seq
 obtain ⟨s1, s2⟩ := hm.segs
 have hw : pointBytes p m = beI 8 m.gen ++ (beI 8 m.seq ++ (beI 2 m.segs ++ (m.head ++ (beI 8 m.data.length ++ (be4 (crcSum (pointHead m)) ++ (shaSum m.data ++ (m.data ++ List.replicate z 0))))))) := by
  rw [hz]
  simp [pointBytes, pointHead]
 have hw2 : pointBytes p m = pointHead m ++ (be4 (crcSum (pointHead m)) ++ (shaSum m.data ++ (m.data ++ List.replicate z 0))) := by rw [hz]; simp [pointBytes]
 have ht : (pointBytes p m).take 58 = pointHead m := by rw [hw2, List.take_append_of_le_length (by omega), List.take_of_length_le (by omega)]
 have hd58 : (pointBytes p m).drop 58 = be4 (crcSum (pointHead m)) ++ (shaSum m.data ++ (m.data ++ List.replicate z 0)) := by rw [hw2, List.drop_append_of_le_length (by omega), List.drop_eq_nil_of_le (by omega), List.nil_append]
 have hd62 : (pointBytes p m).drop 62 = shaSum m.data ++ (m.data ++ List.replicate z 0) := by
  rw [show 62 = 58 + 4 from rfl, ← List.drop_drop, hd58, List.drop_append_of_le_length (by rw [be4_length]; omega), List.drop_eq_nil_of_le (by rw [be4_length]; omega), List.nil_append]
 have hd94 : (pointBytes p m).drop 94 = m.data ++ List.replicate z 0 := by
  rw [show 94 = 62 + 32 from rfl, ← List.drop_drop, hd62, List.drop_append_of_le_length (by rw [shaSum_length]; omega), List.drop_eq_nil_of_le (by rw [shaSum_length]; omega), List.nil_append]
 obtain ⟨g', e1, hg⟩ := num_at 8 m.gen (beI 8 m.seq ++ (beI 2 m.segs ++ (m.head ++ (beI 8 m.data.length ++ (be4 (crcSum (pointHead m)) ++ (shaSum m.data ++ (m.data ++ List.replicate z 0))))))) (by omega) (by omega)
 obtain ⟨q', e2, hq⟩ := num_at 8 m.seq (beI 2 m.segs ++ (m.head ++ (beI 8 m.data.length ++ (be4 (crcSum (pointHead m)) ++ (shaSum m.data ++ (m.data ++ List.replicate z 0)))))) (by omega) (by omega)
 obtain ⟨s', e3, hs⟩ := num_at 2 m.segs (m.head ++ (beI 8 m.data.length ++ (be4 (crcSum (pointHead m)) ++ (shaSum m.data ++ (m.data ++ List.replicate z 0))))) (by omega) (by omega)
 obtain ⟨n', e5, hn⟩ := num_at 8 m.data.length (be4 (crcSum (pointHead m)) ++ (shaSum m.data ++ (m.data ++ List.replicate z 0))) (by omega) (by omega)
 obtain ⟨a, b, r6, e6, e7, ha, hb⟩ := be4_nums (crcSum (pointHead m)) (shaSum m.data ++ (m.data ++ List.replicate z 0))
 have hn' : n' = m.data.length := by omega
 rw [hn'] at e5
 refine ⟨g', q', s', a, b, _, _, _, _, _, r6, _, _, _, ⟨by rw [hw]; exact e1, e2, e3, RdS.raw_zero _ _ _ (by rw [hm.head]; rfl), e5, e6, e7, RdS.raw_zero _ _ _ (by rw [shaSum_length]; rfl), RdS.raw_zero _ _ _ rfl, hg, hq, hs, by rw [ht]; exact ha, by rw [ht]; exact hb, ?_, ?_, ?_, ?_, rfl⟩⟩
 ·rw [← List.drop_drop, hd94, List.drop_append_of_le_length (Nat.le_refl _), List.drop_eq_nil_of_le (Nat.le_refl _), List.nil_append]
 ·rw [hd58, ht, List.take_append_of_le_length (by rw [be4_length]; omega), List.take_of_length_le (by rw [be4_length]; omega)]
 ·rw [hd62, List.take_append_of_le_length (by rw [shaSum_length]; omega), List.take_of_length_le (by rw [shaSum_length]; omega)]
 ·rw [hd94, List.take_append_of_le_length (Nat.le_refl _), List.take_of_length_le (Nat.le_refl _)]
/-
  PROVED HERE: what slices.Equal answers of bytes, what layout.ReadSuper and mount.Super answer; conditions: lengths that a slice may have; nothing on the disk is unsafe.
-/
set_option maxRecDepth 100000 in
set_option maxHeartbeats 2000000 in
theorem sliceEqual_any (D D2 : Nat → Prop) (A A2 : Option Addr) (n c n2 c2 : Nat) (a b : List UInt8) (w : World) (hB : Bs w D A n a) (hB2 : Bs w D2 A2 n2 b) (hn : n ≤ 1099511627776) (hn2 : n2 ≤ 1099511627776) :
  Calls Tryz.prog 270 #[.slice A n c, .slice A2 n2 c2] w fun e w' => e = .returned (.bool (decide (a = b))) ∧ New w w' := by
 have hl := hB.len
 have hl2 := hB2.len
 by_cases hne : n = n2
 ·subst hne
  have HB := Lib.hid hB
  have HB2 := Lib.hid hB2
  have HL := Lib.hid (And.intro hl hl2)
  clear hB hB2 hl hl2
  go_enter Tryz.func270, Tryz.ntmps270
  go_wp2_with fail
  go_loopw [13] (fun i wx => ∃ k : Nat, k ≤ n ∧ i = .int .i64 (k : Int) ∧ (∀ j (h1 : j < a.length) (h2 : j < b.length), j < k → a[j] = b[j]) ∧ New w wx) (fun i _ => n - (intOf i).toNat)
  case atStart => exact ⟨0, Nat.zero_le _, rfl, fun j _ _ hj => absurd hj (Nat.not_lt_zero j), New.refl w⟩
  case round =>
   obtain ⟨k, hk, rfl, hsm, hK⟩ := hrel
   have HSM := Lib.hid hsm
   have HK := Lib.hid hK
   clear hsm hK
   by_cases hlt : k < n
   ·have h1 : k < a.length := by have := HL.out; omega
    have h2 : k < b.length := by have := HL.out; omega
    obtain ⟨g1, o1, rfl, -, -, x1⟩ := HB.out.cellAt (by omega)
    obtain ⟨g2, o2, rfl, -, -, x2⟩ := HB2.out.cellAt (by omega)
    have y1 : ∀ m, (wr.drewN m).cell? ⟨g1, o1 + k, none⟩ = some (.int .u8 (bv a[k])) := fun m => (HK.out.drewN m).cell_some (x1 k h1) trivial
    have y2 : ∀ m, (wr.drewN m).cell? ⟨g2, o2 + k, none⟩ = some (.int .u8 (bv b[k])) := fun m => (HK.out.drewN m).cell_some (x2 k h2) trivial
    have HNX : Hid (a[k] = b[k] → ∀ j (h1 : j < a.length) (h2 : j < b.length), j < k + 1 → a[j] = b[j]) := Lib.hid fun h j hj1 hj2 hj => by
     by_cases e : j = k
     ·subst e; exact h
     ·exact HSM.out j hj1 hj2 (by omega)
    have HNE : Hid (a[k] ≠ b[k] → decide (a = b) = false) := Lib.hid fun h => decide_eq_false fun e => h (by subst e; rfl)
    generalize a[k] = u at *
    generalize b[k] = v at *
    clear x1 x2 HSM
    by_cases huv : u = v
    ·have HNX := Lib.hid (HNX.out huv)
     have hd : (bv u != bv v) = false := by rw [huv]; simp
     clear HNE huv
     go_upto_region 6 with fail
     go_quiet (fail)
     go_wp2_with fail
     go_roundw
     case rel => exact ⟨k + 1, by omega, by go_num, HNX.out, HK.out.drewN _⟩
     case measure => simp [intOf]; omega
    ·have HNE := Lib.hid (HNE.out huv)
     have hd : (bv u != bv v) = true := by simpa using fun e => huv (bv_inj e)
     clear HNX huv
     go_upto_region 6 with fail
     go_quiet (fail)
     go_wp2_with fail
     go_ret
     exact ⟨by rw [HNE.out]; rfl, HK.out.drewN _⟩
   ·obtain rfl : k = n := by omega
    have HE : Hid (decide (a = b) = true) := Lib.hid (decide_eq_true (List.ext_getElem (by have := HL.out; omega) fun j h1 h2 => HSM.out j h1 h2 (by have := HL.out; omega)))
    clear HSM
    go_wp2_with fail
    go_ret
    exact ⟨by rw [HE.out]; rfl, HK.out⟩
 ·have hd : ((n : Int) != (n2 : Int)) = true := by simp; omega
  have HE : Hid (decide (a = b) = false) := Lib.hid (decide_eq_false fun e => hne (by rw [← hl, ← hl2, e]))
  clear hl hl2 hB hB2 hne
  go_enter Tryz.func270, Tryz.ntmps270
  go_wp2_with fail
  go_ret
  exact ⟨by rw [HE.out]; rfl, New.refl w⟩
def superOf (b : List UInt8) : Option (Nat × List UInt8) :=
 if 64 ≤ beNat ((b.drop 6).take 2) ∧ beNat ((b.drop 6).take 2) ≤ 4096 ∧ superBytes (beNat ((b.drop 6).take 2) : Nat) ((b.drop 8).take 16) = b then some (beNat ((b.drop 6).take 2), (b.drop 8).take 16) else none
theorem superOf_super {n : Nat} {id : List UInt8} (h0 : 64 ≤ n) (h1 : n ≤ 4096) (hid : id.length = 16) : superOf (superBytes n id) = some (n, id) := by
 have e : superBytes (n : Int) id = [87, 79, 82, 77, 0, 1] ++ (beI 2 n ++ (id ++ (be4 (crcSum (sup24 n id)) ++ List.replicate 100 0))) := by
  unfold superBytes
  generalize be4 (crcSum (sup24 (n : Int) id)) = x
  unfold sup24
  rw [show beI 2 1 = [0, 1] from by decide]
  simp only [List.append_assoc]
  rfl
 have d6 : (superBytes (n : Int) id).drop 6 = beI 2 n ++ (id ++ (be4 (crcSum (sup24 n id)) ++ List.replicate 100 0)) := by rw [e]; rfl
 have e1 : beNat (((superBytes (n : Int) id).drop 6).take 2) = n := by
  rw [d6, List.take_append_of_le_length (by rw [beI_length]; omega), List.take_of_length_le (by rw [beI_length]; omega)]
  have := beNat_beI 2 (n : Int) (by omega) (by omega)
  omega
 have e2 : ((superBytes (n : Int) id).drop 8).take 16 = id := by
  rw [show 8 = 6 + 2 from rfl, ← List.drop_drop, d6, List.drop_append_of_le_length (by rw [beI_length]; omega), List.drop_eq_nil_of_le (by rw [beI_length]; omega), List.nil_append, List.take_append_of_le_length (by omega), List.take_of_length_le (by omega)]
 unfold superOf
 rw [e1, e2, if_pos ⟨h0, h1, rfl⟩]
theorem superOf_nought : superOf (List.replicate 128 0) = none := by
 unfold superOf
 rw [if_neg]
 rintro ⟨h, -, -⟩
 exact absurd h (by decide)
def SuperRet (w : World) (r : Option (Nat × List UInt8)) (e : Ending) (w' : World) : Prop :=
 (match r with
 | some (n, id) => ∃ A' c', e = .returned (.tuple #[.int .i64 (n : Int), .slice A' 16 c', .int .i64 0]) ∧ OwnB w' w.heap.size 5 A' 16 c' id
 | none => e = .returned (.tuple #[.int .i64 0, .slice none 0 0, .int .i64 41])) ∧ New w w'
set_option maxRecDepth 100000 in
set_option maxHeartbeats 2000000 in
theorem readSuper_any (D : Nat → Prop) (A : Option Addr) (c : Nat) (b : List UInt8) (w : World) (hB : Bs w D A 128 b) :
  Calls Tryz.prog 171 #[.slice A 128 c] w (SuperRet w (superOf b)) := by
 have hl := hB.len
 obtain ⟨a4, b1, ha4, hb1⟩ : ∃ a4 b1, a4 = b.take 4 ∧ b1 = b.drop 4 := ⟨_, _, rfl, rfl⟩
 have e1 : RdS.raw ⟨b, 0⟩ 4 = (a4, ⟨b1, 0⟩) := by rw [RdS.raw_some _ _ rfl (by decide) (by show (4 : Int) ≤ b.length; omega), ha4, hb1]; rfl
 obtain ⟨x, b2, hx, hb2⟩ : ∃ x b2, x = beNat ((b.drop 4).take 2) ∧ b2 = b.drop 6 := ⟨_, _, rfl, rfl⟩
 have e2 : RdS.num ⟨b1, 0⟩ 2 = (x, ⟨b2, 0⟩) := by
  unfold RdS.num
  rw [RdS.raw_some _ _ rfl (by decide) (by rw [hb1]; show (2 : Int) ≤ (b.drop 4).length; rw [List.length_drop]; omega), hx, hb2, hb1]
  simp
 obtain ⟨n, b3, hn, hb3⟩ : ∃ n b3, n = beNat ((b.drop 6).take 2) ∧ b3 = b.drop 8 := ⟨_, _, rfl, rfl⟩
 have e3 : RdS.num ⟨b2, 0⟩ 2 = (n, ⟨b3, 0⟩) := by
  unfold RdS.num
  rw [RdS.raw_some _ _ rfl (by decide) (by rw [hb2]; show (2 : Int) ≤ (b.drop 6).length; rw [List.length_drop]; omega), hn, hb3, hb2]
  simp
 obtain ⟨id, b4, hid, hb4⟩ : ∃ id b4, id = (b.drop 8).take 16 ∧ b4 = b.drop 24 := ⟨_, _, rfl, rfl⟩
 have e4 : RdS.raw ⟨b3, 0⟩ 16 = (id, ⟨b4, 0⟩) := by
  rw [RdS.raw_some _ _ rfl (by decide) (by rw [hb3]; show (16 : Int) ≤ (b.drop 8).length; rw [List.length_drop]; omega), hid, hb4, hb3]
  simp
 have hidl : id.length = 16 := by rw [hid, List.length_take, List.length_drop, hl]; rfl
 have hnl : n ≤ 65535 := by
  rw [hn]
  have := beNat_lt ((b.drop 6).take 2)
  rw [List.length_take, List.length_drop, hl, show 256 ^ min 2 (128 - 6) = 65536 from by decide] at this
  omega
 have HSO : Hid (superOf b = if 64 ≤ n ∧ n ≤ 4096 ∧ superBytes (n : Int) id = b then some (n, id) else none) := Lib.hid (by rw [hn, hid]; rfl)
 have HE1 := Lib.hid e1
 have HE2 := Lib.hid e2
 have HE3 := Lib.hid e3
 have HE4 := Lib.hid e4
 have HB := Lib.hid hB
 have HL := Lib.hid hl
 have HID := Lib.hid hidl
 clear ha4 hb1 hx hb2 hn hb3 hid hb4 e1 e2 e3 e4 hB hl hidl
 have HNR := Lib.hid (newReader_any D A 128 c b w HB.out (by decide))
 go_enter Tryz.func171, Tryz.ntmps171
 go_wp2_with fail
 refine HNR.out.mono ?_
 rintro e w1 ⟨⟨p, rfl, hp, hR⟩, k1⟩
 have HR := Lib.hid (rraw_any p ⟨b, 0⟩ 4 w1 hR)
 have HK := Lib.hid k1
 clear HNR k1 hR
 go_wp2_with fail
 refine HR.out.mono ?_
 rintro e w2 ⟨⟨A2, c2, rfl, -⟩, hR, k2⟩
 rw [HE1.out] at hR
 have HR2 := Lib.hid (rshort_any p ⟨b1, 0⟩ w2 hR)
 have HKE := Lib.hid k2
 clear HR k2 hR
 go_wp2_with fail
 refine HR2.out.mono ?_
 rintro e w3 ⟨rfl, hR, k3⟩
 rw [HE2.out] at hR ⊢
 have HR3 := Lib.hid (rshort_any p ⟨b2, 0⟩ w3 hR)
 rw [HE3.out] at HR3
 replace HKE := Lib.hid (HKE.out.trans k3)
 clear HR2 k3 hR
 go_wp2_with fail
 refine HR3.out.mono ?_
 rintro e w4 ⟨rfl, hR, k4⟩
 have HR4 := Lib.hid (rraw_any p ⟨b3, 0⟩ 16 w4 hR)
 rw [HE4.out] at HR4
 replace HKE := Lib.hid (HKE.out.trans k4)
 have HZ4 := Lib.hid (Nat.le_trans HK.out.size HKE.out.size)
 clear HR3 k4 hR
 go_wp2_with fail
 refine HR4.out.mono ?_
 rintro e w5 ⟨⟨A5, c5, rfl, ho⟩, -, k5⟩
 dsimp only at ho ⊢
 rw [HID.out] at ho ⊢
 replace HKE := Lib.hid (HKE.out.trans k5)
 have HN5 : Hid (New w w5) := Lib.hid ((HK.out.trans2 HKE.out fun i hi _ => Nat.ne_of_lt (Nat.lt_of_lt_of_le hi hp)))
 have HO := Lib.hid (own_base (base := w.heap.size) ho HZ4.out)
 clear HR4 k5 ho
 by_cases hr : 64 ≤ n ∧ n ≤ 4096
 ·obtain ⟨h0, h1⟩ := hr
  have HSP := Lib.hid (super_any (n := (n : Int)) (A := A5) (c := c5) (by omega) (by omega) (Row.of_own HO.out))
  go_wp2_with fail
  refine HSP.out.mono ?_
  rintro e w6 ⟨⟨A6, c6, rfl, o6⟩, k6⟩
  have HEQ := Lib.hid (sliceEqual_any _ _ A6 A 128 c6 128 c _ b w6 (Row.of_own o6) (HB.out.new (HN5.out.new k6)) (by decide) (by decide))
  have HN6 := Lib.hid (HN5.out.new k6)
  have HO6 := Lib.hid (Own.keepNew HO.out k6)
  clear HSP k6 o6
  by_cases hb : superBytes (n : Int) id = b
  ·rw [decide_eq_true hb] at HEQ
   rw [if_pos ⟨h0, h1, hb⟩] at HSO
   clear hb
   go_wp2_with fail
   refine HEQ.out.mono ?_
   rintro e w7 ⟨rfl, k7⟩
   have HF := Lib.hid (And.intro (HN6.out.new k7) (Own.keepNew HO6.out k7))
   clear k7
   go_wp2_with fail
   refine bodyPost_ret (v := .tuple #[.int .i64 (n : Int), .slice A5 16 c5, .int .i64 0]) (by simp [results, Tryz.results171, go_sem]) rfl ?_
   rw [HSO.out]
   exact ⟨⟨A5, c5, rfl, HF.out.2⟩, HF.out.1⟩
  ·rw [decide_eq_false hb] at HEQ
   rw [if_neg (fun h => hb h.2.2)] at HSO
   clear hb
   go_wp2_with fail
   refine HEQ.out.mono ?_
   rintro e w7 ⟨rfl, k7⟩
   have HF := Lib.hid (HN6.out.new k7)
   clear k7
   go_wp2_with fail
   refine bodyPost_ret (v := .tuple #[.int .i64 0, .slice none 0 0, .int .i64 41]) (by simp [results, Tryz.results171, go_sem]) rfl ?_
   rw [HSO.out]
   exact ⟨rfl, HF.out⟩
 ·have HSP := Lib.hid (fun W => super_bad (n := (n : Int)) (A := A5) (m := 16) (c := c5) (by omega) (by omega) W)
  rw [if_neg (fun h => hr ⟨h.1, h.2.1⟩)] at HSO
  clear hr
  go_wp2_with fail
  refine (HSP.out _).mono ?_
  rintro e w6 ⟨rfl, k6⟩
  have HF := Lib.hid (HN5.out.new k6)
  clear k6 HSP
  go_wp2_with fail
  refine bodyPost_ret (v := .tuple #[.int .i64 0, .slice none 0 0, .int .i64 41]) (by simp [results, Tryz.results171, go_sem]) rfl ?_
  rw [HSO.out]
  exact ⟨rfl, HF.out⟩
theorem three_cells {w : World} {g : Nat} {c0 c1 c2 : Value} {t : TypeId} (h : w.heap[g]? = some (.cells #[c0, c1, c2] t (0, 0))) (x0 x1 x2 : Value) :
  (((w.setCell ⟨g, 0, none⟩ x0).setCell ⟨g, 1, none⟩ x1).setCell ⟨g, 2, none⟩ x2).heap[g]? = some (.cells #[x0, x1, x2] t (0, 0)) ∧ Keep (fun b => b ≠ g) w (((w.setCell ⟨g, 0, none⟩ x0).setCell ⟨g, 1, none⟩ x1).setCell ⟨g, 2, none⟩ x2) := by
 have no : ∀ (W : World) (k : Nat) (u : Value), Keep (fun b => b ≠ g) w W → Keep (fun b => b ≠ g) w (W.setCell ⟨g, k, none⟩ u) := fun W k u hW => hW.setCell (p := ⟨g, k, none⟩) (fun hd => absurd rfl hd) u
 exact ⟨setCell_block (setCell_block (setCell_block h 0 x0) 1 x1) 2 x2, no _ _ _ (no _ _ _ (no _ _ _ (Keep.refl _ w)))⟩
def MSuperRet (w : World) (k : Nat) (S : List UInt8) (e : Ending) (w' : World) : Prop :=
 (match superOf (S.take 128) with
 | some (n, id) => if n = k then ∃ A' c', e = .returned (.tuple #[.agg #[.int .i64 (k : Int), .int .i64 ((k / 4 : Nat) : Int), .int .i64 (((k - 1 - 2 * (k / 4)) / 8 : Nat) : Int)], .slice A' 16 c', .int .i64 0]) ∧ OwnB w' w.heap.size 5 A' 16 c' id
  else e = .returned (.tuple #[.agg #[.int .i64 0, .int .i64 0, .int .i64 0], .slice none 0 0, .int .i64 41])
 | none => e = .returned (.tuple #[.agg #[.int .i64 0, .int .i64 0, .int .i64 0], .slice none 0 0, .int .i64 41])) ∧ New w w'
set_option maxRecDepth 100000 in
set_option maxHeartbeats 2000000 in
theorem msuper_any {w : World} {q : DiskB} {S : List UInt8} {k : Nat} (h : Clean w q S) (hk : S.length = k * 128) :
  Calls Tryz.prog 82 #[.pointer (some ⟨q.bd, 0, none⟩)] w (MSuperRet w k S) := by
 obtain ⟨k', e', h64, h4096⟩ := h.size
 obtain rfl : k' = k := by omega
 clear e'
 obtain ⟨wr0, hd⟩ := h
 have HDR := fun W (hW : New w W) => Lib.hid (dread_any (hd.new hW) hk 0 (by omega))
 have HSC := fun W (hW : New w W) => Lib.hid (sectors_any (hd.new hW) hk)
 have hsec : sectorOf S Dirt.no 0 = S.take 128 := by rw [sector_no]; rfl
 rw [hsec] at HDR
 clear hsec hd
 obtain ⟨b, hb⟩ : ∃ b, b = S.take 128 := ⟨_, rfl⟩
 have HSB := Lib.hid hb
 rw [← hb] at HDR
 clear hb
 have kA := (New.refl w).alloc (.cells #[.int .i64 0, .int .i64 0, .int .i64 0] 57)
 have xA := heap_alloc_new w (.cells #[.int .i64 0, .int .i64 0, .int .i64 0] 57)
 go_enter Tryz.func82, Tryz.ntmps82
 go_upto_region 1 with fail
 generalize hgp : w.heap.size = gp at *
 generalize w.alloc (.cells #[.int .i64 0, .int .i64 0, .int .i64 0] 57) = w1 at *
 have HG := Lib.hid hgp
 have HX := Lib.hid xA
 have HK := Lib.hid kA
 clear xA kA hgp
 go_wp2_with fail
 refine (HDR _ HK.out).out.mono ?_
 rintro e w2 ⟨⟨A2, c2, rfl, o2⟩, k2⟩
 have HRS := Lib.hid (readSuper_any _ A2 c2 b w2 (Row.of_own o2))
 replace HX := Lib.hid (k2.blockAt HX.out trivial)
 replace HK := Lib.hid (HK.out.new k2)
 have hgl : gp + 1 ≤ w2.heap.size := (Array.getElem?_eq_some_iff.1 HX.out).1
 clear k2 o2 HDR
 go_wp2_with fail
 refine HRS.out.mono ?_
 rintro e w3 ⟨hr, k3⟩
 replace HX := Lib.hid (k3.blockAt HX.out trivial)
 replace HK := Lib.hid (HK.out.new k3)
 clear k3 HRS
 have HRET : Hid (∀ e w', MSuperRet w k' S e w' = MSuperRet w k' S e w') := Lib.hid fun _ _ => rfl
 cases hso : superOf b with
 | none =>
  rw [hso] at hr
  dsimp only at hr
  subst hr
  have HSO : Hid (superOf (S.take 128) = none) := Lib.hid (by rw [← HSB.out]; exact hso)
  clear hso
  obtain ⟨d0, d1, d2⟩ := cs3 HX.out
  obtain ⟨z0, z1, z2⟩ := fz3 HX.out
  go_wp2_with fail
  clear d0 d1 d2 z0 z1 z2
  obtain ⟨hE, hKE⟩ := three_cells HX.out (.int .i64 0) (.int .i64 0) (.int .i64 0)
  generalize hwE : World.setCell _ _ _ = wE at *
  have f0 : wE.cell? ⟨gp, 0, none⟩ = some (.int .i64 0) := cellOf hE rfl
  have f1 : wE.cell? ⟨gp, 1, none⟩ = some (.int .i64 0) := cellOf hE rfl
  have f2 : wE.cell? ⟨gp, 2, none⟩ = some (.int .i64 0) := cellOf hE rfl
  refine bodyPost_ret (v := .tuple #[.agg #[.int .i64 0, .int .i64 0, .int .i64 0], .slice none 0 0, .int .i64 41]) (by simp [results, Tryz.results82, go_sem, f0, f1, f2]) rfl ?_
  unfold MSuperRet
  rw [HSO.out]
  exact ⟨rfl, HK.out.trans2 hKE fun b hb _ => by rw [HG.out] at hb; omega⟩
 | some r =>
  obtain ⟨n, id⟩ := r
  have HSO : Hid (superOf (S.take 128) = some (n, id)) := Lib.hid (by rw [← HSB.out]; exact hso)
  rw [hso] at hr
  dsimp only at hr
  obtain ⟨A3, c3, rfl, o3⟩ := hr
  have HO3 := Lib.hid (own_base (base := gp + 1) o3 hgl)
  have HSC3 := HSC w3 HK.out
  have hn4 : n ≤ 4096 := by
   have hso' := hso
   unfold superOf at hso'
   split at hso'
   ·rename_i hc
    injection hso' with hso'
    injection hso' with e1 e2
    rw [← e1]; exact hc.2.1
   ·cases hso'
  clear hso o3 HSC
  by_cases hnk : n = k'
  ·subst hnk
   have HOF := Lib.hid (of21_any (n : Int) (by omega) w3)
   rw [planOf_mid (by omega) (by omega)] at HOF
   dsimp only at HOF
   have e1 : (n : Int) / 4 = ((n / 4 : Nat) : Int) := by omega
   have e2 : ((n : Int) - 1 - 2 * ((n : Int) / 4)) / 8 = (((n - 1 - 2 * (n / 4)) / 8 : Nat) : Int) := by omega
   rw [e2, e1] at HOF
   have HF : Hid (∀ e w', ((∃ A' c', e = Ending.returned (.tuple #[.agg #[.int .i64 (n : Int), .int .i64 ((n / 4 : Nat) : Int), .int .i64 (((n - 1 - 2 * (n / 4)) / 8 : Nat) : Int)], .slice A' 16 c', .int .i64 0]) ∧ OwnB w' w.heap.size 5 A' 16 c' id) ∧ New w w') → MSuperRet w n S e w') := Lib.hid fun e w' hh => by
    unfold MSuperRet
    rw [HSO.out]
    dsimp only
    rw [if_pos rfl]
    exact hh
   clear e1 e2
   generalize ((n / 4 : Nat) : Int) = p at *
   generalize (((n - 1 - 2 * (n / 4)) / 8 : Nat) : Int) = g at *
   go_wp2_with fail
   refine HSC3.out.mono ?_
   rintro e w4 ⟨rfl, rfl⟩
   go_wp2_with fail
   refine HOF.out.mono ?_
   rintro e w4 ⟨rfl, k4⟩
   have kB := k4.alloc (.cells #[.int .i64 n, .int .i64 p, .int .i64 g] 57)
   have xB := heap_alloc_new w4 (.cells #[.int .i64 n, .int .i64 p, .int .i64 g] 57)
   go_upto_region 6 with fail
   generalize w4.alloc (.cells #[.int .i64 n, .int .i64 p, .int .i64 g] 57) = w5 at *
   generalize w4.heap.size = gB at *
   replace HX := Lib.hid (kB.blockAt HX.out trivial)
   replace HK := Lib.hid (HK.out.new kB)
   replace HO3 := Lib.hid (Own.keepNew HO3.out kB)
   clear k4 kB HSC3 HOF
   obtain ⟨y0, y1, y2⟩ := cs3 xB
   obtain ⟨d0, d1, d2⟩ := cs3 HX.out
   obtain ⟨z0, z1, z2⟩ := fz3 HX.out
   clear xB
   go_wp2_with fail
   clear d0 d1 d2 z0 z1 z2 y0 y1 y2
   obtain ⟨hE, hKE⟩ := three_cells HX.out (.int .i64 n) (.int .i64 p) (.int .i64 g)
   generalize hwE : World.setCell _ _ _ = wE at *
   have f0 : wE.cell? ⟨gp, 0, none⟩ = some (.int .i64 n) := cellOf hE rfl
   have f1 : wE.cell? ⟨gp, 1, none⟩ = some (.int .i64 p) := cellOf hE rfl
   have f2 : wE.cell? ⟨gp, 2, none⟩ = some (.int .i64 g) := cellOf hE rfl
   refine bodyPost_ret (v := .tuple #[.agg #[.int .i64 n, .int .i64 p, .int .i64 g], .slice A3 16 c3, .int .i64 0]) (by simp [results, Tryz.results82, go_sem, f0, f1, f2]) rfl ?_
   refine HF.out _ _ ⟨⟨A3, c3, rfl, ?_⟩, HK.out.trans2 hKE fun b hb _ => by rw [HG.out] at hb; omega⟩
   rw [HG.out]
   exact own_base (own_keep HO3.out hKE fun b hb e => by have := (own_lt HO3.out b hb).1; omega) (Nat.le_succ _)
  ·have hne : ((n : Int) != (k' : Int)) = true := by simp; omega
   obtain ⟨d0, d1, d2⟩ := cs3 HX.out
   obtain ⟨z0, z1, z2⟩ := fz3 HX.out
   have HNK := Lib.hid hnk
   clear hnk
   go_wp2_with fail
   refine HSC3.out.mono ?_
   rintro e w4 ⟨rfl, rfl⟩
   go_wp2_with fail
   clear d0 d1 d2 z0 z1 z2
   obtain ⟨hE, hKE⟩ := three_cells HX.out (.int .i64 0) (.int .i64 0) (.int .i64 0)
   generalize hwE : World.setCell _ _ _ = wE at *
   have f0 : wE.cell? ⟨gp, 0, none⟩ = some (.int .i64 0) := cellOf hE rfl
   have f1 : wE.cell? ⟨gp, 1, none⟩ = some (.int .i64 0) := cellOf hE rfl
   have f2 : wE.cell? ⟨gp, 2, none⟩ = some (.int .i64 0) := cellOf hE rfl
   refine bodyPost_ret (v := .tuple #[.agg #[.int .i64 0, .int .i64 0, .int .i64 0], .slice none 0 0, .int .i64 41]) (by simp [results, Tryz.results82, go_sem, f0, f1, f2]) rfl ?_
   unfold MSuperRet
   rw [HSO.out]
   dsimp only
   rw [if_neg HNK.out]
   exact ⟨rfl, HK.out.trans2 hKE fun b hb _ => by rw [HG.out] at hb; omega⟩
end Go.Proofs.YtijjhfkgbmckkaaGreatDoor
