/-
  PROVED HERE: what segment.records answers; conditions: fewer than 2^40 bytes, a count of at most 65535.
-/
import Derived.Test.YtpbbfbgmpidgnaaDoorOwnRecs
import Derived.Test.YtpbbfbgmpidgnaaDoorDecode
namespace Go.Proofs.YtpbbfbgmpidgnaaDoor
open Go.RowKit

/-- the records that the bytes spell, m of them, the i-th ahead; nothing where one is refused or has another number. -/
def recsGo (first : Int) : Nat → Nat → List UInt8 → Option (List RecP × List UInt8)
  | 0, _, bs => some ([], bs)
  | m + 1, i, bs => if (recDec bs).2.2 ≠ 0 then none else if (recDec bs).1.seq ≠ IntKind.u64.wrap (first + i) then none else (recsGo first m (i + 1) (bs.drop (recDec bs).2.1)).map fun p => ((recDec bs).1 :: p.1, p.2)
theorem recDec_le (bs : List UInt8) : 0 ≤ (recDec bs).1.seq ∧ (recDec bs).1.seq ≤ 18446744073709551615 ∧ (recDec bs).2.1 ≤ bs.length := by
  unfold recDec
  split
  · simp [noRec]
  split
  · simp [noRec]
  split
  · simp [noRec]
  split
  · simp [noRec]
  · rename_i h0 h1 h2 h3
    refine ⟨?_, ?_, ?_⟩
    · exact Int.natCast_nonneg _
    · have := num_lt ((RdS.mk bs 0).num 1).2 8
      show ((((RdS.mk bs 0).num 1).2.num 8).1 : Int) ≤ _
      omega
    · show bs.length - (((RdS.mk bs 0).num 1).2.num 8).2.lenRow.2.left + 4 ≤ bs.length
      have h4 : ¬ ((((RdS.mk bs 0).num 1).2.num 8).2.lenRow.2.raw 4).1.length < 4 := h1
      have h5 := (((((RdS.mk bs 0).num 1).2.num 8).2.lenRow.2).raw_le 4)
      have h6 := lenRow_le (((RdS.mk bs 0).num 1).2.num 8).2
      have h7 := ((RdS.mk bs 0).raw_le 1).2.1
      have h8 := (((RdS.mk bs 0).num 1).2.raw_le 8).2.1
      have h9 : (((RdS.mk bs 0).num 1).2.num 8).2.bs.length ≤ ((RdS.mk bs 0).num 1).2.bs.length := h8
      have h10 : ((RdS.mk bs 0).num 1).2.bs.length ≤ bs.length := h7
      generalize (((RdS.mk bs 0).num 1).2.num 8).2 = q at *
      generalize q.lenRow = q2 at *
      have hw : q2.2.why = 0 := by
        by_cases e : q2.2.why = 0
        · exact e
        · rw [q2.2.raw_none 4 (.inl e)] at h4; simp at h4
      unfold RdS.left
      rw [if_neg (by simpa using hw)]
      omega
/-- what records answers: the records and whether nothing is left. -/
def RecsRet (o : Option (List RecP × List UInt8)) (base : Nat) (e : Ending) (w' : World) : Prop :=
  match o with
  | none => e = .returned (.tuple #[.slice none 0 0, .bool false])
  | some (rs, rest) => ∃ A' c', e = .returned (.tuple #[.slice A' rs.length c', .bool (decide (rest.length = 0))]) ∧ OwnRecs w' base (fun b => base ≤ b) A' rs.length c' rs
set_option maxRecDepth 100000 in
set_option maxHeartbeats 2000000 in
theorem records_any (D : Nat → Prop) (A A1 A2 : Option Addr) (n c n1 c1 n2 c2 : Nat) (bs : List UInt8) (ix fi by' : Int) (co : Nat) (w : World) (hB : Bs w D A n bs) (hnc : n ≤ c) (hc9 : c ≤ 9223372036854775807) (hn : n ≤ 1099511627776) (hco : co ≤ 65535) (hf0 : 0 ≤ fi) (hf1 : fi ≤ 18446744073709551615) :
    Calls Tryd.prog 45 #[.slice A n c, .agg #[.int .i64 ix, .int .u64 fi, .int .i64 co, .int .i64 by', .slice A1 n1 c1, .slice A2 n2 c2]] w fun e w' =>
      RecsRet (recsGo fi co 0 bs) w.heap.size e w' ∧ New w w' := by
  have hl := Lib.hid hB.len
  have HBk := Lib.hid hB
  have hb0 : (w.alloc (.cells #[.int .i64 ix, .int .u64 fi, .int .i64 co, .int .i64 by', .slice A1 n1 c1, .slice A2 n2 c2] 37)).heap[w.heap.size]? = some (.cells #[.int .i64 ix, .int .u64 fi, .int .i64 co, .int .i64 by', .slice A1 n1 c1, .slice A2 n2 c2] 37 (0, 0)) := heap_alloc_new w _
  have hK0 : New w (w.alloc (.cells #[.int .i64 ix, .int .u64 fi, .int .i64 co, .int .i64 by', .slice A1 n1 c1, .slice A2 n2 c2] 37)) := (New.refl w).alloc _
  have HB := Lib.hid hb0
  have hlt : w.heap.size < (w.alloc (.cells #[.int .i64 ix, .int .u64 fi, .int .i64 co, .int .i64 by', .slice A1 n1 c1, .slice A2 n2 c2] 37)).heap.size := by simp
  clear hb0
  go_enter Tryd.func45, Tryd.ntmps45
  go_wp2_with fail
  generalize w.alloc _ = w0 at *
  have ck2 := cellOf HB.out (k := 2) rfl
  go_wp2_with fail
  go_loopw [0, 6, 13] (fun s0 s6 i wx => ∃ (k : Nat) (A0 : Option Addr) (n0 c0 : Nat) (A' : Option Addr) (c' : Nat) (bk : List UInt8) (rs : List RecP), k ≤ co ∧ i = .int .i64 (k : Int) ∧ s0 = .slice A0 n0 c0 ∧ s6 = .slice A' k c' ∧ n0 ≤ c0 ∧ c0 ≤ 9223372036854775807 ∧ n0 ≤ 1099511627776 ∧ Bs wx (fun b => b < w.heap.size) A0 n0 bk ∧ OwnRecs wx w0.heap.size (fun b => w.heap.size ≤ b) A' k c' rs ∧ New w0 wx ∧
    recsGo fi co 0 bs = (recsGo fi (co - k) k bk).map fun p => (rs ++ p.1, p.2)) (fun _ _ i _ => co - (intOf i).toNat)
  case atStart => exact ⟨0, A, n, c, none, 0, bs, [], Nat.zero_le _, rfl, rfl, rfl, hnc, hc9, hn, Row.new (HBk.out.imp fun _ h _ => h) hK0, OwnRecs.nil _ _ _, New.refl _, by cases h : recsGo fi co 0 bs <;> simp [h]⟩
  case round =>
    clear hnc hc9 hn
    obtain ⟨k, A0, n0, c0, A', c', bk, rs, hk, rfl, rfl, rfl, hnc, hc9, hn, hB, hown, hK, hgo⟩ := hrel
    have hkw : IntKind.u64.wrap (k : Int) = k := by rw [IntKind.wrap_u64]; omega
    have HO := Lib.hid hown
    have HB0 := Lib.hid hB
    have HG := Lib.hid hgo
    have HK := Lib.hid hK
    clear hown hB hgo hK
    by_cases hlk : k < co
    · have HM : Hid (recsGo fi (co - k) k bk = if (recDec bk).2.2 ≠ 0 then none else if (recDec bk).1.seq ≠ IntKind.u64.wrap (fi + k) then none else (recsGo fi (co - (k + 1)) (k + 1) (bk.drop (recDec bk).2.1)).map fun p => ((recDec bk).1 :: p.1, p.2)) := Lib.hid (by
        rw [show co - k = (co - (k + 1)) + 1 from by omega, recsGo])
      have HD := Lib.hid (decode_any _ A0 n0 c0 bk wr HB0.out hnc hn)
      have HL := Lib.hid (recDec_le bk)
      generalize recDec bk = d at *
      obtain ⟨r, sz, why⟩ := d
      dsimp only at HM HL
      go_wp2_with fail
      refine HD.out.mono ?_
      rintro e w1 ⟨⟨A5, c5, rfl, hown5⟩, hK1⟩
      have HO5 := Lib.hid hown5
      have HK1 := Lib.hid hK1
      have hlt1 : w.heap.size < w1.heap.size := Nat.lt_of_lt_of_le (Nat.lt_of_lt_of_le hlt HK.out.size) HK1.out.size
      have ck1 : w1.cell? ⟨w.heap.size, 1, none⟩ = some (.int .u64 fi) := cellOf (hK1.blockAt (HK.out.blockAt HB.out trivial) trivial) (k := 1) rfl
      clear hown5 hK1
      by_cases hy : why = 0
      · subst hy
        by_cases hq : r.seq = IntKind.u64.wrap (fi + k)
        · have hq' : (r.seq != IntKind.u64.wrap (fi + k)) = false := by simpa using hq
          have HM1 : Hid (recsGo fi co 0 bs = (recsGo fi (co - (k + 1)) (k + 1) (bk.drop sz)).map fun p => ((rs ++ [r]) ++ p.1, p.2)) := Lib.hid (by
            rw [HG.out, HM.out, if_neg (by simp), if_neg (by simpa using hq)]; cases recsGo fi (co - (k + 1)) (k + 1) (bk.drop sz) <;> simp)
          clear hq
          have hN1 : New w1 ((w1.alloc (.cells #[.int .i64 r.kind, .int .u64 r.seq, .slice A5 r.body.length c5] 43)).alloc (.cells #[.int .i64 r.kind, .int .u64 r.seq, .slice A5 r.body.length c5] 43)) := ((New.refl w1).alloc _).alloc _
          have hown' := (HO.out.new HK1.out).new hN1
          have hge : w.heap.size ≤ wr.heap.size := Nat.le_trans (Nat.le_of_lt hlt) HK.out.size
          have hy1 := (Row.imp ((HO.out.new HK1.out).apart HO5.out) (E := fun b => w.heap.size ≤ b ∧ some b ≠ blk A') (fun b _ h => ⟨Nat.le_trans hge h.1, h.2⟩)).new hN1
          have hrow := Row.made (w1.alloc (.cells #[.int .i64 r.kind, .int .u64 r.seq, .slice A5 r.body.length c5] 43)) 43 #[.int .i64 r.kind, .int .u64 r.seq, .slice A5 r.body.length c5] 1 3 rfl
          rw [show (w1.alloc (.cells #[.int .i64 r.kind, .int .u64 r.seq, .slice A5 r.body.length c5] 43)).heap.size = w1.heap.size + 1 from by simp] at hrow
          have hmc := own_cap HO5.out
          have hc95 := own_capMax HO5.out
          have hs0 := HL.out.1
          have hs1 := HL.out.2.1
          have hbd : k + 1 ≤ 1099511627776 := by omega
          have hsz := Nat.le_trans HK.out.size (Nat.le_trans HK1.out.size hN1.size)
          have hlz : sz ≤ n0 := by have := HL.out.2.2; have := HB0.out.len; omega
          clear hge
          go_wp2_with (at_builtin; refine app_recs _ rfl (.tmp 34) (.tmp 36) rfl w0.heap.size (fun b => w.heap.size ≤ b) A' k c' _ rfl hown' (fun g => w1.heap.size + 1 ≤ g) _ 1 A5 c5 r rfl hrow hy1 hmc hc95 hs0 hs1 hbd hsz ?_; intro A3 c3 w3 hown3 hg3 hbk3)
          have hK3 : New w0 w3 := ((HK.out.new HK1.out).new hN1).grown hg3 (fun j hj _ => (hown'.lt j hj).1)
          have HOW := Lib.hid hown3
          have hrest : Bs w3 (fun b => b < w.heap.size) (if c0 = sz then A0 else Option.map (fun x => x.add sz) A0) (n0 - sz) (bk.drop sz) := by
            have hBw := (HB0.out.new HK1.out).new hN1
            have hKw : Keep (fun b => b < w.heap.size) _ w3 := (Keep.refl _ _).grown hg3 (fun j hj hd => absurd hd (by have := (hown'.lt j hj).1; omega))
            have hB3 : Bs w3 (fun b => b < w.heap.size) A0 n0 bk := Row.keep hBw hKw (fun _ _ h => h)
            have hl3 := hB3.len
            by_cases e : c0 = sz
            · have e1 : n0 - sz = 0 := by omega
              have e2 : bk.drop sz = [] := List.drop_eq_nil_of_le (by omega)
              rw [e1, e2]; exact Row.nil _ _ _ _
            · rw [if_neg e]; exact Bs.from_ hB3 hlz
          go_roundw
          case rel => exact ⟨k + 1, _, _, _, _, _, _, _, by omega, by go_num, rfl, rfl, by omega, by omega, by omega, hrest, HOW.out, hK3, HM1.out⟩
          case measure => simp [intOf]; omega
        · have hq' : (r.seq != IntKind.u64.wrap (fi + k)) = true := by simpa using hq
          have HM1 : Hid (recsGo fi co 0 bs = none) := Lib.hid (by rw [HG.out, HM.out, if_neg (by simp), if_pos (by simpa using hq)]; rfl)
          clear hq
          go_wp2_with fail
          refine bodyPost_ret (v := .tuple #[.slice none 0 0, .bool false]) (by simp [results, Tryd.results45, go_sem]) rfl ?_
          rw [HM1.out]
          exact ⟨rfl, (hK0.new (HK.out.new HK1.out)).alloc _⟩
      · have hy' : (why != 0) = true := by simpa using hy
        have HM1 : Hid (recsGo fi co 0 bs = none) := Lib.hid (by rw [HG.out, HM.out, if_pos hy]; rfl)
        go_wp2_with fail
        refine bodyPost_ret (v := .tuple #[.slice none 0 0, .bool false]) (by simp [results, Tryd.results45, go_sem]) rfl ?_
        rw [HM1.out]
        exact ⟨rfl, (hK0.new (HK.out.new HK1.out)).alloc _⟩
    · obtain rfl : k = co := by omega
      go_wp2_with fail
      have HM1 : Hid (recsGo fi k 0 bs = some (rs, bk)) := Lib.hid (by rw [HG.out, Nat.sub_self, recsGo]; simp)
      have hLn : Hid (bk.length = n0) := Lib.hid HB0.out.len
      have hLr : Hid (rs.length = k) := Lib.hid HO.out.len
      have hz0 : ((n0 : Int) == 0) = decide (n0 = 0) := by rw [Bool.eq_iff_iff]; simp
      refine bodyPost_ret (v := .tuple #[.slice A' k c', .bool (decide (n0 = 0))]) (by simp [results, Tryd.results45, go_sem, hz0]) rfl ?_
      rw [HM1.out]
      unfold RecsRet
      dsimp only
      rw [hLn.out, hLr.out]
      obtain ⟨vs, o1, o2, o3⟩ := HO.out
      exact ⟨⟨_, _, rfl, vs, own_base o1 (Nat.le_of_lt hlt), o2, o3⟩, hK0.new HK.out⟩
end Go.Proofs.YtpbbfbgmpidgnaaDoor
