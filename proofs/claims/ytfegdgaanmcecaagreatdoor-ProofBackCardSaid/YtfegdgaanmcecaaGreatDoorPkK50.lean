/-
  PROVED HERE: the law ProofBack answers true; conditions: lengths that a slice may have.
-/
import Derived.Test.YtfegdgaanmcecaaGreatDoorPkK17
import Derived.Test.YtfegdgaanmcecaaGreatDoorPkK31
import Derived.Test.YtfegdgaanmcecaaGreatDoorPkK45
import Derived.Test.YtfegdgaanmcecaaGreatDoorPkK49
namespace Go.Proofs.YtfegdgaanmcecaaGreatDoor
open Go.RowKit

theorem mod_placeB (z : Int) (m : Nat) (hm : 0 < m) : ∃ kk : Nat, kk < m ∧ (0 : Int) + z % ((m : Int) - 1 - 0 + 1) = (kk : Int) := by
  have h0 := Int.emod_nonneg z (show (m : Int) ≠ 0 by omega)
  have h1 := Int.emod_lt_of_pos z (show (0 : Int) < (m : Int) by omega)
  refine ⟨(z % (m : Int)).toNat, by omega, ?_⟩
  rw [show (m : Int) - 1 - 0 + 1 = (m : Int) by omega]
  omega
/-- where a chain's records lie. -/
theorem chain_recs_at (id : List UInt8) (l : List (List (List UInt8))) {i : Nat} : ∀ n, n ≤ 1000 → i < n → ∀ j, j < (segRecs id l i).length → (chainTo id l n).recs[(chainTo id l i).next.toNat - 1 + j]? = (segRecs id l i)[j]?
  | 0, _, h, _, _ => absurd h (by omega)
  | n + 1, hn, hi, j, hj => by
    have ho := chain_ok id l n (by omega)
    have q0 := ho.next0
    have hr := ho.recs
    have e : (chainTo id l (n + 1)).recs = (chainTo id l n).recs ++ segRecs id l n := rfl
    rw [e]
    by_cases h : i = n
    · subst h
      rw [List.getElem?_append_right (by omega)]
      congr 1
      omega
    · have hm := chain_next_mono id l (i := i + 1) n (by omega)
      have e1 : (chainTo id l (i + 1)).next = (chainTo id l i).next + (segRecs id l i).length := rfl
      have qi := (chain_ok id l i (by omega)).next0
      rw [List.getElem?_append_left (by omega)]
      exact chain_recs_at id l n (by omega) (by omega) j hj
theorem bytes_small {p : ProofP} (hg : GoodP p) : (proofBytes p).length ≤ 6000000 := by
  obtain ⟨hl1, hl2, hl3, hl4, hl5, hl6⟩ := right_parts hg.right
  have h1 := flat_len p.path p.path.length (Nat.le_refl _) hl4
  have h2 := heads_len p.later p.later.length (Nat.le_refl _) hl5
  rw [List.take_of_length_le (Nat.le_refl _)] at h1 h2
  have h3 := fine_lens hl6
  have h4 : (lenBytes p.leaf).length ≤ 65537 := by unfold lenBytes; rw [List.length_append, beI_length, List.length_take]; omega
  unfold proofBytes
  simp only [List.length_append, beI_length, headBytes_length]
  omega
/-- under another head it is not checked. -/
theorem check_other {hd hd' : List UInt8} {p : ProofP} {r : RecP} (h : checkProof hd p = some r) : checkProof hd' p = if hd' = hd then some r else none := by
  by_cases e : hd' = hd
  · rw [if_pos e, e]; exact h
  · rw [if_neg e]
    unfold checkProof at h ⊢
    split at h
    · rename_i hc
      rw [if_pos hc]
      cases hl : lastOf p.head p.later with
      | none => rfl
      | some l =>
        rw [hl] at h
        rw [Option.bind_some] at h ⊢
        unfold checkEnd at h ⊢
        split at h
        · rename_i hq
          rw [if_neg]
          simp only [Bool.and_eq_true, beq_iff_eq] at hq ⊢
          intro h2
          exact e (h2.1.1.1.symm.trans hq.1.1.1)
        · cases h
    · cases h
theorem headSeal_length (id : List UInt8) (hs : List HeadP) : (headSeal id hs).length = 32 := by
  unfold headSeal
  cases hs.getLast? with
  | none => exact genesisOf_length _
  | some h => exact sealOf_length _
theorem set_xor_eq {t : List UInt8} {m : Nat} (hm : m < t.length) {x : UInt8} : t.set m (t[m] ^^^ x) = t ↔ x = 0 := by
  constructor
  · intro h
    have h1 := congrArg (fun z => z[m]?) h
    simp only [List.getElem?_set_self hm, List.getElem?_eq_getElem hm] at h1
    injection h1 with h1
    by_cases hx : x = 0
    · exact hx
    · exact absurd h1 (by intro e; apply hx; have := congrArg (fun z => t[m] ^^^ z) e; simpa [← UInt8.xor_assoc] using this)
  · intro h
    subst h
    simp

set_option maxRecDepth 100000 in
set_option maxHeartbeats 8000000 in
theorem pback_any (D2 : Nat → Prop) (A2 : Option Addr) (n2 c2 : Nat) (l : List (List (List UInt8))) (a b : Int) (turn : UInt8) (w : World) (hR : Raws8 w D2 A2 n2 l) (hn2 : n2 ≤ 9223372036854775807) (ha0 : -9223372036854775808 ≤ a) (ha1 : a ≤ 9223372036854775807) (hb0 : -9223372036854775808 ≤ b) (hb1 : b ≤ 9223372036854775807) :
    Calls Tryz.prog 7 #[.slice A2 n2 c2, .int .i64 a, .int .i64 b, .int .u8 (bv turn)] w fun e w' => e = .returned (.bool true) ∧ New w w' := by
  have HCH := Lib.hid (chain24_any D2 A2 n2 c2 l w hR hn2)
  have hk6 : min n2 6 ≤ 6 := Nat.min_le_right _ _
  generalize min n2 6 = k at *
  have hok := chain_ok id24 l k (by omega)
  have hrl : (((chainTo id24 l k).recs.length : Nat) : Int) + 1 = (chainTo id24 l k).next := hok.recs
  have hq1 := hok.next1
  have HID := Lib.hid id24_any
  have HKN := Lib.hid known24_any
  have hil := hok.images
  have hhl := hok.heads
  have hr36 : (chainTo id24 l k).recs.length ≤ 36 := by omega
  clear hR
  by_cases hlt : (chainTo id24 l k).recs.length = 0
  · generalize chainTo id24 l k = s at *
    clear hok hrl hq1 hil hhl hr36
    go_enter Tryz.func7, Tryz.ntmps7
    go_wp2_with fail
    refine HCH.out.mono ?_
    rintro e w1 ⟨⟨O, oc, H, hc, R, rc, rfl, -⟩, k1⟩
    rw [hlt]
    go_wp2_with fail
    refine (HKN.out w1).mono ?_
    rintro e w2 ⟨rfl, k2⟩
    go_wp2_with fail
    go_ret
    exact ⟨rfl, k1.new k2⟩
  · obtain ⟨i, hi, hiv⟩ := mod_placeB a (chainTo id24 l k).recs.length (by omega)
    obtain ⟨m, hm, hmv⟩ := mod_placeB b 32 (by decide)
    have HWI : Hid (∀ W, Calls Tryz.prog 11 #[.int .i64 a, .int .i64 0, .int .i64 (((chainTo id24 l k).recs.length : Int) - 1)] W fun e w' => e = .returned (.int .i64 (i : Int)) ∧ W = w') := Lib.hid fun W => by
      have h := within_any a 0 (((chainTo id24 l k).recs.length : Int) - 1) W ha0 ha1 (by decide) (by omega) (by omega)
      rwa [hiv] at h
    have HWJ : Hid (∀ W, Calls Tryz.prog 11 #[.int .i64 b, .int .i64 0, .int .i64 31] W fun e w' => e = .returned (.int .i64 (m : Int)) ∧ W = w') := Lib.hid fun W => by
      have h := within_any b 0 31 W hb0 hb1 (by decide) (by decide) (by decide)
      rw [show (31 : Int) - 0 + 1 = (((32 : Nat) : Int) - 1 - 0 + 1) from rfl, hmv] at h
      exact h
    obtain ⟨i1, hi1, hi2, hi3⟩ := chain_find id24 l k ((i : Int) + 1) (by omega) (by omega)
    have hmi := chain_make_in id24 l (by omega) hi1 hi2 hi3
    obtain ⟨r, hrr, hci, hrs⟩ := chain_check id24 l (by omega) hi1 hi2 hi3
    have hsm := chain_small id24 l (n := k) (i := i1) (by omega) ((i : Int) + 1)
    have hgd := chain_good id24 l (n := k) (by omega) hi1 hi2 hi3
    have hre : (chainTo id24 l k).recs[i]? = some r := by
      have h := chain_recs_at id24 l k (by omega) hi1 (((i : Int) + 1 - (chainTo id24 l i1).next).toNat) (by have := (List.getElem?_eq_some_iff.1 hrr).1; exact this)
      have q0 := (chain_ok id24 l i1 (by omega)).next0
      rw [show (chainTo id24 l i1).next.toNat - 1 + ((i : Int) + 1 - (chainTo id24 l i1).next).toNat = i by omega, hrr] at h
      exact h
    clear hi2 hi3 hiv hmv hi1 hok hrr ha0 ha1 hb0 hb1
    generalize chainProof id24 l k i1 ((i : Int) + 1) = p at *
    generalize chainTo id24 l k = s at *
    generalize id24 = idv at *
    obtain ⟨im, he, al, pv, nx⟩ := s
    dsimp only at hil hhl hlt hi hrl hq1 hmi hci hr36 hre HWI
    have HEN : Hid (encodeOf p = (proofBytes p, 0)) := Lib.hid (by unfold encodeOf; rw [hgd.right]; rfl)
    have HDE := Lib.hid (decode_bytes p hgd)
    have hbl := bytes_small hgd
    have HTL : Hid ((headSeal idv he).length = 32) := Lib.hid (headSeal_length idv he)
    have HC2 := Lib.hid (fun hd' => check_other (hd' := hd') hci)
    have HMI := Lib.hid hmi
    have HCI := Lib.hid hci
    have HIL := Lib.hid hil
    have HHL := Lib.hid hhl
    have HRE := Lib.hid hre
    have HRS := Lib.hid hrs
    have HSM := Lib.hid hsm
    have HPB : Hid (p.path.length ≤ 9223372036854775806 ∧ p.later.length ≤ 9223372036854775806) := Lib.hid ⟨by have := (right_parts hgd.right).2.1; omega, by have := hsm.later; omega⟩
    generalize proofBytes p = pbs at *
    have hw1 : IntKind.i64.wrap ((i : Int) + 1) = (i : Int) + 1 := IntWalk.i64_in _ (by omega)
    have hw3 : IntKind.u64.wrap ((i : Int) + 1) = (i : Int) + 1 := by rw [IntKind.wrap_u64]; omega
    have hw5 : IntKind.i64.wrap ((al.length : Int) - 1) = (al.length : Int) - 1 := IntWalk.i64_in _ (by omega)
    have hlz : ((al.length : Int) == 0) = false := by rw [beq_eq_false_iff_ne]; omega
    clear hmi hci hil hhl hre hrs hsm hgd hrl hq1 hlt
    go_enter Tryz.func7, Tryz.ntmps7
    go_wp2_with fail
    refine HCH.out.mono ?_
    rintro e w1 ⟨⟨O, oc, H, hc, R, rc, rfl, ht⟩, k1⟩
    dsimp only at ht ⊢
    rw [HIL.out, HHL.out] at ht ⊢
    have HI := Lib.hid ht.imgs.imgs
    have HH := Lib.hid ht.heads.heads
    have HRF := Lib.hid ht.refs
    have HK := Lib.hid k1
    clear ht k1 HCH
    generalize hrlq : al.length = rl at *
    have HRL := Lib.hid hrlq
    clear hrlq
    go_wp2_with fail
    refine (HWI.out w1).mono ?_
    rintro e w' ⟨rfl, rfl⟩
    go_wp2_with fail
    have HM1 := make_any _ O k oc im ((i : Int) + 1) w1 HI.out (by omega)
    rw [HMI.out] at HM1
    refine HM1.mono ?_
    rintro e w2 ⟨⟨P1, R1, L1, Pa1, La1, p1, r1, lc1, pc1, lac1, rfl, hp1, ho1⟩, k2⟩
    dsimp only at hp1 ho1 ⊢
    have kX := k2.alloc (.cells #[.int .i64 p.head.index, .int .u64 p.head.first, .int .i64 p.head.count, .int .i64 p.head.bytes, .slice P1 p.head.prev.length p1, .slice R1 p.head.root.length r1, .int .i64 p.place, .slice L1 p.leaf.length lc1, .slice Pa1 p.path.length pc1, .slice La1 p.later.length lac1] 36)
    have hX := heap_alloc_new w2 (.cells #[.int .i64 p.head.index, .int .u64 p.head.first, .int .i64 p.head.count, .int .i64 p.head.bytes, .slice P1 p.head.prev.length p1, .slice R1 p.head.root.length r1, .int .i64 p.place, .slice L1 p.leaf.length lc1, .slice Pa1 p.path.length pc1, .slice La1 p.later.length lac1] 36)
    have HP1 := Lib.hid (hp1.new ((New.refl w2).alloc (.cells #[.int .i64 p.head.index, .int .u64 p.head.first, .int .i64 p.head.count, .int .i64 p.head.bytes, .slice P1 p.head.prev.length p1, .slice R1 p.head.root.length r1, .int .i64 p.place, .slice L1 p.leaf.length lc1, .slice Pa1 p.path.length pc1, .slice La1 p.later.length lac1] 36)))
    have HO1 := Lib.hid (ho1.heads.new ((New.refl w2).alloc (.cells #[.int .i64 p.head.index, .int .u64 p.head.first, .int .i64 p.head.count, .int .i64 p.head.bytes, .slice P1 p.head.prev.length p1, .slice R1 p.head.root.length r1, .int .i64 p.place, .slice L1 p.leaf.length lc1, .slice Pa1 p.path.length pc1, .slice La1 p.later.length lac1] 36)))
    have HH := Lib.hid (HH.out.new kX)
    have HRF := Lib.hid (HRF.out.new kX)
    have HK := Lib.hid (HK.out.new kX)
    have x0 := cellOf hX (k := 0) rfl
    have x1 := cellOf hX (k := 1) rfl
    have x2 := cellOf hX (k := 2) rfl
    have x3 := cellOf hX (k := 3) rfl
    have x4 := cellOf hX (k := 4) rfl
    have x5 := cellOf hX (k := 5) rfl
    have x6 := cellOf hX (k := 6) rfl
    have x7 := cellOf hX (k := 7) rfl
    have x8 := cellOf hX (k := 8) rfl
    have x9 := cellOf hX (k := 9) rfl
    clear hp1 ho1 k2 kX hX HM1 HI
    go_wp2_with fail
    clear x0 x1 x2 x3 x4 x5 x6 x7 x8 x9
    generalize w2.alloc (.cells #[.int .i64 p.head.index, .int .u64 p.head.first, .int .i64 p.head.count, .int .i64 p.head.bytes, .slice P1 p.head.prev.length p1, .slice R1 p.head.root.length r1, .int .i64 p.place, .slice L1 p.leaf.length lc1, .slice Pa1 p.path.length pc1, .slice La1 p.later.length lac1] 36) = w3 at *
    have hE := pencode_any _ _ P1 R1 L1 Pa1 La1 p1 r1 lc1 pc1 lac1 p w3 HP1.out HO1.out HPB.out.1 HPB.out.2
    rw [HEN.out] at hE
    dsimp only at hE
    refine hE.mono ?_
    rintro e w4 ⟨⟨B, bc, rfl, hB⟩, k4⟩
    have HH := Lib.hid (HH.out.new k4)
    have HRF := Lib.hid (HRF.out.new k4)
    have HK := Lib.hid (HK.out.new k4)
    have hD := pdecode_any _ B pbs.length bc pbs w4 (Row.of_own hB) (by omega)
    rw [HDE.out] at hD
    have HD := Lib.hid hD
    clear hE hD hB k4 HP1 HO1
    go_wp2_with fail
    refine HD.out.mono ?_
    rintro e w5 ⟨⟨P2, R2, L2, Pa2, La2, p2, r2, lc2, pc2, lac2, rfl, hp2, ho2⟩, k5⟩
    dsimp only at hp2 ho2 ⊢
    have kX := k5.alloc (.cells #[.int .i64 p.head.index, .int .u64 p.head.first, .int .i64 p.head.count, .int .i64 p.head.bytes, .slice P2 p.head.prev.length p2, .slice R2 p.head.root.length r2, .int .i64 p.place, .slice L2 p.leaf.length lc2, .slice Pa2 p.path.length pc2, .slice La2 p.later.length lac2] 36)
    have hX := heap_alloc_new w5 (.cells #[.int .i64 p.head.index, .int .u64 p.head.first, .int .i64 p.head.count, .int .i64 p.head.bytes, .slice P2 p.head.prev.length p2, .slice R2 p.head.root.length r2, .int .i64 p.place, .slice L2 p.leaf.length lc2, .slice Pa2 p.path.length pc2, .slice La2 p.later.length lac2] 36)
    have HP2 := Lib.hid ((hp2.imp (E := fun b => b < w5.heap.size) fun b hb _ => hb).new ((New.refl w5).alloc (.cells #[.int .i64 p.head.index, .int .u64 p.head.first, .int .i64 p.head.count, .int .i64 p.head.bytes, .slice P2 p.head.prev.length p2, .slice R2 p.head.root.length r2, .int .i64 p.place, .slice L2 p.leaf.length lc2, .slice Pa2 p.path.length pc2, .slice La2 p.later.length lac2] 36)))
    have HO2 := Lib.hid ((ho2.imp (E := fun b => b < w5.heap.size) fun b hb _ => hb).new ((New.refl w5).alloc (.cells #[.int .i64 p.head.index, .int .u64 p.head.first, .int .i64 p.head.count, .int .i64 p.head.bytes, .slice P2 p.head.prev.length p2, .slice R2 p.head.root.length r2, .int .i64 p.place, .slice L2 p.leaf.length lc2, .slice Pa2 p.path.length pc2, .slice La2 p.later.length lac2] 36)))
    have HH := Lib.hid (HH.out.new kX)
    have HRF := Lib.hid (HRF.out.new kX)
    have HK := Lib.hid (HK.out.new kX)
    have HX := Lib.hid hX
    clear hp2 ho2 k5 kX hX HD
    go_wp2_with fail
    generalize w5.alloc (.cells #[.int .i64 p.head.index, .int .u64 p.head.first, .int .i64 p.head.count, .int .i64 p.head.bytes, .slice P2 p.head.prev.length p2, .slice R2 p.head.root.length r2, .int .i64 p.place, .slice L2 p.leaf.length lc2, .slice Pa2 p.path.length pc2, .slice La2 p.later.length lac2] 36) = w6 at *
    generalize w5.heap.size = gx at *
    have HGXL : Hid (gx < w6.heap.size) := Lib.hid (Array.getElem?_eq_some_iff.1 HX.out).1
    have HKS6 : Hid (w.heap.size ≤ w6.heap.size) := Lib.hid HK.out.size
    refine (HID.out w6).mono ?_
    rintro e w7 ⟨⟨A0, rfl, b0⟩, k7⟩
    go_wp2_with fail
    refine (head18_any _ _ A0 H 16 16 k hc idv he w7 b0 (by decide) (HH.out.new k7) (by omega)).mono ?_
    rintro e w8 ⟨⟨AT, cT, rfl, oT⟩, k8⟩
    have k78 := k7.new k8
    have HP2 := Lib.hid (HP2.out.new k78)
    have HO2 := Lib.hid (HO2.out.new k78)
    have HX := Lib.hid (k78.blockAt HX.out trivial)
    have HRF := Lib.hid (HRF.out.new k78)
    have HK := Lib.hid (HK.out.new k78)
    have HT := Lib.hid (own_base (base := w6.heap.size) oT k7.size)
    have HKW6 : Hid (w.heap.size ≤ w6.heap.size) := Lib.hid HKS6.out
    clear b0 k7 k8 oT k78 HID HH
    have x0 := cellOf HX.out (k := 0) rfl
    have x1 := cellOf HX.out (k := 1) rfl
    have x2 := cellOf HX.out (k := 2) rfl
    have x3 := cellOf HX.out (k := 3) rfl
    have x4 := cellOf HX.out (k := 4) rfl
    have x5 := cellOf HX.out (k := 5) rfl
    have x6 := cellOf HX.out (k := 6) rfl
    have x7 := cellOf HX.out (k := 7) rfl
    have x8 := cellOf HX.out (k := 8) rfl
    have x9 := cellOf HX.out (k := 9) rfl
    have hC := check_pr (c := cT) (lac := lac2) ((Row.of_own HT.out).imp (E := fun _ => True) fun _ _ _ => trivial) HP2.out HO2.out HSM.out
    rw [HCI.out] at hC
    have HC := Lib.hid hC
    clear hC
    go_wp2_with fail
    clear x0 x1 x2 x3 x4 x5 x6 x7 x8 x9
    refine HC.out.mono ?_
    rintro e w9 ⟨⟨A3, c3, rfl, b3⟩, k9⟩
    simp only [recOr, Option.getD_some, Option.isSome_some] at b3 ⊢
    have kA := k9.alloc (.cells #[.int .i64 r.kind, .int .u64 r.seq, .slice A3 r.body.length c3] 42)
    have hY := heap_alloc_new w9 (.cells #[.int .i64 r.kind, .int .u64 r.seq, .slice A3 r.body.length c3] 42)
    have hb3 := Row.new b3 ((New.refl w9).alloc (.cells #[.int .i64 r.kind, .int .u64 r.seq, .slice A3 r.body.length c3] 42))
    have HP2 := Lib.hid (HP2.out.new kA)
    have HO2 := Lib.hid (HO2.out.new kA)
    have HX := Lib.hid (kA.blockAt HX.out trivial)
    have HRF := Lib.hid (HRF.out.new kA)
    have HK := Lib.hid (HK.out.new kA)
    have HT := Lib.hid (Own.keepNew HT.out kA)
    clear k9 kA b3 HC
    go_upto_region 10 with fail
    generalize w9.alloc (.cells #[.int .i64 r.kind, .int .u64 r.seq, .slice A3 r.body.length c3] 42) = wr at *
    generalize w9.heap.size = gy at *
    have hal : i < al.length := by rw [HRL.out]; exact hi
    have hxe : al[i] = r := by have h := HRE.out; rw [List.getElem?_eq_getElem hal] at h; injection h
    obtain ⟨b5, off5, A5, c5, he5, v0, v1, v2, hb5⟩ := HRF.out.at3 hal
    rw [hxe] at v0 v1 v2 hb5
    obtain rfl := he5
    have k1 : ∀ m, (convert 31 9 (.slice A3 r.body.length c3)).run Tryz.prog (wr.drewN m) = .ok (.string (strOf r.body)) (wr.drewN m) := fun m => run_str (Row.new hb3 ((New.refl wr).drewN m))
    have k2 : ∀ m, (convert 31 9 (.slice A5 r.body.length c5)).run Tryz.prog (wr.drewN m) = .ok (.string (strOf r.body)) (wr.drewN m) := fun m => run_str (Row.new hb5 ((New.refl wr).drewN m))
    have y0 := cellOf hY (k := 0) rfl
    have y1 := cellOf hY (k := 1) rfl
    have y2 := cellOf hY (k := 2) rfl
    rw [HRS.out] at y1
    clear hb3 hb5 hY hxe hal
    go_quiet (fail)
    have HP2 := Lib.hid (HP2.out.new ((New.refl wr).drewN nq))
    have HO2 := Lib.hid (HO2.out.new ((New.refl wr).drewN nq))
    have HX := Lib.hid (((New.refl wr).drewN nq).blockAt HX.out trivial)
    have HK := Lib.hid (HK.out.new ((New.refl wr).drewN nq))
    have HT := Lib.hid (Own.keepNew HT.out ((New.refl wr).drewN nq))
    clear k1 k2 y0 y1 y2 v0 v1 v2 HRF
    generalize wr.drewN nq = wq at *
    go_wp2_with fail
    refine (HWJ.out wq).mono ?_
    rintro e w' ⟨rfl, rfl⟩
    obtain ⟨gt, hgt⟩ : ∃ gt, AT = some (Addr.mk gt 0 none) := by
      obtain ⟨g, cap, hv, _, _⟩ := HT.out.form (by decide)
      injection hv with hv
      exact ⟨g, hv⟩
    subst hgt
    have hml : m < (headSeal idv he).length := by rw [HTL.out]; exact hm
    have ct : wq.cell? ⟨gt, m, none⟩ = some (.int .u8 (bv (headSeal idv he)[m])) := by simpa [Addr.add_lit] using HT.out.cells (g := gt) rfl m _ (by rw [List.getElem?_map, List.getElem?_eq_getElem hml]; rfl)
    have ft := HT.out.frozenAt (g := gt) m
    have hst := (HT.out.stored m (.int .u8 (bv ((headSeal idv he)[m] ^^^ turn)))).1
    have hset : ((headSeal idv he).map byteVal).set m (.int .u8 (bv ((headSeal idv he)[m] ^^^ turn))) = ((headSeal idv he).set m ((headSeal idv he)[m] ^^^ turn)).map byteVal := (List.map_set ..).symm
    rw [hset] at hst
    clear hset
    have HST := Lib.hid hst
    have hkS : Keep (fun b => b ≠ gt) wq (wq.setCell ⟨gt, m, none⟩ (.int .u8 (bv ((headSeal idv he)[m] ^^^ turn)))) := (Keep.refl _ wq).setCell (p := ⟨gt, m, none⟩) (fun hd => absurd rfl hd) _
    have hgtl := own_lt HT.out gt rfl
    have HSETQ : Hid ((headSeal idv he).set m ((headSeal idv he)[m] ^^^ turn) = headSeal idv he ↔ turn = 0) := Lib.hid (set_xor_eq hml)
    generalize (headSeal idv he)[m] = tb at *
    have HKS := Lib.hid hkS
    have HGTL := Lib.hid hgtl
    clear hst hkS hgtl
    have HGX : Hid (gx < w6.heap.size ∧ w6.heap.size ≤ gt) := Lib.hid ⟨HGXL.out, HGTL.out.1⟩
    have hty : bits .xor .u8 (bv tb) (bv turn) = bv (tb ^^^ turn) := bv_xor tb turn
    go_upto_region 13 with fail
    clear ct ft hty
    have HX := Lib.hid (HKS.out.blockAt HX.out (by have := HGX.out; omega))
    have HP2 := Lib.hid (HP2.out.keep HKS.out (fun b _ hb => by have := HGX.out; show b ≠ gt; have h2 : b < gx := hb; omega))
    have HO2 := Lib.hid (HO2.out.keep HKS.out (fun b _ hb => by have := HGX.out; show b ≠ gt; have h2 : b < gx := hb; omega))
    have HK := Lib.hid (HK.out.trans2 HKS.out (fun b hb _ => by have h1 := HGX.out; have h2 : w.heap.size ≤ w6.heap.size := HKW6.out; omega))
    generalize wq.setCell _ _ = ws at *
    have x0 := cellOf HX.out (k := 0) rfl
    have x1 := cellOf HX.out (k := 1) rfl
    have x2 := cellOf HX.out (k := 2) rfl
    have x3 := cellOf HX.out (k := 3) rfl
    have x4 := cellOf HX.out (k := 4) rfl
    have x5 := cellOf HX.out (k := 5) rfl
    have x6 := cellOf HX.out (k := 6) rfl
    have x7 := cellOf HX.out (k := 7) rfl
    have x8 := cellOf HX.out (k := 8) rfl
    have x9 := cellOf HX.out (k := 9) rfl
    have hC := check_pr (c := cT) (lac := lac2) ((Row.of_own HST.out).imp (E := fun _ => True) fun _ _ _ => trivial) HP2.out HO2.out HSM.out
    rw [HC2.out] at hC
    have hif : ∃ cy : Option RecP, (if (headSeal idv he).set m (tb ^^^ turn) = headSeal idv he then some r else none) = cy ∧ cy.isSome = (bv turn == 0) := by
      by_cases ht0 : turn = 0
      · exact ⟨some r, if_pos (HSETQ.out.2 ht0), by subst ht0; rfl⟩
      · refine ⟨none, if_neg (fun h => ht0 (HSETQ.out.1 h)), ?_⟩
        have h1 : ¬ bv turn = 0 := fun e => ht0 (bv_inj (b := 0) e)
        simp [h1]
    obtain ⟨cy, hcy, hcs⟩ := hif
    rw [hcy] at hC
    have HC := Lib.hid hC
    have HCS := Lib.hid hcs
    clear hC hcy hcs
    go_wp2_with fail
    clear x0 x1 x2 x3 x4 x5 x6 x7 x8 x9
    refine HC.out.mono ?_
    rintro e wt ⟨⟨A6, c6, rfl, -⟩, k9⟩
    rw [HCS.out]
    generalize hbt : (bv turn == 0) = bt at *
    have HK := Lib.hid (HK.out.new (k9.alloc (.cells #[.int .i64 (recOr cy).kind, .int .u64 (recOr cy).seq, .slice A6 (recOr cy).body.length c6] 42)))
    clear k9 HC
    have hbb : (bt == bt) = true := by cases bt <;> rfl
    go_wp2_with fail
    refine (HKN.out _).mono ?_
    rintro e wu ⟨rfl, ku⟩
    go_wp2_with fail
    go_ret
    exact ⟨rfl, HK.out.new ku⟩
end Go.Proofs.YtfegdgaanmcecaaGreatDoor
