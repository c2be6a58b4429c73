/-
  PROVED HERE: the law ProofGrows answers true; conditions: lengths that a slice may have.
-/
import Derived.Test.YtfegdgaanmcecaaGreatDoorPkG32
import Derived.Test.YtfegdgaanmcecaaGreatDoorPkG45
namespace Go.Proofs.YtfegdgaanmcecaaGreatDoor
open Go.RowKit

theorem PrAt.any {w : World} {D : Nat → Prop} {p : ProofP} {P1 R1 L Pa : Option Addr} {p1 r1 lc pc : Nat} (h : PrAt w D p P1 R1 L Pa p1 r1 lc pc) : PrAt w (fun _ => True) p P1 R1 L Pa p1 r1 lc pc := h.imp fun _ _ _ => trivial
theorem mod_from (z lo : Int) (m : Nat) (hm : 0 < m) : ∃ kk : Nat, kk < m ∧ lo + z % ((m : Int) - 1 + lo - lo + 1) = lo + (kk : Int) := by
  have h0 := Int.emod_nonneg z (show (m : Int) ≠ 0 by omega)
  have h1 := Int.emod_lt_of_pos z (show (0 : Int) < (m : Int) by omega)
  refine ⟨(z % (m : Int)).toNat, by omega, ?_⟩
  rw [show (m : Int) - 1 + lo - lo + 1 = (m : Int) by omega]
  omega
theorem imgs_take {w : World} {D : Nat → Prop} {A : Option Addr} {n : Nat} {ls : List (List UInt8)} (h : Imgs w D A n ls) {m : Nat} (hm : m ≤ n) : Imgs w D A m (ls.take m) := imgs_sl.2 ((imgs_sl.1 h).cutTo hm)
theorem heads_take {w : World} {D : Nat → Prop} {A : Option Addr} {n : Nat} {ls : List HeadP} (h : Heads w D A n ls) {m : Nat} (hm : m ≤ n) : Heads w D A m (ls.take m) := heads_sl.2 ((heads_sl.1 h).cutTo hm)
/-- where a chain's segment ends. -/
theorem chain_end (id : List UInt8) (l : List (List (List UInt8))) {n : Nat} (h0 : 0 < n) : (chainHead (n - 1) (chainTo id l (n - 1)).next (chainTo id l (n - 1)).prev (segRecs id l (n - 1))).first + (chainHead (n - 1) (chainTo id l (n - 1)).next (chainTo id l (n - 1)).prev (segRecs id l (n - 1))).count = (chainTo id l n).next := by
  obtain ⟨m, rfl⟩ : ∃ m, n = m + 1 := ⟨n - 1, by omega⟩
  rfl

set_option maxRecDepth 100000 in
set_option maxHeartbeats 8000000 in
theorem pgrows_any (D2 : Nat → Prop) (A2 : Option Addr) (n2 c2 : Nat) (l : List (List (List UInt8))) (a b : Int) (w : World) (hR : Raws8 w D2 A2 n2 l) (hn2 : n2 ≤ 9223372036854775807) (ha0 : -9223372036854775808 ≤ a) (ha1 : a ≤ 9223372036854775807) (hb0 : -9223372036854775808 ≤ b) (hb1 : b ≤ 9223372036854775807) :
    Calls Tryz.prog 3 #[.slice A2 n2 c2, .int .i64 a, .int .i64 b] w fun e w' => e = .returned (.bool true) ∧ New w w' := by
  have HCH := Lib.hid (chain24_any D2 A2 n2 c2 l w hR hn2)
  have hk6 : min n2 6 ≤ 6 := Nat.min_le_right _ _
  generalize min n2 6 = k at *
  have hok := chain_ok id24 l k (by omega)
  have hrl : (((chainTo id24 l k).recs.length : Nat) : Int) + 1 = (chainTo id24 l k).next := hok.recs
  have hq1 := hok.next1
  have HID := Lib.hid id24_any
  have HKN := Lib.hid known24_any
  have hil := hok.images
  have hhl := hok.heads
  have hr36 : (chainTo id24 l k).recs.length ≤ 36 := by omega
  clear hR
  by_cases hlt : (chainTo id24 l k).recs.length = 0
  · generalize chainTo id24 l k = s at *
    clear hok hrl hq1 hil hhl hr36
    go_enter Tryz.func3, Tryz.ntmps3
    go_wp2_with fail
    refine HCH.out.mono ?_
    rintro e w1 ⟨⟨O, oc, H, hc, R, rc, rfl, -⟩, k1⟩
    rw [hlt]
    go_wp2_with fail
    refine (HKN.out w1).mono ?_
    rintro e w2 ⟨rfl, k2⟩
    go_wp2_with fail
    go_ret
    exact ⟨rfl, k1.new k2⟩
  · have hk0 : 0 < k := by
      rcases Nat.eq_zero_or_pos k with h0 | h0
      · subst h0; exact absurd rfl hlt
      · exact h0
    obtain ⟨i, hi, hiv⟩ := mod_from a 0 (chainTo id24 l k).recs.length (by omega)
    obtain ⟨j, hj, hjv⟩ := mod_from b 1 k hk0
    have HWI : Hid (∀ W, Calls Tryz.prog 11 #[.int .i64 a, .int .i64 0, .int .i64 (((chainTo id24 l k).recs.length : Int) - 1)] W fun e w' => e = .returned (.int .i64 (i : Int)) ∧ W = w') := Lib.hid fun W => by
      have h := within_any a 0 (((chainTo id24 l k).recs.length : Int) - 1) W ha0 ha1 (by decide) (by omega) (by omega)
      rw [show ((chainTo id24 l k).recs.length : Int) - 1 - 0 + 1 = ((chainTo id24 l k).recs.length : Int) - 1 + 0 - 0 + 1 by omega, hiv, Int.zero_add] at h
      exact h
    obtain ⟨n, hn⟩ : ∃ n, n = j + 1 := ⟨_, rfl⟩
    have HWJ : Hid (∀ W, Calls Tryz.prog 11 #[.int .i64 b, .int .i64 1, .int .i64 (k : Int)] W fun e w' => e = .returned (.int .i64 (n : Int)) ∧ W = w') := Lib.hid fun W => by
      have h := within_any b 1 (k : Int) W hb0 hb1 (by decide) (by omega) (by omega)
      rw [show (k : Int) - 1 + 1 = (k : Int) - 1 + 1 - 1 + 1 by omega, hjv] at h
      rw [hn, show (((j + 1 : Nat) : Int)) = 1 + (j : Int) by omega]
      exact h
    have hnk : n ≤ k := by omega
    have hn0 : 0 < n := by omega
    have hct := chain_take id24 l (k := n) k hnk (by omega)
    have hct1 := hct.1
    have hct2 := hct.2.1
    have hokn := chain_ok id24 l n (by omega)
    have hnl := hokn.heads
    have hmono := chain_next_mono id24 l k hnk
    clear hct hok hjv hiv hj hn ha0 ha1 hb0 hb1 hokn
    by_cases hin : (i : Int) + 1 < (chainTo id24 l n).next
    · obtain ⟨i1, hi1, hi2, hi3⟩ := chain_find id24 l n ((i : Int) + 1) (by omega) hin
      have hi1k : i1 < k := by omega
      have hmn := chain_make_in id24 l (n := n) (by omega) hi1 hi2 hi3
      have hmk := chain_make_in id24 l (n := k) (by omega) hi1k hi2 hi3
      obtain ⟨r, hrn, hcn, hrs⟩ := chain_check id24 l (n := n) (by omega) hi1 hi2 hi3
      obtain ⟨r2, hrk, hck, -⟩ := chain_check id24 l (n := k) (by omega) hi1k hi2 hi3
      have hre : r2 = r := by rw [hrn] at hrk; injection hrk with h; exact h.symm
      subst hre
      have hsn := chain_small id24 l (n := n) (i := i1) (by omega) ((i : Int) + 1)
      have hsk := chain_small id24 l (n := k) (i := i1) (by omega) ((i : Int) + 1)
      have hpn : chainProof id24 l n i1 ((i : Int) + 1) = ⟨(chainProof id24 l n i1 ((i : Int) + 1)).head, (chainProof id24 l n i1 ((i : Int) + 1)).place, (chainProof id24 l n i1 ((i : Int) + 1)).leaf, (chainProof id24 l n i1 ((i : Int) + 1)).path, ((chainTo id24 l k).heads.take n).drop (i1 + 1)⟩ := by rw [hct2]; rfl
      have hpk : chainProof id24 l k i1 ((i : Int) + 1) = ⟨(chainProof id24 l n i1 ((i : Int) + 1)).head, (chainProof id24 l n i1 ((i : Int) + 1)).place, (chainProof id24 l n i1 ((i : Int) + 1)).leaf, (chainProof id24 l n i1 ((i : Int) + 1)).path, (chainTo id24 l k).heads.drop (i1 + 1)⟩ := rfl
      rw [hpn] at hmn hcn hsn
      rw [hpk] at hmk hck hsk
      rw [← hct1] at hmn
      rw [← hct2] at hcn
      clear hrs hi2 hi3 hrn hrk hct1 hct2 hpn hpk hmono hin hnl
      generalize chainProof id24 l n i1 ((i : Int) + 1) = p at *
      generalize chainTo id24 l k = s at *
      generalize id24 = idv at *
      obtain ⟨im, he, al, pv, nx⟩ := s
      dsimp only at hil hhl hlt hi hrl hq1 hmn hmk hcn hck hsn hsk hr36 HWI
      obtain ⟨h1, pl1, lf1, pa1, la1⟩ := p
      dsimp only at hmn hmk hcn hck hsn hsk
      have HMN := Lib.hid hmn
      have HMK := Lib.hid hmk
      have HCN := Lib.hid hcn
      have HCK0 := Lib.hid hck
      have HSN := Lib.hid hsn
      have HSK := Lib.hid hsk
      have HIL := Lib.hid hil
      have HHL := Lib.hid hhl
      have hw1 : IntKind.i64.wrap ((i : Int) + 1) = (i : Int) + 1 := IntWalk.i64_in _ (by omega)
      have hw3 : IntKind.u64.wrap ((i : Int) + 1) = (i : Int) + 1 := by rw [IntKind.wrap_u64]; omega
      have hw5 : IntKind.i64.wrap ((al.length : Int) - 1) = (al.length : Int) - 1 := IntWalk.i64_in _ (by omega)
      have hlz : ((al.length : Int) == 0) = false := by rw [beq_eq_false_iff_ne]; omega
      clear hmn hmk hcn hck hsn hsk hil hhl hrl hq1 hlt
      go_enter Tryz.func3, Tryz.ntmps3
      go_wp2_with fail
      refine HCH.out.mono ?_
      rintro e w1 ⟨⟨O, oc, H, hc, R, rc, rfl, ht⟩, k1⟩
      dsimp only at ht ⊢
      rw [HIL.out, HHL.out] at ht ⊢
      have HI := Lib.hid (ht.imgs.imgs.imp (E := fun b => b < w1.heap.size) fun b hb _ => hb)
      have HH := Lib.hid (ht.heads.heads.imp (E := fun b => b < w1.heap.size) fun b hb _ => hb)
      have HK1 := Lib.hid k1
      have hoc := ht.imgs.cap
      have hoc2 : (n : Int) ≤ oc := by omega
      have hhc := ht.heads.cap
      have hhc2 : (n : Int) ≤ hc := by omega
      clear ht k1 HCH
      generalize al.length = rl at *
      go_wp2_with fail
      refine (HWI.out w1).mono ?_
      rintro e w' ⟨rfl, rfl⟩
      go_wp2_with fail
      refine (HWJ.out w1).mono ?_
      rintro e w' ⟨rfl, rfl⟩
      go_wp2_with fail
      have HM1 := make_any _ O n oc (im.take n) ((i : Int) + 1) w1 (imgs_take HI.out hnk) (by omega)
      rw [HMN.out] at HM1
      refine HM1.mono ?_
      rintro e w2 ⟨⟨P1, R1, L1, Pa1, La1, p1, r1, lc1, pc1, lac1, rfl, hp1, ho1⟩, k2⟩
      dsimp only at hp1 ho1 ⊢
      have hlm : ((he.take n).drop (i1 + 1)).length = n - (i1 + 1) := by rw [List.length_drop, List.length_take, HHL.out]; omega
      rw [hlm] at ho1 ⊢
      have kX := k2.alloc (.cells #[.int .i64 h1.index, .int .u64 h1.first, .int .i64 h1.count, .int .i64 h1.bytes, .slice P1 h1.prev.length p1, .slice R1 h1.root.length r1, .int .i64 pl1, .slice L1 lf1.length lc1, .slice Pa1 pa1.length pc1, .slice La1 (n - (i1 + 1)) lac1] 36)
      have hX := heap_alloc_new w2 (.cells #[.int .i64 h1.index, .int .u64 h1.first, .int .i64 h1.count, .int .i64 h1.bytes, .slice P1 h1.prev.length p1, .slice R1 h1.root.length r1, .int .i64 pl1, .slice L1 lf1.length lc1, .slice Pa1 pa1.length pc1, .slice La1 (n - (i1 + 1)) lac1] 36)
      have HP := Lib.hid ((hp1.imp (E := fun b => b < w2.heap.size ∧ some b ≠ blk La1) (fun b hb hd => ⟨hb, hd⟩)).new ((New.refl w2).alloc (.cells #[.int .i64 h1.index, .int .u64 h1.first, .int .i64 h1.count, .int .i64 h1.bytes, .slice P1 h1.prev.length p1, .slice R1 h1.root.length r1, .int .i64 pl1, .slice L1 lf1.length lc1, .slice Pa1 pa1.length pc1, .slice La1 (n - (i1 + 1)) lac1] 36)))
      have HO := Lib.hid ((ho1.imp (E := fun b => b < w2.heap.size) fun b hb _ => hb).new ((New.refl w2).alloc (.cells #[.int .i64 h1.index, .int .u64 h1.first, .int .i64 h1.count, .int .i64 h1.bytes, .slice P1 h1.prev.length p1, .slice R1 h1.root.length r1, .int .i64 pl1, .slice L1 lf1.length lc1, .slice Pa1 pa1.length pc1, .slice La1 (n - (i1 + 1)) lac1] 36)))
      have HLB : Hid (∀ q, blk La1 = some q → q < w2.heap.size) := Lib.hid fun q hq => (ho1.lt q hq).2
      have SZ1 : w1.heap.size ≤ w2.heap.size := k2.size
      clear hp1 ho1 k2 HM1 hlm
      go_upto_region 9 with fail
      generalize w2.alloc (.cells #[.int .i64 h1.index, .int .u64 h1.first, .int .i64 h1.count, .int .i64 h1.bytes, .slice P1 h1.prev.length p1, .slice R1 h1.root.length r1, .int .i64 pl1, .slice L1 lf1.length lc1, .slice Pa1 pa1.length pc1, .slice La1 (n - (i1 + 1)) lac1] 36) = w3 at *
      generalize hgx : w2.heap.size = gx at *
      have HX := Lib.hid hX
      have HKX := Lib.hid kX
      clear hX kX
      refine hold_beginS (New w3.drew) (by kernel_rfl) ?_
      have HP := Lib.hid (HP.out.new (New.refl w3).drew)
      have HO := Lib.hid (HO.out.new (New.refl w3).drew)
      have HX := Lib.hid (show w3.drew.heap[gx]? = _ from HX.out)
      have HKX := Lib.hid (HKX.out.drew)
      generalize w3.drew = wd at *
      have n0 : New wd wd := New.refl wd
      have y0 : ∀ W, New wd W → W.cell? ⟨gx, 0, none⟩ = _ := fun W hW => cellOf (hW.blockAt HX.out trivial) (k := 0) rfl
      have y1 : ∀ W, New wd W → W.cell? ⟨gx, 1, none⟩ = _ := fun W hW => cellOf (hW.blockAt HX.out trivial) (k := 1) rfl
      have y2 : ∀ W, New wd W → W.cell? ⟨gx, 2, none⟩ = _ := fun W hW => cellOf (hW.blockAt HX.out trivial) (k := 2) rfl
      have y3 : ∀ W, New wd W → W.cell? ⟨gx, 3, none⟩ = _ := fun W hW => cellOf (hW.blockAt HX.out trivial) (k := 3) rfl
      have y4 : ∀ W, New wd W → W.cell? ⟨gx, 4, none⟩ = _ := fun W hW => cellOf (hW.blockAt HX.out trivial) (k := 4) rfl
      have y5 : ∀ W, New wd W → W.cell? ⟨gx, 5, none⟩ = _ := fun W hW => cellOf (hW.blockAt HX.out trivial) (k := 5) rfl
      have y6 : ∀ W, New wd W → W.cell? ⟨gx, 6, none⟩ = _ := fun W hW => cellOf (hW.blockAt HX.out trivial) (k := 6) rfl
      have y7 : ∀ W, New wd W → W.cell? ⟨gx, 7, none⟩ = _ := fun W hW => cellOf (hW.blockAt HX.out trivial) (k := 7) rfl
      have y8 : ∀ W, New wd W → W.cell? ⟨gx, 8, none⟩ = _ := fun W hW => cellOf (hW.blockAt HX.out trivial) (k := 8) rfl
      have y9 : ∀ W, New wd W → W.cell? ⟨gx, 9, none⟩ = _ := fun W hW => cellOf (hW.blockAt HX.out trivial) (k := 9) rfl
      have HHD := Lib.hid (fun W A (hB : Bs W (fun _ => True) A 16 idv) (hW : New wd W) => head18_any _ _ A H 16 16 n hc idv (he.take n) W hB (by decide) ((heads_take HH.out hnk).new (HKX.out.new hW)) (by omega))
      have HCK := Lib.hid (fun W A c (hB : Bs W (fun _ => True) A 32 (headSeal idv (he.take n))) (hW : New wd W) => by have h := check_pr (c := c) (lac := lac1) hB (HP.out.new hW) (HO.out.heads.new hW) HSN.out; rw [HCN.out] at h; exact h)
      refine hold_read0 (i := 1) (v := ?_) n0 rfl (by kernel_rfl) (by kernel_rfl) (by kernel_rfl) (fun _ _ _ h => h) rfl ?_ ?_
      rotate_left
      · intro w' hN
        go_simp
        try with_reducible rfl
      simp only [Act.put, List.getElem_toArray, List.getElem_cons_succ, List.getElem_cons_zero, List.setIfInBounds_toArray, List.set_cons_zero, List.set_cons_succ]
      refine hold_read0 (i := 2) (v := ?_) n0 rfl (by kernel_rfl) (by kernel_rfl) (by kernel_rfl) (fun _ _ _ h => h) rfl ?_ ?_
      rotate_left
      · intro w' hN
        go_simp
        try with_reducible rfl
      simp only [Act.put, List.getElem_toArray, List.getElem_cons_succ, List.getElem_cons_zero, List.setIfInBounds_toArray, List.set_cons_zero, List.set_cons_succ]
      refine hold_read0 (i := 3) (v := ?_) n0 rfl (by kernel_rfl) (by kernel_rfl) (by kernel_rfl) (fun _ _ _ h => h) rfl ?_ ?_
      rotate_left
      · intro w' hN
        go_simp
        try with_reducible rfl
      simp only [Act.put, List.getElem_toArray, List.getElem_cons_succ, List.getElem_cons_zero, List.setIfInBounds_toArray, List.set_cons_zero, List.set_cons_succ]
      refine hold_read0 (i := 5) (v := ?_) n0 rfl (by kernel_rfl) (by kernel_rfl) (by kernel_rfl) (fun _ _ _ h => h) rfl ?_ ?_
      rotate_left
      · intro w' hN
        go_simp
        try with_reducible rfl
      simp only [Act.put, List.getElem_toArray, List.getElem_cons_succ, List.getElem_cons_zero, List.setIfInBounds_toArray, List.set_cons_zero, List.set_cons_succ]
      refine hold_place6 (fuel2 := 2) (listed2 := #[true, true, true, true, true, true, true, true, true, true, true, false, false]) (?_ : Nat → Option Addr → Option Addr → Nat → Option Addr → Nat → Act) (fun g A0 A1 c1 A2 c2 W => New wd W ∧ W.heap[g]? = some (.cells #[.int .i64 0, .int .u64 0, .slice none 0 0] 42 (0, 0)) ∧ wd.heap.size ≤ g ∧ Bs W (fun b => wd.heap.size ≤ b) A2 (r2).body.length (r2).body) (fun HJ3 => ?_) ?_
      rotate_left
      · skip
        refine hold_place4 (fuel2 := 6) (listed2 := #[true, true, true, true, true, true, false, false, false, false, true, false, false]) (?_ : Nat → Option Addr → Option Addr → Nat → Act) (fun g A0 A1 c1 W => New wd W ∧ W.heap[g]? = some (.cells #[.int .i64 0, .int .u64 0, .slice none 0 0] 42 (0, 0)) ∧ wd.heap.size ≤ g ∧ Bs W (fun _ => True) A1 32 (headSeal idv (he.take n))) (fun HJ2 => ?_) ?_
        rotate_left
        · skip
          refine hold_place2 (fuel2 := 7) (listed2 := #[true, true, true, true, false, true, false, false, false, false, true, false, false]) (?_ : Nat → Option Addr → Act) (fun g A0 W => New wd W ∧ W.heap[g]? = some (.cells #[.int .i64 0, .int .u64 0, .slice none 0 0] 42 (0, 0)) ∧ wd.heap.size ≤ g ∧ Bs W (fun _ => True) A0 16 (idv)) (fun HJ1 => ?_) ?_
          rotate_left
          · skip
            refine hold_place1 (fuel2 := 8) (listed2 := #[false, true, true, true, false, true, false, false, false, false, true, false, false]) (?_ : Nat → Act) (fun g W => New wd W ∧ W.heap[g]? = some (.cells #[.int .i64 0, .int .u64 0, .slice none 0 0] 42 (0, 0)) ∧ wd.heap.size ≤ g) (fun HJ0 => ?_) ?_
            rotate_left
            · skip
              refine hold_fork0 (i := 0) (j := 10) (by kernel_rfl) rfl rfl rfl rfl (fun K hK => ?_) (fun K hK => ?_)
              · skip
                go_simp
                refine (HID.out wd).mono ?_
                rintro e v0 ⟨⟨A0, rfl, b0⟩, k0⟩
                have b0 : Bs v0 (fun _ => True) A0 16 _ := b0.imp fun _ _ _ => trivial
                go_wp2_with fail
                have m0 : New wd v0 := n0.new k0
                refine hK.out _ _ m0 ?_
                clear hK K
                try simp only [Act.put, List.getElem_toArray, List.getElem_cons_succ, List.getElem_cons_zero, List.setIfInBounds_toArray, List.set_cons_zero, List.set_cons_succ]
                refine hold_fork0 (i := 4) (j := 10) (by kernel_rfl) rfl rfl rfl rfl (fun K hK => ?_) (fun K hK => ?_)
                · skip
                  go_simp
                  refine (HHD.out v0 A0 b0 m0).mono ?_
                  rintro e v1 ⟨⟨A1, c1, rfl, o1⟩, k0⟩
                  have b1 : Bs v1 (fun _ => True) A1 32 _ := (Row.of_own o1).imp fun _ _ _ => trivial
                  go_wp2_with fail
                  have m1 : New wd v1 := m0.new k0
                  refine hK.out _ _ m1 ?_
                  clear hK K
                  try simp only [Act.put, List.getElem_toArray, List.getElem_cons_succ, List.getElem_cons_zero, List.setIfInBounds_toArray, List.set_cons_zero, List.set_cons_succ]
                  refine hold_fork0 (i := 6) (j := 10) (by kernel_rfl) rfl rfl rfl rfl (fun K hK => ?_) (fun K hK => ?_)
                  · skip
                    go_simp
                    refine (HCK.out v1 A1 c1 b1 m1).mono ?_
                    rintro e v2 ⟨⟨A2, c2, rfl, b2⟩, k0⟩
                    simp only [recOr, Option.getD_some, Option.isSome_some] at b2 ⊢
                    replace b2 := Row.imp b2 (E := fun b => wd.heap.size ≤ b) (fun b _ hb => Nat.le_trans (m1).size hb)
                    go_wp2_with fail
                    have m2 : New wd v2 := m1.new k0
                    refine hK.out _ _ m2 ?_
                    clear hK K
                    try simp only [Act.put, List.getElem_toArray, List.getElem_cons_succ, List.getElem_cons_zero, List.setIfInBounds_toArray, List.set_cons_zero, List.set_cons_succ]
                    refine hold_read0 (i := 7) (v := ?_) m2 rfl (by kernel_rfl) (by kernel_rfl) (by kernel_rfl) (fun _ _ _ h => h) rfl ?_ ?_
                    rotate_left
                    · intro w' hN
                      go_simp
                      try with_reducible rfl
                    simp only [Act.put, List.getElem_toArray, List.getElem_cons_succ, List.getElem_cons_zero, List.setIfInBounds_toArray, List.set_cons_zero, List.set_cons_succ]
                    refine hold_read0 (i := 8) (v := ?_) m2 rfl (by kernel_rfl) (by kernel_rfl) (by kernel_rfl) (fun _ _ _ h => h) rfl ?_ ?_
                    rotate_left
                    · intro w' hN
                      go_simp
                      try with_reducible rfl
                    simp only [Act.put, List.getElem_toArray, List.getElem_cons_succ, List.getElem_cons_zero, List.setIfInBounds_toArray, List.set_cons_zero, List.set_cons_succ]
                    refine hold_read0 (i := 9) (v := ?_) m2 rfl (by kernel_rfl) (by kernel_rfl) (by kernel_rfl) (fun _ _ _ h => h) rfl ?_ ?_
                    rotate_left
                    · intro w' hN
                      go_simp
                      try with_reducible rfl
                    simp only [Act.put, List.getElem_toArray, List.getElem_cons_succ, List.getElem_cons_zero, List.setIfInBounds_toArray, List.set_cons_zero, List.set_cons_succ]
                    refine hold_step0 (i := 10) (by kernel_rfl) rfl rfl (fun K hK => ?_)
                    go_simp
                    go_wp2_with fail
                    have kA := (New.refl v2).alloc (.cells #[.int .i64 0, .int .u64 0, .slice none 0 0] 42)
                    have hA := heap_alloc_new v2 (.cells #[.int .i64 0, .int .u64 0, .slice none 0 0] 42)
                    have hgl : wd.heap.size ≤ v2.heap.size := (m2).size
                    have b2 := Row.new b2 kA
                    have nA : New wd _ := (m2).new kA
                    generalize v2.alloc (.cells #[.int .i64 0, .int .u64 0, .slice none 0 0] 42) = wA at *
                    obtain ⟨gA, hgA⟩ : ∃ gA, gA = v2.heap.size := ⟨_, rfl⟩
                    rw [← hgA] at hA ⊢
                    replace hgl : wd.heap.size ≤ gA := by rw [hgA]; exact hgl
                    refine hK.out _ _ nA ?_
                    clear hK K
                    try simp only [Act.put, List.getElem_toArray, List.getElem_cons_succ, List.getElem_cons_zero, List.setIfInBounds_toArray, List.set_cons_zero, List.set_cons_succ]
                    refine hold_at (HJ3.out gA A0 A1 c1 A2 c2 _ ⟨nA, hA, hgl, b2⟩) ?_ rfl
                    rfl
                  · skip
                    go_simp
                    go_wp2_with fail
                    have kA := (New.refl v1).alloc (.cells #[.int .i64 0, .int .u64 0, .slice none 0 0] 42)
                    have hA := heap_alloc_new v1 (.cells #[.int .i64 0, .int .u64 0, .slice none 0 0] 42)
                    have hgl : wd.heap.size ≤ v1.heap.size := (m1).size
                    have b1 := Row.new b1 kA
                    have nA : New wd _ := (m1).new kA
                    generalize v1.alloc (.cells #[.int .i64 0, .int .u64 0, .slice none 0 0] 42) = wA at *
                    obtain ⟨gA, hgA⟩ : ∃ gA, gA = v1.heap.size := ⟨_, rfl⟩
                    rw [← hgA] at hA ⊢
                    replace hgl : wd.heap.size ≤ gA := by rw [hgA]; exact hgl
                    refine hK.out _ _ nA ?_
                    clear hK K
                    try simp only [Act.put, List.getElem_toArray, List.getElem_cons_succ, List.getElem_cons_zero, List.setIfInBounds_toArray, List.set_cons_zero, List.set_cons_succ]
                    refine hold_at (HJ2.out gA A0 A1 c1 _ ⟨nA, hA, hgl, b1⟩) ?_ rfl
                    rfl
                · skip
                  go_simp
                  go_wp2_with fail
                  have kA := (New.refl v0).alloc (.cells #[.int .i64 0, .int .u64 0, .slice none 0 0] 42)
                  have hA := heap_alloc_new v0 (.cells #[.int .i64 0, .int .u64 0, .slice none 0 0] 42)
                  have hgl : wd.heap.size ≤ v0.heap.size := (m0).size
                  have b0 := Row.new b0 kA
                  have nA : New wd _ := (m0).new kA
                  generalize v0.alloc (.cells #[.int .i64 0, .int .u64 0, .slice none 0 0] 42) = wA at *
                  obtain ⟨gA, hgA⟩ : ∃ gA, gA = v0.heap.size := ⟨_, rfl⟩
                  rw [← hgA] at hA ⊢
                  replace hgl : wd.heap.size ≤ gA := by rw [hgA]; exact hgl
                  refine hK.out _ _ nA ?_
                  clear hK K
                  try simp only [Act.put, List.getElem_toArray, List.getElem_cons_succ, List.getElem_cons_zero, List.setIfInBounds_toArray, List.set_cons_zero, List.set_cons_succ]
                  refine hold_at (HJ1.out gA A0 _ ⟨nA, hA, hgl, b0⟩) ?_ rfl
                  rfl
              · skip
                go_simp
                go_wp2_with fail
                have kA := (New.refl wd).alloc (.cells #[.int .i64 0, .int .u64 0, .slice none 0 0] 42)
                have hA := heap_alloc_new wd (.cells #[.int .i64 0, .int .u64 0, .slice none 0 0] 42)
                have hgl : wd.heap.size ≤ wd.heap.size := (n0).size
                have nA : New wd _ := (n0).new kA
                generalize wd.alloc (.cells #[.int .i64 0, .int .u64 0, .slice none 0 0] 42) = wA at *
                obtain ⟨gA, hgA⟩ : ∃ gA, gA = wd.heap.size := ⟨_, rfl⟩
                rw [← hgA] at hA ⊢
                replace hgl : wd.heap.size ≤ gA := by rw [hgA]; exact hgl
                refine hK.out _ _ nA ?_
                clear hK K
                try simp only [Act.put, List.getElem_toArray, List.getElem_cons_succ, List.getElem_cons_zero, List.setIfInBounds_toArray, List.set_cons_zero, List.set_cons_succ]
                refine hold_at (HJ0.out gA _ ⟨nA, hA, hgl⟩) ?_ rfl
                rfl
            · rintro g wz ⟨nz, hg, hgl⟩
              refine hold_step0 (i := 0) (by kernel_rfl) rfl rfl (fun K hK => ?_)
              go_simp
              refine (HID.out wz).mono ?_
              rintro e wy ⟨⟨A0, rfl, b0⟩, k0⟩
              have b0 : Bs wy (fun _ => True) A0 16 _ := b0.imp fun _ _ _ => trivial
              go_wp2_with fail
              have ny : New wd wy := nz.new k0
              refine hK.out _ _ ny ?_
              clear hK K
              try simp only [List.setIfInBounds_toArray, List.set_cons_zero]
              have hg := k0.blockAt hg trivial
              refine hold_at (HJ1.out g A0 _ ⟨ny, hg, hgl, b0⟩) ?_ rfl
              rfl
          · rintro g A0 wz ⟨nz, hg, hgl, b0⟩
            refine hold_step0 (i := 4) (by kernel_rfl) rfl rfl (fun K hK => ?_)
            go_simp
            refine (HHD.out wz A0 b0 nz).mono ?_
            rintro e wy ⟨⟨A1, c1, rfl, o1⟩, k0⟩
            have b1 : Bs wy (fun _ => True) A1 32 _ := (Row.of_own o1).imp fun _ _ _ => trivial
            go_wp2_with fail
            have ny : New wd wy := nz.new k0
            refine hK.out _ _ ny ?_
            clear hK K
            try simp only [List.setIfInBounds_toArray, List.set_cons_zero, List.set_cons_succ]
            have hg := k0.blockAt hg trivial
            refine hold_at (HJ2.out g A0 A1 c1 _ ⟨ny, hg, hgl, b1⟩) ?_ rfl
            rfl
        · rintro g A0 A1 c1 wz ⟨nz, hg, hgl, b1⟩
          refine hold_step0 (i := 6) (by kernel_rfl) rfl rfl (fun K hK => ?_)
          go_simp
          refine (HCK.out wz A1 c1 b1 nz).mono ?_
          rintro e wy ⟨⟨A2, c2, rfl, b2⟩, k0⟩
          simp only [recOr, Option.getD_some, Option.isSome_some] at b2 ⊢
          replace b2 := Row.imp b2 (E := fun b => wd.heap.size ≤ b) (fun b _ hb => Nat.le_trans (nz).size hb)
          go_wp2_with fail
          have ny : New wd wy := nz.new k0
          refine hK.out _ _ ny ?_
          clear hK K
          try simp only [List.setIfInBounds_toArray, List.set_cons_zero, List.set_cons_succ]
          have hg := k0.blockAt hg trivial
          refine hold_read0 (i := 7) (v := ?_) ny rfl (by kernel_rfl) (by kernel_rfl) (by kernel_rfl) (fun _ _ _ h => h) rfl ?_ ?_
          rotate_left
          · intro w' hN
            go_simp
            try with_reducible rfl
          simp only [Act.put, List.getElem_toArray, List.getElem_cons_succ, List.getElem_cons_zero, List.setIfInBounds_toArray, List.set_cons_zero, List.set_cons_succ]
          refine hold_read0 (i := 8) (v := ?_) ny rfl (by kernel_rfl) (by kernel_rfl) (by kernel_rfl) (fun _ _ _ h => h) rfl ?_ ?_
          rotate_left
          · intro w' hN
            go_simp
            try with_reducible rfl
          simp only [Act.put, List.getElem_toArray, List.getElem_cons_succ, List.getElem_cons_zero, List.setIfInBounds_toArray, List.set_cons_zero, List.set_cons_succ]
          refine hold_read0 (i := 9) (v := ?_) ny rfl (by kernel_rfl) (by kernel_rfl) (by kernel_rfl) (fun _ _ _ h => h) rfl ?_ ?_
          rotate_left
          · intro w' hN
            go_simp
            try with_reducible rfl
          simp only [Act.put, List.getElem_toArray, List.getElem_cons_succ, List.getElem_cons_zero, List.setIfInBounds_toArray, List.set_cons_zero, List.set_cons_succ]
          refine hold_at (HJ3.out g A0 A1 c1 A2 c2 _ ⟨ny, hg, hgl, b2⟩) ?_ rfl
          rfl
      · rintro gr A0 A1 c1 A2r c2r wz ⟨nz, hg, hgl, b2⟩
        have d0 := cellOf hg (k := 0) rfl
        have z0 := frozenOf hg 0
        have d1 := cellOf hg (k := 1) rfl
        have z1 := frozenOf hg 1
        have d2 := cellOf hg (k := 2) rfl
        have z2 := frozenOf hg 2
        refine hold_step0 (i := 11) (by kernel_rfl) rfl rfl (fun K hK => ?_)
        go_simp
        have hE := set_three hg (.int .i64 (r2).kind) (.int .u64 (r2).seq) (.slice A2r (r2).body.length c2r)
        have nE := new_three nz hgl (.int .i64 (r2).kind) (.int .u64 (r2).seq) (.slice A2r (r2).body.length c2r)
        have b2a := bs_apart3 b2 hg
        have b2b : Bs (((wz.setCell ⟨gr, 0, none⟩ (.int .i64 (r2).kind)).setCell ⟨gr, 1, none⟩ (.int .u64 (r2).seq)).setCell ⟨gr, 2, none⟩ (.slice A2r (r2).body.length c2r)) _ A2r _ _ := Row.keep b2a (((Keep.refl (fun b => b ≠ gr) wz).setCell (p := ⟨gr, 0, none⟩) (fun hd => absurd rfl hd) _).setCell (p := ⟨gr, 1, none⟩) (fun hd => absurd rfl hd) _ |>.setCell (p := ⟨gr, 2, none⟩) (fun hd => absurd rfl hd) _) (fun b _ hb => hb.2)
        refine hK.out _ _ nE ?_
        clear hK K d0 d1 d2 z0 z1 z2
        try simp only [List.setIfInBounds_toArray, List.set_cons_zero, List.set_cons_succ]
        generalize World.setCell _ _ _ = wEr at *
        refine hold_read0 (i := 12) (v := ?_) nE rfl (by kernel_rfl) (by kernel_rfl) (by kernel_rfl) (fun _ _ _ h => h) rfl ?_ ?_
        rotate_left
        · intro w' hN
          go_simp
          try with_reducible rfl
        simp only [Act.put, List.getElem_toArray, List.getElem_cons_succ, List.getElem_cons_zero, List.setIfInBounds_toArray, List.set_cons_zero, List.set_cons_succ]
        refine wpAnyH_done (by kernel_rfl) ?_ _
        clear y0 y1 y2 y3 y4 y5 y6 y7 y8 y9
        have HEr := Lib.hid hE
        have HNEr := Lib.hid nE
        have HGGr := Lib.hid hgl
        have HBEr := Lib.hid (Row.imp b2b (E := fun b => wd.heap.size ≤ b) fun _ _ hb => hb.1)
        clear hE nE b2 b2a b2b hg nz hgl n0
        have HXE := Lib.hid (HNEr.out.blockAt HX.out trivial)
        have HP := Lib.hid (HP.out.new HNEr.out)
        have HO := Lib.hid (HO.out.new HNEr.out)
        have HKE := Lib.hid (HKX.out.new HNEr.out)
        have HGL : Hid (w1.heap.size ≤ gx ∧ gx < wd.heap.size ∧ wd.heap.size ≤ gr ∧ wd.heap.size ≤ wEr.heap.size ∧ gr < wEr.heap.size) := Lib.hid ⟨SZ1, (Array.getElem?_eq_some_iff.1 HX.out).1, HGGr.out, HNEr.out.size, (Array.getElem?_eq_some_iff.1 HEr.out).1⟩
        clear HX HNEr HKX HCK HHD
        go_wp2_with fail
        go_loopw [16] (fun i0 wx => ∃ (m : Nat) (A : Option Addr) (c : Nat), (n ≤ m ∧ m ≤ k) ∧ i0 = .int .i64 (m : Int) ∧ wx.heap[gx]? = some (.cells #[.int .i64 h1.index, .int .u64 h1.first, .int .i64 h1.count, .int .i64 h1.bytes, .slice P1 h1.prev.length p1, .slice R1 h1.root.length r1, .int .i64 pl1, .slice L1 lf1.length lc1, .slice Pa1 pa1.length pc1, .slice A (m - (i1 + 1)) c] 36 (0, 0)) ∧ OwnHeads wx w1.heap.size (fun b => b < gx) A (m - (i1 + 1)) c ((he.take m).drop (i1 + 1)) ∧ PrAt wx (fun b => b < gx ∧ some b ≠ blk A) ⟨h1, pl1, lf1, pa1, (he.take n).drop (i1 + 1)⟩ P1 R1 L1 Pa1 p1 r1 lc1 pc1 ∧ (∀ q, blk A = some q → q ≠ gx ∧ q ≠ gr) ∧ wx.heap[gr]? = some (.cells #[.int .i64 r2.kind, .int .u64 r2.seq, .slice A2r r2.body.length c2r] 42 (0, 0)) ∧ Bs wx (fun b => (wd.heap.size ≤ b ∧ b < wEr.heap.size) ∧ some b ≠ blk A) A2r r2.body.length r2.body ∧ Keep (fun b => b < w1.heap.size) w1 wx) (fun i0 _ => k - (intOf i0).toNat)
        case atStart => exact ⟨n, La1, lac1, ⟨Nat.le_refl _, hnk⟩, rfl, HXE.out, HO.out, HP.out, fun q hq => by have h1 := HLB.out q hq; have h2 := HGL.out; omega, HEr.out, HBEr.out.imp fun b hb hd => ⟨⟨hd, hb⟩, fun e => by have h1 := HLB.out b e.symm; have h2 := HGL.out; omega⟩, Keep.of_new HKE.out⟩
        case round =>
          obtain ⟨m, A, c, hm, rfl, hgx9, hO, hPr, hqA, hgr, hBr, hK⟩ := hrel
          have HHr := Lib.hid ((HH.out).keep hK (fun b _ hb => hb))
          by_cases hmk : m < k
          · have hlk : m < he.length := by have := HHL.out; omega
            obtain ⟨b, off, B1, c1, B2, c2, rfl, hbD, u0, u1, u2, u3, u4, u5, l1, l2, b1, b2, f0, f1⟩ := HHr.out.at_ hlk
            have HTK : Hid ((he.take (m + 1)).drop (i1 + 1) = (he.take m).drop (i1 + 1) ++ [he[m]]) := Lib.hid (by rw [List.take_add_one, List.getElem?_eq_getElem hlk, List.drop_append_of_le_length (by rw [List.length_take]; omega)]; rfl)
            generalize he[m] = x at *
            have HSUB : Hid (m - (i1 + 1) + 1 = m + 1 - (i1 + 1)) := Lib.hid (by omega)
            go_upto_region 13 with fail
            have hb3 : b < w1.heap.size := hbD
            refine holdW_begin [8, 10] (Keep (fun b => b < w1.heap.size) wr.drew) (New wr.drew) (by kernel_rfl) ?_
            have s0 : Keep (fun b => b < w1.heap.size) wr.drew wr.drew := Keep.refl _ _
            have t0 : New wr.drew wr.drew := New.refl _
            have q0 : ∀ W, Keep (fun b => b < w1.heap.size) wr.drew W → W.cell? _ = some (.int .i64 x.index) := fun W h => h.cell_some (a := wr.drew) u0 hb3
            have q1 : ∀ W, Keep (fun b => b < w1.heap.size) wr.drew W → W.cell? _ = some (.int .u64 x.first) := fun W h => h.cell_some (a := wr.drew) u1 hb3
            have q2 : ∀ W, Keep (fun b => b < w1.heap.size) wr.drew W → W.cell? _ = some (.int .i64 x.count) := fun W h => h.cell_some (a := wr.drew) u2 hb3
            have q3 : ∀ W, Keep (fun b => b < w1.heap.size) wr.drew W → W.cell? _ = some (.int .i64 x.bytes) := fun W h => h.cell_some (a := wr.drew) u3 hb3
            have q4 : ∀ W, Keep (fun b => b < w1.heap.size) wr.drew W → W.cell? _ = some (.slice B1 x.prev.length c1) := fun W h => h.cell_some (a := wr.drew) u4 hb3
            have q5 : ∀ W, Keep (fun b => b < w1.heap.size) wr.drew W → W.cell? _ = some (.slice B2 x.root.length c2) := fun W h => h.cell_some (a := wr.drew) u5 hb3
            have r9 : ∀ W, New wr.drew W → W.cell? ⟨gx, 9, none⟩ = some (.slice A (m - (i1 + 1)) c) := fun W h => cellOf (h.blockAt (show wr.drew.heap[gx]? = _ from hgx9) trivial) (k := 9) rfl
            refine holdW_read (i := 0) (v := ?_) ⟨s0, fun _ => t0⟩ rfl (by kernel_rfl) (by kernel_rfl) (by kernel_rfl) rfl (fun _ _ _ h => h) rfl ?_ ?_
            rotate_left
            · intro w' hN
              go_simp
              try with_reducible rfl
            simp only [Act.put, List.getElem_toArray, List.getElem_cons_zero, List.setIfInBounds_toArray, List.set_cons_zero, List.set_cons_succ]
            refine holdW_readT (i := 1) (v := ?_) ⟨s0, fun _ => t0⟩ rfl (by kernel_rfl) (by kernel_rfl) (by kernel_rfl) (by kernel_rfl) (by kernel_rfl) (fun _ _ _ h => h) rfl ?_ ?_
            rotate_left
            · intro w' hN
              go_simp
              try with_reducible rfl
            simp only [Act.put, List.getElem_toArray, List.getElem_cons_succ, List.getElem_cons_zero, List.setIfInBounds_toArray, List.set_cons_zero, List.set_cons_succ]
            refine holdW_read (i := 2) (v := ?_) ⟨s0, fun _ => t0⟩ rfl (by kernel_rfl) (by kernel_rfl) (by kernel_rfl) rfl (fun _ _ _ h => h) rfl ?_ ?_
            rotate_left
            · intro w' hN
              go_simp
              try with_reducible rfl
            simp only [Act.put, List.getElem_toArray, List.getElem_cons_succ, List.getElem_cons_zero, List.setIfInBounds_toArray, List.set_cons_zero, List.set_cons_succ]
            refine holdW_read (i := 3) (v := ?_) ⟨s0, fun _ => t0⟩ rfl (by kernel_rfl) (by kernel_rfl) (by kernel_rfl) rfl (fun _ _ _ h => h) rfl ?_ ?_
            rotate_left
            · intro w' hN
              go_simp
              try with_reducible rfl
            simp only [Act.put, List.getElem_toArray, List.getElem_cons_succ, List.getElem_cons_zero, List.setIfInBounds_toArray, List.set_cons_zero, List.set_cons_succ]
            refine holdW_read (i := 4) (v := ?_) ⟨s0, fun _ => t0⟩ rfl (by kernel_rfl) (by kernel_rfl) (by kernel_rfl) rfl (fun _ _ _ h => h) rfl ?_ ?_
            rotate_left
            · intro w' hN
              go_simp
              try with_reducible rfl
            simp only [Act.put, List.getElem_toArray, List.getElem_cons_succ, List.getElem_cons_zero, List.setIfInBounds_toArray, List.set_cons_zero, List.set_cons_succ]
            refine holdW_read (i := 5) (v := ?_) ⟨s0, fun _ => t0⟩ rfl (by kernel_rfl) (by kernel_rfl) (by kernel_rfl) rfl (fun _ _ _ h => h) rfl ?_ ?_
            rotate_left
            · intro w' hN
              go_simp
              try with_reducible rfl
            simp only [Act.put, List.getElem_toArray, List.getElem_cons_succ, List.getElem_cons_zero, List.setIfInBounds_toArray, List.set_cons_zero, List.set_cons_succ]
            refine holdW_step (i := 6) (by kernel_rfl) rfl rfl (fun K hK2 => ?_)
            go_simp
            refine (headOut_any B1 B2 c1 c2 x wr.drew).mono ?_
            rintro e w5 ⟨rfl, k5⟩
            go_wp2_with fail
            refine hK2.out _ _ ⟨s0.new k5, fun _ => k5⟩ ?_
            clear hK2 K
            try simp only [Act.put, List.getElem_toArray, List.getElem_cons_succ, List.getElem_cons_zero, List.setIfInBounds_toArray, List.set_cons_zero, List.set_cons_succ]
            refine holdW_step (i := 7) (by kernel_rfl) rfl rfl (fun K hK2 => ?_)
            go_simp
            go_wp2_with fail
            have k6 := k5.alloc (.cells #[.int .i64 x.index, .int .u64 x.first, .int .i64 x.count, .int .i64 x.bytes, .slice B1 x.prev.length c1, .slice B2 x.root.length c2] 33)
            have hrow := Row.made w5 33 #[.int .i64 x.index, .int .u64 x.first, .int .i64 x.count, .int .i64 x.bytes, .slice B1 x.prev.length c1, .slice B2 x.root.length c2] 1 6 rfl
            generalize w5.alloc (.cells #[.int .i64 x.index, .int .u64 x.first, .int .i64 x.count, .int .i64 x.bytes, .slice B1 x.prev.length c1, .slice B2 x.root.length c2] 33) = w6 at *
            generalize w5.heap.size = g5 at *
            refine hK2.out _ _ ⟨s0.new k6, fun _ => k6⟩ ?_
            clear hK2 K
            try simp only [Act.put, List.getElem_toArray, List.getElem_cons_succ, List.getElem_cons_zero, List.setIfInBounds_toArray, List.set_cons_zero, List.set_cons_succ]
            have k6r : New wr w6 := (New.refl wr).drew.new k6
            have HO6 := Lib.hid (hO.new k6r)
            have hlo := HO6.out.lt
            have hne : ∀ b, b < w1.heap.size → some b ≠ blk A := fun b hb e => by have h1 := (hlo b e.symm).1; omega
            have hz1 := (b1.new k6r).imp (E := fun b => b < gx ∧ some b ≠ blk A) fun b _ hb => ⟨by have h2 : b < w1.heap.size := hb; omega, hne b hb⟩
            have hz2 := (b2.new k6r).imp (E := fun b => b < gx ∧ some b ≠ blk A) fun b _ hb => ⟨by have h2 : b < w1.heap.size := hb; omega, hne b hb⟩
            have hbs : w1.heap.size ≤ w6.heap.size := Nat.le_trans hK.size k6r.size
            refine holdW_step (i := 8) (by kernel_rfl) rfl rfl (fun K hK2 => ?_)
            obtain ⟨i0, hi0, hz0, hs0, hb0⟩ := info_parts info_head
            refine wp_sl (E := headElt) _ _ _ 34 33 rfl i0 (.agg #[.int .i64 0, .int .u64 0, .int .i64 0, .int .i64 0, .slice none 0 0, .slice none 0 0]) 80 Tryz.underlying34 hi0 hz0 hs0 hb0 rfl w1.heap.size (fun b => b < gx) A (m - (i1 + 1)) c ((he.take m).drop (i1 + 1)) rfl (ownHeads_sl.1 HO6.out) _ _ 1 _ x rfl hrow ⟨B1, c1, B2, c2, rfl, rfl, rfl, rfl, rfl, rfl, l1, l2, hz1, hz2, f0, f1⟩ (by omega) (by omega) hbs ?_
            intro A7 c7 w7 o7 hg7 hbk7
            have kG : Keep (fun b => some b ≠ blk A) w6 w7 := Keep.grown (D := fun b => some b ≠ blk A) (Keep.refl _ _) hg7 (fun j hj hd => absurd hj.symm hd)
            have s7 : Keep (fun b => b < w1.heap.size) wr.drew w7 := (s0.new k6).trans2 kG (fun b _ hb => hne b hb)
            refine hK2.out _ _ ⟨s7, fun h => absurd h (by decide)⟩ ?_
            clear hK2 K
            try simp only [Act.put, List.getElem_toArray, List.getElem_cons_succ, List.getElem_cons_zero, List.setIfInBounds_toArray, List.set_cons_zero, List.set_cons_succ]
            have hgA : some gx ≠ blk A := fun e => (hqA gx e.symm).1 rfl
            have hgA2 : some gr ≠ blk A := fun e => (hqA gr e.symm).2 rfl
            have hg8 : w7.heap[gx]? = _ := kG.blockAt (k6r.blockAt hgx9 trivial) hgA
            have hr8 : w7.heap[gr]? = _ := kG.blockAt (k6r.blockAt hgr trivial) hgA2
            have hgw : gx < wr.heap.size ∧ gr < wr.heap.size := ⟨(Array.getElem?_eq_some_iff.1 hgx9).1, (Array.getElem?_eq_some_iff.1 hgr).1⟩
            have hw6 : wr.heap.size ≤ w6.heap.size := k6r.size
            have hne7 : ∀ b, b < w6.heap.size → some b ≠ blk A → some b ≠ blk A7 := fun b hb hd => ne_blk hbk7 hb hd
            have hq7 : ∀ q, blk A7 = some q → q ≠ gx ∧ q ≠ gr := fun q hq => ⟨fun e => hne7 gx (by omega) hgA (by rw [hq, e]), fun e => hne7 gr (by omega) hgA2 (by rw [hq, e])⟩
            have hPr7 := (((hPr.new k6r).imp (E := fun b => (b < gx ∧ some b ≠ blk A7) ∧ some b ≠ blk A) fun b hb hd => ⟨⟨hd.1, hne7 b hb hd.2⟩, hd.2⟩).keep kG (fun b _ hd => hd.2)).imp (E := fun b => b < gx ∧ some b ≠ blk A7) fun b _ hd => hd.1
            have hBr7 := (((hBr.new k6r).imp (E := fun b => (((wd.heap.size ≤ b ∧ b < wEr.heap.size) ∧ some b ≠ blk A7)) ∧ some b ≠ blk A) fun b hb hd => ⟨⟨hd.1, hne7 b hb hd.2⟩, hd.2⟩).keep kG (fun b _ hd => hd.2)).imp (E := fun b => (wd.heap.size ≤ b ∧ b < wEr.heap.size) ∧ some b ≠ blk A7) fun b _ hd => hd.1
            refine holdW_step (i := 9) (by kernel_rfl) rfl rfl (fun K hK2 => ?_)
            go_simp
            refine hK2.out _ _ ⟨s7, fun h => absurd h (by decide)⟩ ?_
            clear hK2 K
            try simp only [Act.put, List.getElem_toArray, List.getElem_cons_succ, List.getElem_cons_zero, List.setIfInBounds_toArray, List.set_cons_zero, List.set_cons_succ]
            have d9 := cellOf hg8 (k := 9) rfl
            have z9 := frozenOf hg8 9
            refine holdW_step (i := 10) (by kernel_rfl) rfl rfl (fun K hK2 => ?_)
            go_simp
            have hgE := setCell_block hg8 9 (.slice A7 (m - (i1 + 1) + 1) c7)
            have kS : Keep (fun b => b ≠ gx) w7 (w7.setCell ⟨gx, 9, none⟩ (.slice A7 (m - (i1 + 1) + 1) c7)) := (Keep.refl _ w7).setCell (p := ⟨gx, 9, none⟩) (fun hd => absurd rfl hd) _
            have hg9 := HGL.out
            have s8 := s7.trans2 kS (fun b _ hb => by show b ≠ gx; have h2 : b < w1.heap.size := hb; omega)
            have o8 := (ownHeads_sl.2 o7).keepE kS (fun j hj e => (hq7 j hj).1 e) (fun b hb => by show b ≠ gx; have h2 : b < gx := hb; omega)
            have hP8 := hPr7.keep kS (fun b _ hb => by show b ≠ gx; have h2 := hb.1; omega)
            have hB8 := hBr7.keep kS (fun b _ hb => by show b ≠ gx; have h2 := hb.1.1; omega)
            have hr9 := kS.blockAt hr8 (by show gr ≠ gx; omega)
            refine hK2.out _ _ ⟨s8, fun h => absurd h (by decide)⟩ ?_
            clear hK2 K d9 z9
            try simp only [Act.put, List.getElem_toArray, List.getElem_cons_succ, List.getElem_cons_zero, List.setIfInBounds_toArray, List.set_cons_zero, List.set_cons_succ]
            have kW := (hK.drew).trans s8
            generalize w7.setCell _ _ = w8 at *
            refine wpAnyW_done (by kernel_rfl) ?_ _
            clear q0 q1 q2 q3 q4 q5 r9
            go_wp2_with fail
            rw [HSUB.out] at hgE o8
            go_roundw
            case rel => exact ⟨m + 1, A7, c7, ⟨by omega, by omega⟩, by go_num, hgE, by rw [HTK.out]; exact o8, hP8, hq7, hr9, hB8, kW⟩
            case measure => simp [intOf]; omega
          · obtain rfl : m = k := by omega
            have HTA : Hid ((he.take m).drop (i1 + 1) = he.drop (i1 + 1)) := Lib.hid (by rw [List.take_of_length_le (by have := HHL.out; omega)])
            rw [HTA.out] at hO
            have HO := Lib.hid hO
            have HX := Lib.hid hgx9
            have HP := Lib.hid hPr.any
            have HRB := Lib.hid hgr
            have HBR := Lib.hid (Row.imp hBr (E := fun _ => True) fun _ _ _ => trivial)
            have HKE := Lib.hid (hK.toNew fun b hb => hb)
            clear hO hgx9 hPr hgr hBr hK hqA HEr HBEr HXE
            go_wp2_with fail
            refine hold_beginS (New wr.drew) (by kernel_rfl) ?_
            have HP := Lib.hid (HP.out.new (New.refl wr).drew)
            have HO := Lib.hid (HO.out.new (New.refl wr).drew)
            have HX := Lib.hid (show wr.drew.heap[gx]? = _ from HX.out)
            have HRB := Lib.hid (show wr.drew.heap[gr]? = _ from HRB.out)
            have HBR := Lib.hid (Row.new HBR.out (New.refl wr).drew)
            have HKE := Lib.hid (HKE.out.drew)
            generalize wr.drew = wf at *
            have n0 : New wf wf := New.refl wf
            have y0 : ∀ W, New wf W → W.cell? ⟨gx, 0, none⟩ = _ := fun W hW => cellOf (hW.blockAt HX.out trivial) (k := 0) rfl
            have y1 : ∀ W, New wf W → W.cell? ⟨gx, 1, none⟩ = _ := fun W hW => cellOf (hW.blockAt HX.out trivial) (k := 1) rfl
            have y2 : ∀ W, New wf W → W.cell? ⟨gx, 2, none⟩ = _ := fun W hW => cellOf (hW.blockAt HX.out trivial) (k := 2) rfl
            have y3 : ∀ W, New wf W → W.cell? ⟨gx, 3, none⟩ = _ := fun W hW => cellOf (hW.blockAt HX.out trivial) (k := 3) rfl
            have y4 : ∀ W, New wf W → W.cell? ⟨gx, 4, none⟩ = _ := fun W hW => cellOf (hW.blockAt HX.out trivial) (k := 4) rfl
            have y5 : ∀ W, New wf W → W.cell? ⟨gx, 5, none⟩ = _ := fun W hW => cellOf (hW.blockAt HX.out trivial) (k := 5) rfl
            have y6 : ∀ W, New wf W → W.cell? ⟨gx, 6, none⟩ = _ := fun W hW => cellOf (hW.blockAt HX.out trivial) (k := 6) rfl
            have y7 : ∀ W, New wf W → W.cell? ⟨gx, 7, none⟩ = _ := fun W hW => cellOf (hW.blockAt HX.out trivial) (k := 7) rfl
            have y8 : ∀ W, New wf W → W.cell? ⟨gx, 8, none⟩ = _ := fun W hW => cellOf (hW.blockAt HX.out trivial) (k := 8) rfl
            have y9 : ∀ W, New wf W → W.cell? ⟨gx, 9, none⟩ = _ := fun W hW => cellOf (hW.blockAt HX.out trivial) (k := 9) rfl
            have hlk2 : (he.drop (i1 + 1)).length = m - (i1 + 1) := by rw [List.length_drop, HHL.out]
            have HPP : Hid (PrAt wf (fun _ => True) ⟨h1, pl1, lf1, pa1, he.drop (i1 + 1)⟩ P1 R1 L1 Pa1 p1 r1 lc1 pc1) := Lib.hid ⟨HP.out.prev, HP.out.root, HP.out.leaf, HP.out.path, HP.out.hp, HP.out.hr, HP.out.hl, HP.out.hlm, HP.out.hpa, HP.out.hpm, HP.out.f0, HP.out.f1⟩
            have HHD := Lib.hid (fun W A (hB : Bs W (fun _ => True) A 16 idv) (hW : New wf W) => head18_any _ _ A H 16 16 m hc idv he W hB (by decide) ((HH.out).new (HKE.out.new hW)) (by omega))
            have HCK := Lib.hid (fun W A9 c9 (hB : Bs W (fun _ => True) A9 32 (headSeal idv he)) (hW : New wf W) => by have h := check_pr (c := c9) (lac := c) hB (HPP.out.new hW) (HO.out.heads.new hW) HSK.out; rw [HCK0.out] at h; exact h)
            clear HP
            refine hold_read0 (i := 1) (v := ?_) n0 rfl (by kernel_rfl) (by kernel_rfl) (by kernel_rfl) (fun _ _ _ h => h) rfl ?_ ?_
            rotate_left
            · intro w' hN
              go_simp
              try with_reducible rfl
            simp only [Act.put, List.getElem_toArray, List.getElem_cons_succ, List.getElem_cons_zero, List.setIfInBounds_toArray, List.set_cons_zero, List.set_cons_succ]
            refine hold_read0 (i := 3) (v := ?_) n0 rfl (by kernel_rfl) (by kernel_rfl) (by kernel_rfl) (fun _ _ _ h => h) rfl ?_ ?_
            rotate_left
            · intro w' hN
              go_simp
              try with_reducible rfl
            simp only [Act.put, List.getElem_toArray, List.getElem_cons_succ, List.getElem_cons_zero, List.setIfInBounds_toArray, List.set_cons_zero, List.set_cons_succ]
            refine hold_place6 (fuel2 := 2) (listed2 := #[true, true, true, true, true, true, true, true, true, false, false]) (?_ : Nat → Option Addr → Option Addr → Nat → Option Addr → Nat → Act) (fun g A0 A1 c1 A2 c2 W => New wf W ∧ W.heap[g]? = some (.cells #[.int .i64 0, .int .u64 0, .slice none 0 0] 42 (0, 0)) ∧ wf.heap.size ≤ g ∧ Bs W (fun b => wf.heap.size ≤ b) A2 (r2).body.length (r2).body) (fun HJ3 => ?_) ?_
            rotate_left
            · skip
              refine hold_place4 (fuel2 := 6) (listed2 := #[true, true, true, true, false, false, false, false, true, false, false]) (?_ : Nat → Option Addr → Option Addr → Nat → Act) (fun g A0 A1 c1 W => New wf W ∧ W.heap[g]? = some (.cells #[.int .i64 0, .int .u64 0, .slice none 0 0] 42 (0, 0)) ∧ wf.heap.size ≤ g ∧ Bs W (fun _ => True) A1 32 (headSeal idv he)) (fun HJ2 => ?_) ?_
              rotate_left
              · skip
                refine hold_place2 (fuel2 := 7) (listed2 := #[true, true, false, true, false, false, false, false, true, false, false]) (?_ : Nat → Option Addr → Act) (fun g A0 W => New wf W ∧ W.heap[g]? = some (.cells #[.int .i64 0, .int .u64 0, .slice none 0 0] 42 (0, 0)) ∧ wf.heap.size ≤ g ∧ Bs W (fun _ => True) A0 16 (idv)) (fun HJ1 => ?_) ?_
                rotate_left
                · skip
                  refine hold_place1 (fuel2 := 8) (listed2 := #[false, true, false, true, false, false, false, false, true, false, false]) (?_ : Nat → Act) (fun g W => New wf W ∧ W.heap[g]? = some (.cells #[.int .i64 0, .int .u64 0, .slice none 0 0] 42 (0, 0)) ∧ wf.heap.size ≤ g) (fun HJ0 => ?_) ?_
                  rotate_left
                  · skip
                    refine hold_fork0 (i := 0) (j := 8) (by kernel_rfl) rfl rfl rfl rfl (fun K hK => ?_) (fun K hK => ?_)
                    · skip
                      go_simp
                      refine (HID.out wf).mono ?_
                      rintro e v0 ⟨⟨A0, rfl, b0⟩, k0⟩
                      have b0 : Bs v0 (fun _ => True) A0 16 _ := b0.imp fun _ _ _ => trivial
                      go_wp2_with fail
                      have m0 : New wf v0 := n0.new k0
                      refine hK.out _ _ m0 ?_
                      clear hK K
                      try simp only [Act.put, List.getElem_toArray, List.getElem_cons_succ, List.getElem_cons_zero, List.setIfInBounds_toArray, List.set_cons_zero, List.set_cons_succ]
                      refine hold_fork0 (i := 2) (j := 8) (by kernel_rfl) rfl rfl rfl rfl (fun K hK => ?_) (fun K hK => ?_)
                      · skip
                        go_simp
                        refine (HHD.out v0 A0 b0 m0).mono ?_
                        rintro e v1 ⟨⟨A1, c1, rfl, o1⟩, k0⟩
                        have b1 : Bs v1 (fun _ => True) A1 32 _ := (Row.of_own o1).imp fun _ _ _ => trivial
                        go_wp2_with fail
                        have m1 : New wf v1 := m0.new k0
                        refine hK.out _ _ m1 ?_
                        clear hK K
                        try simp only [Act.put, List.getElem_toArray, List.getElem_cons_succ, List.getElem_cons_zero, List.setIfInBounds_toArray, List.set_cons_zero, List.set_cons_succ]
                        refine hold_fork0 (i := 4) (j := 8) (by kernel_rfl) rfl rfl rfl rfl (fun K hK => ?_) (fun K hK => ?_)
                        · skip
                          go_simp
                          refine (HCK.out v1 A1 c1 b1 m1).mono ?_
                          rintro e v2 ⟨⟨A2, c2, rfl, b2⟩, k0⟩
                          simp only [recOr, Option.getD_some, Option.isSome_some] at b2 ⊢
                          replace b2 := Row.imp b2 (E := fun b => wf.heap.size ≤ b) (fun b _ hb => Nat.le_trans (m1).size hb)
                          go_wp2_with fail
                          have m2 : New wf v2 := m1.new k0
                          refine hK.out _ _ m2 ?_
                          clear hK K
                          try simp only [Act.put, List.getElem_toArray, List.getElem_cons_succ, List.getElem_cons_zero, List.setIfInBounds_toArray, List.set_cons_zero, List.set_cons_succ]
                          refine hold_read0 (i := 5) (v := ?_) m2 rfl (by kernel_rfl) (by kernel_rfl) (by kernel_rfl) (fun _ _ _ h => h) rfl ?_ ?_
                          rotate_left
                          · intro w' hN
                            go_simp
                            try with_reducible rfl
                          simp only [Act.put, List.getElem_toArray, List.getElem_cons_succ, List.getElem_cons_zero, List.setIfInBounds_toArray, List.set_cons_zero, List.set_cons_succ]
                          refine hold_read0 (i := 6) (v := ?_) m2 rfl (by kernel_rfl) (by kernel_rfl) (by kernel_rfl) (fun _ _ _ h => h) rfl ?_ ?_
                          rotate_left
                          · intro w' hN
                            go_simp
                            try with_reducible rfl
                          simp only [Act.put, List.getElem_toArray, List.getElem_cons_succ, List.getElem_cons_zero, List.setIfInBounds_toArray, List.set_cons_zero, List.set_cons_succ]
                          refine hold_read0 (i := 7) (v := ?_) m2 rfl (by kernel_rfl) (by kernel_rfl) (by kernel_rfl) (fun _ _ _ h => h) rfl ?_ ?_
                          rotate_left
                          · intro w' hN
                            go_simp
                            try with_reducible rfl
                          simp only [Act.put, List.getElem_toArray, List.getElem_cons_succ, List.getElem_cons_zero, List.setIfInBounds_toArray, List.set_cons_zero, List.set_cons_succ]
                          refine hold_step0 (i := 8) (by kernel_rfl) rfl rfl (fun K hK => ?_)
                          go_simp
                          go_wp2_with fail
                          have kA := (New.refl v2).alloc (.cells #[.int .i64 0, .int .u64 0, .slice none 0 0] 42)
                          have hA := heap_alloc_new v2 (.cells #[.int .i64 0, .int .u64 0, .slice none 0 0] 42)
                          have hgl : wf.heap.size ≤ v2.heap.size := (m2).size
                          have b2 := Row.new b2 kA
                          have nA : New wf _ := (m2).new kA
                          generalize v2.alloc (.cells #[.int .i64 0, .int .u64 0, .slice none 0 0] 42) = wA at *
                          obtain ⟨gA, hgA⟩ : ∃ gA, gA = v2.heap.size := ⟨_, rfl⟩
                          rw [← hgA] at hA ⊢
                          replace hgl : wf.heap.size ≤ gA := by rw [hgA]; exact hgl
                          refine hK.out _ _ nA ?_
                          clear hK K
                          try simp only [Act.put, List.getElem_toArray, List.getElem_cons_succ, List.getElem_cons_zero, List.setIfInBounds_toArray, List.set_cons_zero, List.set_cons_succ]
                          refine hold_at (HJ3.out gA A0 A1 c1 A2 c2 _ ⟨nA, hA, hgl, b2⟩) ?_ rfl
                          rfl
                        · skip
                          go_simp
                          go_wp2_with fail
                          have kA := (New.refl v1).alloc (.cells #[.int .i64 0, .int .u64 0, .slice none 0 0] 42)
                          have hA := heap_alloc_new v1 (.cells #[.int .i64 0, .int .u64 0, .slice none 0 0] 42)
                          have hgl : wf.heap.size ≤ v1.heap.size := (m1).size
                          have b1 := Row.new b1 kA
                          have nA : New wf _ := (m1).new kA
                          generalize v1.alloc (.cells #[.int .i64 0, .int .u64 0, .slice none 0 0] 42) = wA at *
                          obtain ⟨gA, hgA⟩ : ∃ gA, gA = v1.heap.size := ⟨_, rfl⟩
                          rw [← hgA] at hA ⊢
                          replace hgl : wf.heap.size ≤ gA := by rw [hgA]; exact hgl
                          refine hK.out _ _ nA ?_
                          clear hK K
                          try simp only [Act.put, List.getElem_toArray, List.getElem_cons_succ, List.getElem_cons_zero, List.setIfInBounds_toArray, List.set_cons_zero, List.set_cons_succ]
                          refine hold_at (HJ2.out gA A0 A1 c1 _ ⟨nA, hA, hgl, b1⟩) ?_ rfl
                          rfl
                      · skip
                        go_simp
                        go_wp2_with fail
                        have kA := (New.refl v0).alloc (.cells #[.int .i64 0, .int .u64 0, .slice none 0 0] 42)
                        have hA := heap_alloc_new v0 (.cells #[.int .i64 0, .int .u64 0, .slice none 0 0] 42)
                        have hgl : wf.heap.size ≤ v0.heap.size := (m0).size
                        have b0 := Row.new b0 kA
                        have nA : New wf _ := (m0).new kA
                        generalize v0.alloc (.cells #[.int .i64 0, .int .u64 0, .slice none 0 0] 42) = wA at *
                        obtain ⟨gA, hgA⟩ : ∃ gA, gA = v0.heap.size := ⟨_, rfl⟩
                        rw [← hgA] at hA ⊢
                        replace hgl : wf.heap.size ≤ gA := by rw [hgA]; exact hgl
                        refine hK.out _ _ nA ?_
                        clear hK K
                        try simp only [Act.put, List.getElem_toArray, List.getElem_cons_succ, List.getElem_cons_zero, List.setIfInBounds_toArray, List.set_cons_zero, List.set_cons_succ]
                        refine hold_at (HJ1.out gA A0 _ ⟨nA, hA, hgl, b0⟩) ?_ rfl
                        rfl
                    · skip
                      go_simp
                      go_wp2_with fail
                      have kA := (New.refl wf).alloc (.cells #[.int .i64 0, .int .u64 0, .slice none 0 0] 42)
                      have hA := heap_alloc_new wf (.cells #[.int .i64 0, .int .u64 0, .slice none 0 0] 42)
                      have hgl : wf.heap.size ≤ wf.heap.size := (n0).size
                      have nA : New wf _ := (n0).new kA
                      generalize wf.alloc (.cells #[.int .i64 0, .int .u64 0, .slice none 0 0] 42) = wA at *
                      obtain ⟨gA, hgA⟩ : ∃ gA, gA = wf.heap.size := ⟨_, rfl⟩
                      rw [← hgA] at hA ⊢
                      replace hgl : wf.heap.size ≤ gA := by rw [hgA]; exact hgl
                      refine hK.out _ _ nA ?_
                      clear hK K
                      try simp only [Act.put, List.getElem_toArray, List.getElem_cons_succ, List.getElem_cons_zero, List.setIfInBounds_toArray, List.set_cons_zero, List.set_cons_succ]
                      refine hold_at (HJ0.out gA _ ⟨nA, hA, hgl⟩) ?_ rfl
                      rfl
                  · rintro g wz ⟨nz, hg, hgl⟩
                    refine hold_step0 (i := 0) (by kernel_rfl) rfl rfl (fun K hK => ?_)
                    go_simp
                    refine (HID.out wz).mono ?_
                    rintro e wy ⟨⟨A0, rfl, b0⟩, k0⟩
                    have b0 : Bs wy (fun _ => True) A0 16 _ := b0.imp fun _ _ _ => trivial
                    go_wp2_with fail
                    have ny : New wf wy := nz.new k0
                    refine hK.out _ _ ny ?_
                    clear hK K
                    try simp only [List.setIfInBounds_toArray, List.set_cons_zero]
                    have hg := k0.blockAt hg trivial
                    refine hold_at (HJ1.out g A0 _ ⟨ny, hg, hgl, b0⟩) ?_ rfl
                    rfl
                · rintro g A0 wz ⟨nz, hg, hgl, b0⟩
                  refine hold_step0 (i := 2) (by kernel_rfl) rfl rfl (fun K hK => ?_)
                  go_simp
                  refine (HHD.out wz A0 b0 nz).mono ?_
                  rintro e wy ⟨⟨A1, c1, rfl, o1⟩, k0⟩
                  have b1 : Bs wy (fun _ => True) A1 32 _ := (Row.of_own o1).imp fun _ _ _ => trivial
                  go_wp2_with fail
                  have ny : New wf wy := nz.new k0
                  refine hK.out _ _ ny ?_
                  clear hK K
                  try simp only [List.setIfInBounds_toArray, List.set_cons_zero, List.set_cons_succ]
                  have hg := k0.blockAt hg trivial
                  refine hold_at (HJ2.out g A0 A1 c1 _ ⟨ny, hg, hgl, b1⟩) ?_ rfl
                  rfl
              · rintro g A0 A1 c1 wz ⟨nz, hg, hgl, b1⟩
                refine hold_step0 (i := 4) (by kernel_rfl) rfl rfl (fun K hK => ?_)
                go_simp
                refine (HCK.out wz A1 c1 b1 nz).mono ?_
                rintro e wy ⟨⟨A2, c2, rfl, b2⟩, k0⟩
                simp only [recOr, Option.getD_some, Option.isSome_some] at b2 ⊢
                replace b2 := Row.imp b2 (E := fun b => wf.heap.size ≤ b) (fun b _ hb => Nat.le_trans (nz).size hb)
                go_wp2_with fail
                have ny : New wf wy := nz.new k0
                refine hK.out _ _ ny ?_
                clear hK K
                try simp only [List.setIfInBounds_toArray, List.set_cons_zero, List.set_cons_succ]
                have hg := k0.blockAt hg trivial
                refine hold_read0 (i := 5) (v := ?_) ny rfl (by kernel_rfl) (by kernel_rfl) (by kernel_rfl) (fun _ _ _ h => h) rfl ?_ ?_
                rotate_left
                · intro w' hN
                  go_simp
                  try with_reducible rfl
                simp only [Act.put, List.getElem_toArray, List.getElem_cons_succ, List.getElem_cons_zero, List.setIfInBounds_toArray, List.set_cons_zero, List.set_cons_succ]
                refine hold_read0 (i := 6) (v := ?_) ny rfl (by kernel_rfl) (by kernel_rfl) (by kernel_rfl) (fun _ _ _ h => h) rfl ?_ ?_
                rotate_left
                · intro w' hN
                  go_simp
                  try with_reducible rfl
                simp only [Act.put, List.getElem_toArray, List.getElem_cons_succ, List.getElem_cons_zero, List.setIfInBounds_toArray, List.set_cons_zero, List.set_cons_succ]
                refine hold_read0 (i := 7) (v := ?_) ny rfl (by kernel_rfl) (by kernel_rfl) (by kernel_rfl) (fun _ _ _ h => h) rfl ?_ ?_
                rotate_left
                · intro w' hN
                  go_simp
                  try with_reducible rfl
                simp only [Act.put, List.getElem_toArray, List.getElem_cons_succ, List.getElem_cons_zero, List.setIfInBounds_toArray, List.set_cons_zero, List.set_cons_succ]
                refine hold_at (HJ3.out g A0 A1 c1 A2 c2 _ ⟨ny, hg, hgl, b2⟩) ?_ rfl
                rfl
            · rintro gs A0 A1 c1 A2s c2s wz ⟨nz, hg, hgl, b2⟩
              have d0 := cellOf hg (k := 0) rfl
              have z0 := frozenOf hg 0
              have d1 := cellOf hg (k := 1) rfl
              have z1 := frozenOf hg 1
              have d2 := cellOf hg (k := 2) rfl
              have z2 := frozenOf hg 2
              refine hold_step0 (i := 9) (by kernel_rfl) rfl rfl (fun K hK => ?_)
              go_simp
              have hE := set_three hg (.int .i64 (r2).kind) (.int .u64 (r2).seq) (.slice A2s (r2).body.length c2s)
              have nE := new_three nz hgl (.int .i64 (r2).kind) (.int .u64 (r2).seq) (.slice A2s (r2).body.length c2s)
              have b2a := bs_apart3 b2 hg
              have b2b : Bs (((wz.setCell ⟨gs, 0, none⟩ (.int .i64 (r2).kind)).setCell ⟨gs, 1, none⟩ (.int .u64 (r2).seq)).setCell ⟨gs, 2, none⟩ (.slice A2s (r2).body.length c2s)) _ A2s _ _ := Row.keep b2a (((Keep.refl (fun b => b ≠ gs) wz).setCell (p := ⟨gs, 0, none⟩) (fun hd => absurd rfl hd) _).setCell (p := ⟨gs, 1, none⟩) (fun hd => absurd rfl hd) _ |>.setCell (p := ⟨gs, 2, none⟩) (fun hd => absurd rfl hd) _) (fun b _ hb => hb.2)
              refine hK.out _ _ nE ?_
              clear hK K d0 d1 d2 z0 z1 z2
              try simp only [List.setIfInBounds_toArray, List.set_cons_zero, List.set_cons_succ]
              generalize World.setCell _ _ _ = wEs at *
              refine hold_read0 (i := 10) (v := ?_) nE rfl (by kernel_rfl) (by kernel_rfl) (by kernel_rfl) (fun _ _ _ h => h) rfl ?_ ?_
              rotate_left
              · intro w' hN
                go_simp
                try with_reducible rfl
              simp only [Act.put, List.getElem_toArray, List.getElem_cons_succ, List.getElem_cons_zero, List.setIfInBounds_toArray, List.set_cons_zero, List.set_cons_succ]
              refine wpAnyH_done (by kernel_rfl) ?_ _
              clear y0 y1 y2 y3 y4 y5 y6 y7 y8 y9
              have HEs := Lib.hid hE
              have HNEs := Lib.hid nE
              have HGGs := Lib.hid hgl
              have HBEs := Lib.hid (Row.imp b2b (E := fun b => wf.heap.size ≤ b) fun _ _ hb => hb.1)
              clear hE nE b2 b2a b2b hg nz hgl n0
              have HX := Lib.hid (HNEs.out.blockAt HX.out trivial)
              have HRB := Lib.hid (HNEs.out.blockAt HRB.out trivial)
              have HBR := Lib.hid (Row.new HBR.out HNEs.out)
              have HPP := Lib.hid (HPP.out.new HNEs.out)
              have HO := Lib.hid (HO.out.new HNEs.out)
              have HKE := Lib.hid (HKE.out.new HNEs.out)
              have HBE := Lib.hid (Row.imp HBEs.out (E := fun _ => True) fun _ _ _ => trivial)
              have HRE := Lib.hid HEs.out
              clear HEs HNEs
              go_wp2_with fail
              have HM2 := make_any _ O m oc im ((i : Int) + 1) wEs (HI.out.new HKE.out) (by omega)
              rw [HMK.out] at HM2
              refine HM2.mono ?_
              rintro e w9 ⟨⟨P2, R2, L2, Pa2, La2, p2, r2x, lc2, pc2, lac2, rfl, hp2, ho2⟩, k9⟩
              dsimp only at hp2 ho2 ⊢
              rw [hlk2] at ho2 ⊢
              have kY := k9.alloc (.cells #[.int .i64 h1.index, .int .u64 h1.first, .int .i64 h1.count, .int .i64 h1.bytes, .slice P2 h1.prev.length p2, .slice R2 h1.root.length r2x, .int .i64 pl1, .slice L2 lf1.length lc2, .slice Pa2 pa1.length pc2, .slice La2 (m - (i1 + 1)) lac2] 36)
              have hY := heap_alloc_new w9 (.cells #[.int .i64 h1.index, .int .u64 h1.first, .int .i64 h1.count, .int .i64 h1.bytes, .slice P2 h1.prev.length p2, .slice R2 h1.root.length r2x, .int .i64 pl1, .slice L2 lf1.length lc2, .slice Pa2 pa1.length pc2, .slice La2 (m - (i1 + 1)) lac2] 36)
              have HP2 := Lib.hid (hp2.any.new ((New.refl w9).alloc (.cells #[.int .i64 h1.index, .int .u64 h1.first, .int .i64 h1.count, .int .i64 h1.bytes, .slice P2 h1.prev.length p2, .slice R2 h1.root.length r2x, .int .i64 pl1, .slice L2 lf1.length lc2, .slice Pa2 pa1.length pc2, .slice La2 (m - (i1 + 1)) lac2] 36)))
              have HO2 := Lib.hid ((ho2.heads).new ((New.refl w9).alloc (.cells #[.int .i64 h1.index, .int .u64 h1.first, .int .i64 h1.count, .int .i64 h1.bytes, .slice P2 h1.prev.length p2, .slice R2 h1.root.length r2x, .int .i64 pl1, .slice L2 lf1.length lc2, .slice Pa2 pa1.length pc2, .slice La2 (m - (i1 + 1)) lac2] 36)))
              clear hp2 ho2 k9 HM2
              go_upto_region 16 with fail
              generalize w9.alloc (.cells #[.int .i64 h1.index, .int .u64 h1.first, .int .i64 h1.count, .int .i64 h1.bytes, .slice P2 h1.prev.length p2, .slice R2 h1.root.length r2x, .int .i64 pl1, .slice L2 lf1.length lc2, .slice Pa2 pa1.length pc2, .slice La2 (m - (i1 + 1)) lac2] 36) = wr at *
              generalize w9.heap.size = gy at *
              have HX := Lib.hid (kY.blockAt HX.out trivial)
              have HRB := Lib.hid (kY.blockAt HRB.out trivial)
              have HRE := Lib.hid (kY.blockAt HRE.out trivial)
              have HBR := Lib.hid (Row.new HBR.out kY)
              have HBE := Lib.hid (Row.new HBE.out kY)
              have HPP := Lib.hid (HPP.out.new kY)
              have HO := Lib.hid (HO.out.new kY)
              have HKE := Lib.hid (HKE.out.new kY)
              have HY := Lib.hid hY
              clear hY kY
              have y0 : ∀ W, New wr W → W.cell? ⟨gx, 0, none⟩ = _ := fun W hW => cellOf (hW.blockAt HX.out trivial) (k := 0) rfl
              have v0 : ∀ W, New wr W → W.cell? ⟨gy, 0, none⟩ = _ := fun W hW => cellOf (hW.blockAt HY.out trivial) (k := 0) rfl
              have y1 : ∀ W, New wr W → W.cell? ⟨gx, 1, none⟩ = _ := fun W hW => cellOf (hW.blockAt HX.out trivial) (k := 1) rfl
              have v1 : ∀ W, New wr W → W.cell? ⟨gy, 1, none⟩ = _ := fun W hW => cellOf (hW.blockAt HY.out trivial) (k := 1) rfl
              have y2 : ∀ W, New wr W → W.cell? ⟨gx, 2, none⟩ = _ := fun W hW => cellOf (hW.blockAt HX.out trivial) (k := 2) rfl
              have v2 : ∀ W, New wr W → W.cell? ⟨gy, 2, none⟩ = _ := fun W hW => cellOf (hW.blockAt HY.out trivial) (k := 2) rfl
              have y3 : ∀ W, New wr W → W.cell? ⟨gx, 3, none⟩ = _ := fun W hW => cellOf (hW.blockAt HX.out trivial) (k := 3) rfl
              have v3 : ∀ W, New wr W → W.cell? ⟨gy, 3, none⟩ = _ := fun W hW => cellOf (hW.blockAt HY.out trivial) (k := 3) rfl
              have y4 : ∀ W, New wr W → W.cell? ⟨gx, 4, none⟩ = _ := fun W hW => cellOf (hW.blockAt HX.out trivial) (k := 4) rfl
              have v4 : ∀ W, New wr W → W.cell? ⟨gy, 4, none⟩ = _ := fun W hW => cellOf (hW.blockAt HY.out trivial) (k := 4) rfl
              have y5 : ∀ W, New wr W → W.cell? ⟨gx, 5, none⟩ = _ := fun W hW => cellOf (hW.blockAt HX.out trivial) (k := 5) rfl
              have v5 : ∀ W, New wr W → W.cell? ⟨gy, 5, none⟩ = _ := fun W hW => cellOf (hW.blockAt HY.out trivial) (k := 5) rfl
              have y6 : ∀ W, New wr W → W.cell? ⟨gx, 6, none⟩ = _ := fun W hW => cellOf (hW.blockAt HX.out trivial) (k := 6) rfl
              have v6 : ∀ W, New wr W → W.cell? ⟨gy, 6, none⟩ = _ := fun W hW => cellOf (hW.blockAt HY.out trivial) (k := 6) rfl
              have y7 : ∀ W, New wr W → W.cell? ⟨gx, 7, none⟩ = _ := fun W hW => cellOf (hW.blockAt HX.out trivial) (k := 7) rfl
              have v7 : ∀ W, New wr W → W.cell? ⟨gy, 7, none⟩ = _ := fun W hW => cellOf (hW.blockAt HY.out trivial) (k := 7) rfl
              have y8 : ∀ W, New wr W → W.cell? ⟨gx, 8, none⟩ = _ := fun W hW => cellOf (hW.blockAt HX.out trivial) (k := 8) rfl
              have v8 : ∀ W, New wr W → W.cell? ⟨gy, 8, none⟩ = _ := fun W hW => cellOf (hW.blockAt HY.out trivial) (k := 8) rfl
              have y9 : ∀ W, New wr W → W.cell? ⟨gx, 9, none⟩ = _ := fun W hW => cellOf (hW.blockAt HX.out trivial) (k := 9) rfl
              have v9 : ∀ W, New wr W → W.cell? ⟨gy, 9, none⟩ = _ := fun W hW => cellOf (hW.blockAt HY.out trivial) (k := 9) rfl
              have s1 : ∀ W, New wr W → W.cell? ⟨gr, 1, none⟩ = _ := fun W hW => cellOf (hW.blockAt HRB.out trivial) (k := 1) rfl
              have t1 : ∀ W, New wr W → W.cell? ⟨gs, 1, none⟩ = _ := fun W hW => cellOf (hW.blockAt HRE.out trivial) (k := 1) rfl
              have s2 : ∀ W, New wr W → W.cell? ⟨gr, 2, none⟩ = _ := fun W hW => cellOf (hW.blockAt HRB.out trivial) (k := 2) rfl
              have t2 : ∀ W, New wr W → W.cell? ⟨gs, 2, none⟩ = _ := fun W hW => cellOf (hW.blockAt HRE.out trivial) (k := 2) rfl
              have c1 := fun W (hW : New wr W) => run_str (c := c2r) (Row.new HBR.out hW)
              have c2 := fun W (hW : New wr W) => run_str (c := c2s) (Row.new HBE.out hW)
              have HIN := Lib.hid (fun W => fun (hW : New wr W) => in24_any _ P2 R2 L2 Pa2 La2 p2 r2x lc2 pc2 (m - (i1 + 1)) lac2 ⟨h1, pl1, lf1, pa1, he.drop (i1 + 1)⟩ W (HO2.out.new hW) (by omega))
              have HAL := Lib.hid (fun W B d (hW : New wr W) (hB : Heads W (fun _ => True) B (m - (i1 + 1)) (he.drop (i1 + 1))) => alike24_any _ _ _ _ P1 R1 L1 Pa1 A P2 R2 L2 Pa2 B p1 r1 lc1 pc1 c p2 r2x lc2 pc2 d (m - (i1 + 1)) ⟨h1, pl1, lf1, pa1, he.drop (i1 + 1)⟩ W (HPP.out.new hW) (HO.out.heads.new hW) (HP2.out.new hW) hB (by omega))
              dsimp only at HIN HAL
              refine hold_begin (by kernel_rfl) ?_
              have n0 : New wr wr.drew := (New.refl wr).drew
              replace y0 := fun W (hW : New wr.drew W) => y0 W (Keep.new n0 hW)
              replace v0 := fun W (hW : New wr.drew W) => v0 W (Keep.new n0 hW)
              replace y1 := fun W (hW : New wr.drew W) => y1 W (Keep.new n0 hW)
              replace v1 := fun W (hW : New wr.drew W) => v1 W (Keep.new n0 hW)
              replace y2 := fun W (hW : New wr.drew W) => y2 W (Keep.new n0 hW)
              replace v2 := fun W (hW : New wr.drew W) => v2 W (Keep.new n0 hW)
              replace y3 := fun W (hW : New wr.drew W) => y3 W (Keep.new n0 hW)
              replace v3 := fun W (hW : New wr.drew W) => v3 W (Keep.new n0 hW)
              replace y4 := fun W (hW : New wr.drew W) => y4 W (Keep.new n0 hW)
              replace v4 := fun W (hW : New wr.drew W) => v4 W (Keep.new n0 hW)
              replace y5 := fun W (hW : New wr.drew W) => y5 W (Keep.new n0 hW)
              replace v5 := fun W (hW : New wr.drew W) => v5 W (Keep.new n0 hW)
              replace y6 := fun W (hW : New wr.drew W) => y6 W (Keep.new n0 hW)
              replace v6 := fun W (hW : New wr.drew W) => v6 W (Keep.new n0 hW)
              replace y7 := fun W (hW : New wr.drew W) => y7 W (Keep.new n0 hW)
              replace v7 := fun W (hW : New wr.drew W) => v7 W (Keep.new n0 hW)
              replace y8 := fun W (hW : New wr.drew W) => y8 W (Keep.new n0 hW)
              replace v8 := fun W (hW : New wr.drew W) => v8 W (Keep.new n0 hW)
              replace y9 := fun W (hW : New wr.drew W) => y9 W (Keep.new n0 hW)
              replace v9 := fun W (hW : New wr.drew W) => v9 W (Keep.new n0 hW)
              replace s1 := fun W (hW : New wr.drew W) => s1 W (Keep.new n0 hW)
              replace t1 := fun W (hW : New wr.drew W) => t1 W (Keep.new n0 hW)
              replace s2 := fun W (hW : New wr.drew W) => s2 W (Keep.new n0 hW)
              replace t2 := fun W (hW : New wr.drew W) => t2 W (Keep.new n0 hW)
              replace c1 := fun W (hW : New wr.drew W) => c1 W (Keep.new n0 hW)
              replace c2 := fun W (hW : New wr.drew W) => c2 W (Keep.new n0 hW)
              refine hold_read (i := 0) (v := ?_) rfl (by kernel_rfl) (by kernel_rfl) (by kernel_rfl) (fun _ _ _ h => h) rfl ?_ ?_
              rotate_left
              · intro w' hN
                go_simp
                try with_reducible rfl
              simp only [Act.put, List.getElem_toArray, List.getElem_cons_zero, List.setIfInBounds_toArray, List.set_cons_zero, List.set_cons_succ]
              refine hold_read (i := 1) (v := ?_) rfl (by kernel_rfl) (by kernel_rfl) (by kernel_rfl) (fun _ _ _ h => h) rfl ?_ ?_
              rotate_left
              · intro w' hN
                go_simp
                try with_reducible rfl
              simp only [Act.put, List.getElem_toArray, List.getElem_cons_succ, List.getElem_cons_zero, List.setIfInBounds_toArray, List.set_cons_zero, List.set_cons_succ]
              refine hold_read (i := 2) (v := ?_) rfl (by kernel_rfl) (by kernel_rfl) (by kernel_rfl) (fun _ _ _ h => h) rfl ?_ ?_
              rotate_left
              · intro w' hN
                go_simp
                try with_reducible rfl
              simp only [Act.put, List.getElem_toArray, List.getElem_cons_succ, List.getElem_cons_zero, List.setIfInBounds_toArray, List.set_cons_zero, List.set_cons_succ]
              refine hold_read (i := 3) (v := ?_) rfl (by kernel_rfl) (by kernel_rfl) (by kernel_rfl) (fun _ _ _ h => h) rfl ?_ ?_
              rotate_left
              · intro w' hN
                go_simp
                try with_reducible rfl
              simp only [Act.put, List.getElem_toArray, List.getElem_cons_succ, List.getElem_cons_zero, List.setIfInBounds_toArray, List.set_cons_zero, List.set_cons_succ]
              refine hold_read (i := 4) (v := ?_) rfl (by kernel_rfl) (by kernel_rfl) (by kernel_rfl) (fun _ _ _ h => h) rfl ?_ ?_
              rotate_left
              · intro w' hN
                go_simp
                try with_reducible rfl
              simp only [Act.put, List.getElem_toArray, List.getElem_cons_succ, List.getElem_cons_zero, List.setIfInBounds_toArray, List.set_cons_zero, List.set_cons_succ]
              refine hold_read (i := 5) (v := ?_) rfl (by kernel_rfl) (by kernel_rfl) (by kernel_rfl) (fun _ _ _ h => h) rfl ?_ ?_
              rotate_left
              · intro w' hN
                go_simp
                try with_reducible rfl
              simp only [Act.put, List.getElem_toArray, List.getElem_cons_succ, List.getElem_cons_zero, List.setIfInBounds_toArray, List.set_cons_zero, List.set_cons_succ]
              refine hold_read (i := 6) (v := ?_) rfl (by kernel_rfl) (by kernel_rfl) (by kernel_rfl) (fun _ _ _ h => h) rfl ?_ ?_
              rotate_left
              · intro w' hN
                go_simp
                try with_reducible rfl
              simp only [Act.put, List.getElem_toArray, List.getElem_cons_succ, List.getElem_cons_zero, List.setIfInBounds_toArray, List.set_cons_zero, List.set_cons_succ]
              refine hold_read (i := 7) (v := ?_) rfl (by kernel_rfl) (by kernel_rfl) (by kernel_rfl) (fun _ _ _ h => h) rfl ?_ ?_
              rotate_left
              · intro w' hN
                go_simp
                try with_reducible rfl
              simp only [Act.put, List.getElem_toArray, List.getElem_cons_succ, List.getElem_cons_zero, List.setIfInBounds_toArray, List.set_cons_zero, List.set_cons_succ]
              refine hold_read (i := 8) (v := ?_) rfl (by kernel_rfl) (by kernel_rfl) (by kernel_rfl) (fun _ _ _ h => h) rfl ?_ ?_
              rotate_left
              · intro w' hN
                go_simp
                try with_reducible rfl
              simp only [Act.put, List.getElem_toArray, List.getElem_cons_succ, List.getElem_cons_zero, List.setIfInBounds_toArray, List.set_cons_zero, List.set_cons_succ]
              refine hold_read (i := 9) (v := ?_) rfl (by kernel_rfl) (by kernel_rfl) (by kernel_rfl) (fun _ _ _ h => h) rfl ?_ ?_
              rotate_left
              · intro w' hN
                go_simp
                try with_reducible rfl
              simp only [Act.put, List.getElem_toArray, List.getElem_cons_succ, List.getElem_cons_zero, List.setIfInBounds_toArray, List.set_cons_zero, List.set_cons_succ]
              refine hold_read (i := 10) (v := ?_) rfl (by kernel_rfl) (by kernel_rfl) (by kernel_rfl) (fun _ _ _ h => h) rfl ?_ ?_
              rotate_left
              · intro w' hN
                go_simp
                try with_reducible rfl
              simp only [Act.put, List.getElem_toArray, List.getElem_cons_succ, List.getElem_cons_zero, List.setIfInBounds_toArray, List.set_cons_zero, List.set_cons_succ]
              refine hold_read (i := 11) (v := ?_) rfl (by kernel_rfl) (by kernel_rfl) (by kernel_rfl) (fun _ _ _ h => h) rfl ?_ ?_
              rotate_left
              · intro w' hN
                go_simp
                try with_reducible rfl
              simp only [Act.put, List.getElem_toArray, List.getElem_cons_succ, List.getElem_cons_zero, List.setIfInBounds_toArray, List.set_cons_zero, List.set_cons_succ]
              refine hold_read (i := 12) (v := ?_) rfl (by kernel_rfl) (by kernel_rfl) (by kernel_rfl) (fun _ _ _ h => h) rfl ?_ ?_
              rotate_left
              · intro w' hN
                go_simp
                try with_reducible rfl
              simp only [Act.put, List.getElem_toArray, List.getElem_cons_succ, List.getElem_cons_zero, List.setIfInBounds_toArray, List.set_cons_zero, List.set_cons_succ]
              refine hold_read (i := 13) (v := ?_) rfl (by kernel_rfl) (by kernel_rfl) (by kernel_rfl) (fun _ _ _ h => h) rfl ?_ ?_
              rotate_left
              · intro w' hN
                go_simp
                try with_reducible rfl
              simp only [Act.put, List.getElem_toArray, List.getElem_cons_succ, List.getElem_cons_zero, List.setIfInBounds_toArray, List.set_cons_zero, List.set_cons_succ]
              refine hold_read (i := 14) (v := ?_) rfl (by kernel_rfl) (by kernel_rfl) (by kernel_rfl) (fun _ _ _ h => h) rfl ?_ ?_
              rotate_left
              · intro w' hN
                go_simp
                try with_reducible rfl
              simp only [Act.put, List.getElem_toArray, List.getElem_cons_succ, List.getElem_cons_zero, List.setIfInBounds_toArray, List.set_cons_zero, List.set_cons_succ]
              refine hold_read (i := 15) (v := ?_) rfl (by kernel_rfl) (by kernel_rfl) (by kernel_rfl) (fun _ _ _ h => h) rfl ?_ ?_
              rotate_left
              · intro w' hN
                go_simp
                try with_reducible rfl
              simp only [Act.put, List.getElem_toArray, List.getElem_cons_succ, List.getElem_cons_zero, List.setIfInBounds_toArray, List.set_cons_zero, List.set_cons_succ]
              refine hold_read (i := 16) (v := ?_) rfl (by kernel_rfl) (by kernel_rfl) (by kernel_rfl) (fun _ _ _ h => h) rfl ?_ ?_
              rotate_left
              · intro w' hN
                go_simp
                try with_reducible rfl
              simp only [Act.put, List.getElem_toArray, List.getElem_cons_succ, List.getElem_cons_zero, List.setIfInBounds_toArray, List.set_cons_zero, List.set_cons_succ]
              refine hold_read (i := 17) (v := ?_) rfl (by kernel_rfl) (by kernel_rfl) (by kernel_rfl) (fun _ _ _ h => h) rfl ?_ ?_
              rotate_left
              · intro w' hN
                go_simp
                try with_reducible rfl
              simp only [Act.put, List.getElem_toArray, List.getElem_cons_succ, List.getElem_cons_zero, List.setIfInBounds_toArray, List.set_cons_zero, List.set_cons_succ]
              refine hold_read (i := 18) (v := ?_) rfl (by kernel_rfl) (by kernel_rfl) (by kernel_rfl) (fun _ _ _ h => h) rfl ?_ ?_
              rotate_left
              · intro w' hN
                go_simp
                try with_reducible rfl
              simp only [Act.put, List.getElem_toArray, List.getElem_cons_succ, List.getElem_cons_zero, List.setIfInBounds_toArray, List.set_cons_zero, List.set_cons_succ]
              refine hold_read (i := 19) (v := ?_) rfl (by kernel_rfl) (by kernel_rfl) (by kernel_rfl) (fun _ _ _ h => h) rfl ?_ ?_
              rotate_left
              · intro w' hN
                go_simp
                try with_reducible rfl
              simp only [Act.put, List.getElem_toArray, List.getElem_cons_succ, List.getElem_cons_zero, List.setIfInBounds_toArray, List.set_cons_zero, List.set_cons_succ]
              refine hold_read (i := 20) (v := ?_) rfl (by kernel_rfl) (by kernel_rfl) (by kernel_rfl) (fun _ _ _ h => h) rfl ?_ ?_
              rotate_left
              · intro w' hN
                go_simp
                try with_reducible rfl
              simp only [Act.put, List.getElem_toArray, List.getElem_cons_succ, List.getElem_cons_zero, List.setIfInBounds_toArray, List.set_cons_zero, List.set_cons_succ]
              refine hold_read (i := 21) (v := ?_) rfl (by kernel_rfl) (by kernel_rfl) (by kernel_rfl) (fun _ _ _ h => h) rfl ?_ ?_
              rotate_left
              · intro w' hN
                go_simp
                try with_reducible rfl
              simp only [Act.put, List.getElem_toArray, List.getElem_cons_succ, List.getElem_cons_zero, List.setIfInBounds_toArray, List.set_cons_zero, List.set_cons_succ]
              refine hold_read (i := 22) (v := ?_) rfl (by kernel_rfl) (by kernel_rfl) (by kernel_rfl) (fun _ _ _ h => h) rfl ?_ ?_
              rotate_left
              · intro w' hN
                go_simp
                try with_reducible rfl
              simp only [Act.put, List.getElem_toArray, List.getElem_cons_succ, List.getElem_cons_zero, List.setIfInBounds_toArray, List.set_cons_zero, List.set_cons_succ]
              refine hold_read (i := 23) (v := ?_) rfl (by kernel_rfl) (by kernel_rfl) (by kernel_rfl) (fun _ _ _ h => h) rfl ?_ ?_
              rotate_left
              · intro w' hN
                go_simp
                try with_reducible rfl
              simp only [Act.put, List.getElem_toArray, List.getElem_cons_succ, List.getElem_cons_zero, List.setIfInBounds_toArray, List.set_cons_zero, List.set_cons_succ]
              refine hold_read (i := 24) (v := ?_) rfl (by kernel_rfl) (by kernel_rfl) (by kernel_rfl) (fun _ _ _ h => h) rfl ?_ ?_
              rotate_left
              · intro w' hN
                go_simp
                try with_reducible rfl
              simp only [Act.put, List.getElem_toArray, List.getElem_cons_succ, List.getElem_cons_zero, List.setIfInBounds_toArray, List.set_cons_zero, List.set_cons_succ]
              refine hold_read (i := 25) (v := ?_) rfl (by kernel_rfl) (by kernel_rfl) (by kernel_rfl) (fun _ _ _ h => h) rfl ?_ ?_
              rotate_left
              · intro w' hN
                go_simp
                try with_reducible rfl
              simp only [Act.put, List.getElem_toArray, List.getElem_cons_succ, List.getElem_cons_zero, List.setIfInBounds_toArray, List.set_cons_zero, List.set_cons_succ]
              refine hold_read (i := 26) (v := ?_) rfl (by kernel_rfl) (by kernel_rfl) (by kernel_rfl) (fun _ _ _ h => h) rfl ?_ ?_
              rotate_left
              · intro w' hN
                go_simp
                try with_reducible rfl
              simp only [Act.put, List.getElem_toArray, List.getElem_cons_succ, List.getElem_cons_zero, List.setIfInBounds_toArray, List.set_cons_zero, List.set_cons_succ]
              refine hold_step (i := 27) (by kernel_rfl) rfl rfl (fun K hK => ?_)
              go_simp
              refine (HIN.out _ n0).mono ?_
              rintro e wa ⟨⟨B9, d9, rfl, oB⟩, ka⟩; have hB9 := oB.heads.imp (E := fun _ => True) fun _ _ _ => trivial
              go_wp2_with fail
              refine hK.out _ _ ka ?_
              clear hK K
              try simp only [Act.put, List.getElem_toArray, List.getElem_cons_succ, List.getElem_cons_zero, List.setIfInBounds_toArray, List.set_cons_zero, List.set_cons_succ]
              replace n0 := Keep.new n0 ka
              replace y0 := fun W (hW : New wa W) => y0 W (Keep.new ka hW)
              replace v0 := fun W (hW : New wa W) => v0 W (Keep.new ka hW)
              replace y1 := fun W (hW : New wa W) => y1 W (Keep.new ka hW)
              replace v1 := fun W (hW : New wa W) => v1 W (Keep.new ka hW)
              replace y2 := fun W (hW : New wa W) => y2 W (Keep.new ka hW)
              replace v2 := fun W (hW : New wa W) => v2 W (Keep.new ka hW)
              replace y3 := fun W (hW : New wa W) => y3 W (Keep.new ka hW)
              replace v3 := fun W (hW : New wa W) => v3 W (Keep.new ka hW)
              replace y4 := fun W (hW : New wa W) => y4 W (Keep.new ka hW)
              replace v4 := fun W (hW : New wa W) => v4 W (Keep.new ka hW)
              replace y5 := fun W (hW : New wa W) => y5 W (Keep.new ka hW)
              replace v5 := fun W (hW : New wa W) => v5 W (Keep.new ka hW)
              replace y6 := fun W (hW : New wa W) => y6 W (Keep.new ka hW)
              replace v6 := fun W (hW : New wa W) => v6 W (Keep.new ka hW)
              replace y7 := fun W (hW : New wa W) => y7 W (Keep.new ka hW)
              replace v7 := fun W (hW : New wa W) => v7 W (Keep.new ka hW)
              replace y8 := fun W (hW : New wa W) => y8 W (Keep.new ka hW)
              replace v8 := fun W (hW : New wa W) => v8 W (Keep.new ka hW)
              replace y9 := fun W (hW : New wa W) => y9 W (Keep.new ka hW)
              replace v9 := fun W (hW : New wa W) => v9 W (Keep.new ka hW)
              replace s1 := fun W (hW : New wa W) => s1 W (Keep.new ka hW)
              replace t1 := fun W (hW : New wa W) => t1 W (Keep.new ka hW)
              replace s2 := fun W (hW : New wa W) => s2 W (Keep.new ka hW)
              replace t2 := fun W (hW : New wa W) => t2 W (Keep.new ka hW)
              replace c1 := fun W (hW : New wa W) => c1 W (Keep.new ka hW)
              replace c2 := fun W (hW : New wa W) => c2 W (Keep.new ka hW)
              refine hold_step (i := 28) (by kernel_rfl) rfl rfl (fun K hK => ?_)
              go_simp
              refine (HAL.out _ B9 d9 n0 hB9).mono ?_
              rintro e wb ⟨rfl, kb⟩
              go_wp2_with fail
              refine hK.out _ _ kb ?_
              clear hK K
              try simp only [Act.put, List.getElem_toArray, List.getElem_cons_succ, List.getElem_cons_zero, List.setIfInBounds_toArray, List.set_cons_zero, List.set_cons_succ]
              replace n0 := Keep.new n0 kb
              replace y0 := fun W (hW : New wb W) => y0 W (Keep.new kb hW)
              replace v0 := fun W (hW : New wb W) => v0 W (Keep.new kb hW)
              replace y1 := fun W (hW : New wb W) => y1 W (Keep.new kb hW)
              replace v1 := fun W (hW : New wb W) => v1 W (Keep.new kb hW)
              replace y2 := fun W (hW : New wb W) => y2 W (Keep.new kb hW)
              replace v2 := fun W (hW : New wb W) => v2 W (Keep.new kb hW)
              replace y3 := fun W (hW : New wb W) => y3 W (Keep.new kb hW)
              replace v3 := fun W (hW : New wb W) => v3 W (Keep.new kb hW)
              replace y4 := fun W (hW : New wb W) => y4 W (Keep.new kb hW)
              replace v4 := fun W (hW : New wb W) => v4 W (Keep.new kb hW)
              replace y5 := fun W (hW : New wb W) => y5 W (Keep.new kb hW)
              replace v5 := fun W (hW : New wb W) => v5 W (Keep.new kb hW)
              replace y6 := fun W (hW : New wb W) => y6 W (Keep.new kb hW)
              replace v6 := fun W (hW : New wb W) => v6 W (Keep.new kb hW)
              replace y7 := fun W (hW : New wb W) => y7 W (Keep.new kb hW)
              replace v7 := fun W (hW : New wb W) => v7 W (Keep.new kb hW)
              replace y8 := fun W (hW : New wb W) => y8 W (Keep.new kb hW)
              replace v8 := fun W (hW : New wb W) => v8 W (Keep.new kb hW)
              replace y9 := fun W (hW : New wb W) => y9 W (Keep.new kb hW)
              replace v9 := fun W (hW : New wb W) => v9 W (Keep.new kb hW)
              replace s1 := fun W (hW : New wb W) => s1 W (Keep.new kb hW)
              replace t1 := fun W (hW : New wb W) => t1 W (Keep.new kb hW)
              replace s2 := fun W (hW : New wb W) => s2 W (Keep.new kb hW)
              replace t2 := fun W (hW : New wb W) => t2 W (Keep.new kb hW)
              replace c1 := fun W (hW : New wb W) => c1 W (Keep.new kb hW)
              replace c2 := fun W (hW : New wb W) => c2 W (Keep.new kb hW)
              refine hold_read (i := 29) (v := ?_) rfl (by kernel_rfl) (by kernel_rfl) (by kernel_rfl) (fun _ _ _ h => h) rfl ?_ ?_
              rotate_left
              · intro w' hN
                go_simp
                try with_reducible rfl
              simp only [Act.put, List.getElem_toArray, List.getElem_cons_succ, List.getElem_cons_zero, List.setIfInBounds_toArray, List.set_cons_zero, List.set_cons_succ]
              refine hold_read (i := 30) (v := ?_) rfl (by kernel_rfl) (by kernel_rfl) (by kernel_rfl) (fun _ _ _ h => h) rfl ?_ ?_
              rotate_left
              · intro w' hN
                go_simp
                try with_reducible rfl
              simp only [Act.put, List.getElem_toArray, List.getElem_cons_succ, List.getElem_cons_zero, List.setIfInBounds_toArray, List.set_cons_zero, List.set_cons_succ]
              refine hold_step (i := 31) (by kernel_rfl) rfl rfl (fun K hK => ?_)
              go_simp
              refine (HKN.out _).mono ?_
              rintro e wc ⟨rfl, kc⟩
              go_wp2_with fail
              refine hK.out _ _ kc ?_
              clear hK K
              try simp only [Act.put, List.getElem_toArray, List.getElem_cons_succ, List.getElem_cons_zero, List.setIfInBounds_toArray, List.set_cons_zero, List.set_cons_succ]
              replace n0 := Keep.new n0 kc
              replace y0 := fun W (hW : New wc W) => y0 W (Keep.new kc hW)
              replace v0 := fun W (hW : New wc W) => v0 W (Keep.new kc hW)
              replace y1 := fun W (hW : New wc W) => y1 W (Keep.new kc hW)
              replace v1 := fun W (hW : New wc W) => v1 W (Keep.new kc hW)
              replace y2 := fun W (hW : New wc W) => y2 W (Keep.new kc hW)
              replace v2 := fun W (hW : New wc W) => v2 W (Keep.new kc hW)
              replace y3 := fun W (hW : New wc W) => y3 W (Keep.new kc hW)
              replace v3 := fun W (hW : New wc W) => v3 W (Keep.new kc hW)
              replace y4 := fun W (hW : New wc W) => y4 W (Keep.new kc hW)
              replace v4 := fun W (hW : New wc W) => v4 W (Keep.new kc hW)
              replace y5 := fun W (hW : New wc W) => y5 W (Keep.new kc hW)
              replace v5 := fun W (hW : New wc W) => v5 W (Keep.new kc hW)
              replace y6 := fun W (hW : New wc W) => y6 W (Keep.new kc hW)
              replace v6 := fun W (hW : New wc W) => v6 W (Keep.new kc hW)
              replace y7 := fun W (hW : New wc W) => y7 W (Keep.new kc hW)
              replace v7 := fun W (hW : New wc W) => v7 W (Keep.new kc hW)
              replace y8 := fun W (hW : New wc W) => y8 W (Keep.new kc hW)
              replace v8 := fun W (hW : New wc W) => v8 W (Keep.new kc hW)
              replace y9 := fun W (hW : New wc W) => y9 W (Keep.new kc hW)
              replace v9 := fun W (hW : New wc W) => v9 W (Keep.new kc hW)
              replace s1 := fun W (hW : New wc W) => s1 W (Keep.new kc hW)
              replace t1 := fun W (hW : New wc W) => t1 W (Keep.new kc hW)
              replace s2 := fun W (hW : New wc W) => s2 W (Keep.new kc hW)
              replace t2 := fun W (hW : New wc W) => t2 W (Keep.new kc hW)
              replace c1 := fun W (hW : New wc W) => c1 W (Keep.new kc hW)
              replace c2 := fun W (hW : New wc W) => c2 W (Keep.new kc hW)
              refine hold_read (i := 32) (v := ?_) rfl (by kernel_rfl) (by kernel_rfl) (by kernel_rfl) (fun _ _ _ h => h) rfl ?_ ?_
              rotate_left
              · intro w' hN
                go_simp
                try with_reducible rfl
              simp only [Act.put, List.getElem_toArray, List.getElem_cons_succ, List.getElem_cons_zero, List.setIfInBounds_toArray, List.set_cons_zero, List.set_cons_succ]
              refine hold_read (i := 33) (v := ?_) rfl (by kernel_rfl) (by kernel_rfl) (by kernel_rfl) (fun _ _ _ h => h) rfl ?_ ?_
              rotate_left
              · intro w' hN
                go_simp
                try with_reducible rfl
              simp only [Act.put, List.getElem_toArray, List.getElem_cons_succ, List.getElem_cons_zero, List.setIfInBounds_toArray, List.set_cons_zero, List.set_cons_succ]
              refine wpAnyH_done (by kernel_rfl) ?_ _
              go_wp2_with fail
              go_ret
              exact ⟨rfl, HK1.out.new (HKE.out.new n0)⟩
    · have hmn := chain_make_out id24 l (n := n) (by omega) (.inr (by omega) : (i : Int) + 1 < 1 ∨ (chainTo id24 l n).next ≤ (i : Int) + 1)
      have hend := chain_end id24 l hn0
      have hhd := chain_head_at id24 l (n - 1) k (by omega)
      have hlast : ∃ x, (chainTo id24 l k).heads[n - 1]? = some x ∧ x.first + x.count = (chainTo id24 l n).next ∧ 0 ≤ x.count := ⟨_, hhd, hend, Int.natCast_nonneg _⟩
      obtain ⟨x, hx1, hx2, hx3⟩ := hlast
      rw [← hct1] at hmn
      clear hct1 hct2 hnl hend hhd
      generalize (chainTo id24 l n).next = nxn at *
      generalize chainTo id24 l k = s at *
      generalize id24 = idv at *
      obtain ⟨im, he, al, pv, nx⟩ := s
      dsimp only at hil hhl hlt hi hrl hq1 hmn hx1 hr36 HWI hmono
      have HMN := Lib.hid hmn
      have HIL := Lib.hid hil
      have HHL := Lib.hid hhl
      have HX1 := Lib.hid hx1
      have hw1 : IntKind.i64.wrap ((i : Int) + 1) = (i : Int) + 1 := IntWalk.i64_in _ (by omega)
      have hw3 : IntKind.u64.wrap ((i : Int) + 1) = (i : Int) + 1 := by rw [IntKind.wrap_u64]; omega
      have hw5 : IntKind.i64.wrap ((al.length : Int) - 1) = (al.length : Int) - 1 := IntWalk.i64_in _ (by omega)
      have hw6 : IntKind.i64.wrap ((n : Int) - 1) = ((n - 1 : Nat) : Int) := by rw [IntWalk.i64_in _ (by omega)]; omega
      have hlz : ((al.length : Int) == 0) = false := by rw [beq_eq_false_iff_ne]; omega
      have hnxn : nxn ≤ 40 := by omega
      clear hmn hil hhl hx1 hrl hq1 hlt
      go_enter Tryz.func3, Tryz.ntmps3
      go_wp2_with fail
      refine HCH.out.mono ?_
      rintro e w1 ⟨⟨O, oc, H, hc, R, rc, rfl, ht⟩, k1⟩
      dsimp only at ht ⊢
      rw [HIL.out, HHL.out] at ht ⊢
      have HI := Lib.hid (ht.imgs.imgs.imp (E := fun b => b < w1.heap.size) fun b hb _ => hb)
      have HH := Lib.hid (ht.heads.heads.imp (E := fun b => b < w1.heap.size) fun b hb _ => hb)
      have HK1 := Lib.hid k1
      have hoc := ht.imgs.cap
      have hoc2 : (n : Int) ≤ oc := by omega
      have hhc := ht.heads.cap
      have hhc2 : (n : Int) ≤ hc := by omega
      clear ht k1 HCH
      generalize al.length = rl at *
      go_wp2_with fail
      refine (HWI.out w1).mono ?_
      rintro e w' ⟨rfl, rfl⟩
      go_wp2_with fail
      refine (HWJ.out w1).mono ?_
      rintro e w' ⟨rfl, rfl⟩
      go_wp2_with fail
      have HM1 := make_any _ O n oc (im.take n) ((i : Int) + 1) w1 (imgs_take HI.out hnk) (by omega)
      rw [HMN.out] at HM1
      refine HM1.mono ?_
      rintro e w2 ⟨⟨P1, R1, L1, Pa1, La1, p1, r1, lc1, pc1, lac1, rfl, -, -⟩, k2⟩
      dsimp only [noProof, List.length_nil]
      have kX := k2.alloc (.cells #[.int .i64 0, .int .u64 0, .int .i64 0, .int .i64 0, .slice P1 0 p1, .slice R1 0 r1, .int .i64 0, .slice L1 0 lc1, .slice Pa1 0 pc1, .slice La1 0 lac1] 36)
      have hnl1 : n - 1 < he.length := by have := HHL.out; omega
      have hxe : he[n - 1] = x := by have h := HX1.out; rw [List.getElem?_eq_getElem hnl1] at h; injection h
      obtain ⟨b5, off5, Q1, q1, Q2, q2, rfl, _, a0, a1, a2, a3, a4, a5, l1, l2, b1, b2, g0, g1⟩ := (HH.out.new kX).at_ hnl1
      rw [hxe] at a1 a2 g0 g1
      have HK2 := Lib.hid kX
      clear b1 b2 l1 l2 HM1
      go_upto_region 8 with fail
      generalize w2.alloc (.cells #[.int .i64 0, .int .u64 0, .int .i64 0, .int .i64 0, .slice P1 0 p1, .slice R1 0 r1, .int .i64 0, .slice L1 0 lc1, .slice Pa1 0 pc1, .slice La1 0 lac1] 36) = w3 at *
      have e1 : ∀ W, New w3 W → W.cell? ⟨b5, off5 + (n - 1) * 6 + 1, none⟩ = some (.int .u64 x.first) := fun W h => h.cell_some a1 trivial
      have e2 : ∀ W, New w3 W → W.cell? ⟨b5, off5 + (n - 1) * 6 + 2, none⟩ = some (.int .i64 x.count) := fun W h => h.cell_some a2 trivial
      have hw7 : IntKind.u64.wrap x.count = x.count := by rw [IntKind.wrap_u64]; omega
      have hw8 : IntKind.u64.wrap (x.first + x.count) = x.first + x.count := by rw [IntKind.wrap_u64]; omega
      have hle : x.first + x.count ≤ (i : Int) + 1 := by omega
      have hq2 : n - 1 < k := by omega
      clear a0 a1 a2 a3 a4 a5 g0 g1 hx2 hin
      refine hold_begin (by kernel_rfl) ?_
      have n0 : New w3 w3.drew := (New.refl w3).drew
      replace e1 := fun W (hW : New w3.drew W) => e1 W (Keep.new n0 hW)
      replace e2 := fun W (hW : New w3.drew W) => e2 W (Keep.new n0 hW)
      refine hold_read (i := 0) (v := ?_) rfl (by kernel_rfl) (by kernel_rfl) (by kernel_rfl) (fun _ _ _ h => h) rfl ?_ ?_
      rotate_left
      · intro w' hN
        go_simp
        try with_reducible rfl
      simp only [Act.put, List.getElem_toArray, List.getElem_cons_zero, List.setIfInBounds_toArray, List.set_cons_zero, List.set_cons_succ]
      refine hold_read (i := 1) (v := ?_) rfl (by kernel_rfl) (by kernel_rfl) (by kernel_rfl) (fun _ _ _ h => h) rfl ?_ ?_
      rotate_left
      · intro w' hN
        go_simp
        try with_reducible rfl
      simp only [Act.put, List.getElem_toArray, List.getElem_cons_succ, List.getElem_cons_zero, List.setIfInBounds_toArray, List.set_cons_zero, List.set_cons_succ]
      refine hold_read (i := 2) (v := ?_) rfl (by kernel_rfl) (by kernel_rfl) (by kernel_rfl) (fun _ _ _ h => h) rfl ?_ ?_
      rotate_left
      · intro w' hN
        go_simp
        try with_reducible rfl
      simp only [Act.put, List.getElem_toArray, List.getElem_cons_succ, List.getElem_cons_zero, List.setIfInBounds_toArray, List.set_cons_zero, List.set_cons_succ]
      refine hold_read (i := 3) (v := ?_) rfl (by kernel_rfl) (by kernel_rfl) (by kernel_rfl) (fun _ _ _ h => h) rfl ?_ ?_
      rotate_left
      · intro w' hN
        go_simp
        try with_reducible rfl
      simp only [Act.put, List.getElem_toArray, List.getElem_cons_succ, List.getElem_cons_zero, List.setIfInBounds_toArray, List.set_cons_zero, List.set_cons_succ]
      refine hold_read (i := 4) (v := ?_) rfl (by kernel_rfl) (by kernel_rfl) (by kernel_rfl) (fun _ _ _ h => h) rfl ?_ ?_
      rotate_left
      · intro w' hN
        go_simp
        try with_reducible rfl
      simp only [Act.put, List.getElem_toArray, List.getElem_cons_succ, List.getElem_cons_zero, List.setIfInBounds_toArray, List.set_cons_zero, List.set_cons_succ]
      refine hold_read (i := 5) (v := ?_) rfl (by kernel_rfl) (by kernel_rfl) (by kernel_rfl) (fun _ _ _ h => h) rfl ?_ ?_
      rotate_left
      · intro w' hN
        go_simp
        try with_reducible rfl
      simp only [Act.put, List.getElem_toArray, List.getElem_cons_succ, List.getElem_cons_zero, List.setIfInBounds_toArray, List.set_cons_zero, List.set_cons_succ]
      refine hold_read (i := 6) (v := ?_) rfl (by kernel_rfl) (by kernel_rfl) (by kernel_rfl) (fun _ _ _ h => h) rfl ?_ ?_
      rotate_left
      · intro w' hN
        go_simp
        try with_reducible rfl
      simp only [Act.put, List.getElem_toArray, List.getElem_cons_succ, List.getElem_cons_zero, List.setIfInBounds_toArray, List.set_cons_zero, List.set_cons_succ]
      refine hold_read (i := 7) (v := ?_) rfl (by kernel_rfl) (by kernel_rfl) (by kernel_rfl) (fun _ _ _ h => h) rfl ?_ ?_
      rotate_left
      · intro w' hN
        go_simp
        try with_reducible rfl
      simp only [Act.put, List.getElem_toArray, List.getElem_cons_succ, List.getElem_cons_zero, List.setIfInBounds_toArray, List.set_cons_zero, List.set_cons_succ]
      refine hold_read (i := 8) (v := ?_) rfl (by kernel_rfl) (by kernel_rfl) (by kernel_rfl) (fun _ _ _ h => h) rfl ?_ ?_
      rotate_left
      · intro w' hN
        go_simp
        try with_reducible rfl
      simp only [Act.put, List.getElem_toArray, List.getElem_cons_succ, List.getElem_cons_zero, List.setIfInBounds_toArray, List.set_cons_zero, List.set_cons_succ]
      refine hold_read (i := 9) (v := ?_) rfl (by kernel_rfl) (by kernel_rfl) (by kernel_rfl) (fun _ _ _ h => h) rfl ?_ ?_
      rotate_left
      · intro w' hN
        go_simp
        try with_reducible rfl
      simp only [Act.put, List.getElem_toArray, List.getElem_cons_succ, List.getElem_cons_zero, List.setIfInBounds_toArray, List.set_cons_zero, List.set_cons_succ]
      refine hold_read (i := 10) (v := ?_) rfl (by kernel_rfl) (by kernel_rfl) (by kernel_rfl) (fun _ _ _ h => h) rfl ?_ ?_
      rotate_left
      · intro w' hN
        go_simp
        try with_reducible rfl
      simp only [Act.put, List.getElem_toArray, List.getElem_cons_succ, List.getElem_cons_zero, List.setIfInBounds_toArray, List.set_cons_zero, List.set_cons_succ]
      refine hold_read (i := 11) (v := ?_) rfl (by kernel_rfl) (by kernel_rfl) (by kernel_rfl) (fun _ _ _ h => h) rfl ?_ ?_
      rotate_left
      · intro w' hN
        go_simp
        try with_reducible rfl
      simp only [Act.put, List.getElem_toArray, List.getElem_cons_succ, List.getElem_cons_zero, List.setIfInBounds_toArray, List.set_cons_zero, List.set_cons_succ]
      refine hold_read (i := 12) (v := ?_) rfl (by kernel_rfl) (by kernel_rfl) (by kernel_rfl) (fun _ _ _ h => h) rfl ?_ ?_
      rotate_left
      · intro w' hN
        go_simp
        try with_reducible rfl
      simp only [Act.put, List.getElem_toArray, List.getElem_cons_succ, List.getElem_cons_zero, List.setIfInBounds_toArray, List.set_cons_zero, List.set_cons_succ]
      refine hold_read (i := 13) (v := ?_) rfl (by kernel_rfl) (by kernel_rfl) (by kernel_rfl) (fun _ _ _ h => h) rfl ?_ ?_
      rotate_left
      · intro w' hN
        go_simp
        try with_reducible rfl
      simp only [Act.put, List.getElem_toArray, List.getElem_cons_succ, List.getElem_cons_zero, List.setIfInBounds_toArray, List.set_cons_zero, List.set_cons_succ]
      refine hold_read (i := 14) (v := ?_) rfl (by kernel_rfl) (by kernel_rfl) (by kernel_rfl) (fun _ _ _ h => h) rfl ?_ ?_
      rotate_left
      · intro w' hN
        go_simp
        try with_reducible rfl
      simp only [Act.put, List.getElem_toArray, List.getElem_cons_succ, List.getElem_cons_zero, List.setIfInBounds_toArray, List.set_cons_zero, List.set_cons_succ]
      refine hold_read (i := 15) (v := ?_) rfl (by kernel_rfl) (by kernel_rfl) (by kernel_rfl) (fun _ _ _ h => h) rfl ?_ ?_
      rotate_left
      · intro w' hN
        go_simp
        try with_reducible rfl
      simp only [Act.put, List.getElem_toArray, List.getElem_cons_succ, List.getElem_cons_zero, List.setIfInBounds_toArray, List.set_cons_zero, List.set_cons_succ]
      refine hold_read (i := 16) (v := ?_) rfl (by kernel_rfl) (by kernel_rfl) (by kernel_rfl) (fun _ _ _ h => h) rfl ?_ ?_
      rotate_left
      · intro w' hN
        go_simp
        try with_reducible rfl
      simp only [Act.put, List.getElem_toArray, List.getElem_cons_succ, List.getElem_cons_zero, List.setIfInBounds_toArray, List.set_cons_zero, List.set_cons_succ]
      refine hold_read (i := 17) (v := ?_) rfl (by kernel_rfl) (by kernel_rfl) (by kernel_rfl) (fun _ _ _ h => h) rfl ?_ ?_
      rotate_left
      · intro w' hN
        go_simp
        try with_reducible rfl
      simp only [Act.put, List.getElem_toArray, List.getElem_cons_succ, List.getElem_cons_zero, List.setIfInBounds_toArray, List.set_cons_zero, List.set_cons_succ]
      refine hold_read (i := 18) (v := ?_) rfl (by kernel_rfl) (by kernel_rfl) (by kernel_rfl) (fun _ _ _ h => h) rfl ?_ ?_
      rotate_left
      · intro w' hN
        go_simp
        try with_reducible rfl
      simp only [Act.put, List.getElem_toArray, List.getElem_cons_succ, List.getElem_cons_zero, List.setIfInBounds_toArray, List.set_cons_zero, List.set_cons_succ]
      refine hold_read (i := 19) (v := ?_) rfl (by kernel_rfl) (by kernel_rfl) (by kernel_rfl) (fun _ _ _ h => h) rfl ?_ ?_
      rotate_left
      · intro w' hN
        go_simp
        try with_reducible rfl
      simp only [Act.put, List.getElem_toArray, List.getElem_cons_succ, List.getElem_cons_zero, List.setIfInBounds_toArray, List.set_cons_zero, List.set_cons_succ]
      refine hold_read (i := 20) (v := ?_) rfl (by kernel_rfl) (by kernel_rfl) (by kernel_rfl) (fun _ _ _ h => h) rfl ?_ ?_
      rotate_left
      · intro w' hN
        go_simp
        try with_reducible rfl
      simp only [Act.put, List.getElem_toArray, List.getElem_cons_succ, List.getElem_cons_zero, List.setIfInBounds_toArray, List.set_cons_zero, List.set_cons_succ]
      refine hold_read (i := 21) (v := ?_) rfl (by kernel_rfl) (by kernel_rfl) (by kernel_rfl) (fun _ _ _ h => h) rfl ?_ ?_
      rotate_left
      · intro w' hN
        go_simp
        try with_reducible rfl
      simp only [Act.put, List.getElem_toArray, List.getElem_cons_succ, List.getElem_cons_zero, List.setIfInBounds_toArray, List.set_cons_zero, List.set_cons_succ]
      refine hold_read (i := 22) (v := ?_) rfl (by kernel_rfl) (by kernel_rfl) (by kernel_rfl) (fun _ _ _ h => h) rfl ?_ ?_
      rotate_left
      · intro w' hN
        go_simp
        try with_reducible rfl
      simp only [Act.put, List.getElem_toArray, List.getElem_cons_succ, List.getElem_cons_zero, List.setIfInBounds_toArray, List.set_cons_zero, List.set_cons_succ]
      refine hold_step (i := 23) (by kernel_rfl) rfl rfl (fun K hK => ?_)
      go_simp
      refine (HKN.out _).mono ?_
      rintro e wc ⟨rfl, kc⟩
      go_wp2_with fail
      refine hK.out _ _ kc ?_
      clear hK K
      try simp only [Act.put, List.getElem_toArray, List.getElem_cons_succ, List.getElem_cons_zero, List.setIfInBounds_toArray, List.set_cons_zero, List.set_cons_succ]
      replace n0 := Keep.new n0 kc
      replace e1 := fun W (hW : New wc W) => e1 W (Keep.new kc hW)
      replace e2 := fun W (hW : New wc W) => e2 W (Keep.new kc hW)
      refine hold_read (i := 24) (v := ?_) rfl (by kernel_rfl) (by kernel_rfl) (by kernel_rfl) (fun _ _ _ h => h) rfl ?_ ?_
      rotate_left
      · intro w' hN
        go_simp
        try with_reducible rfl
      simp only [Act.put, List.getElem_toArray, List.getElem_cons_succ, List.getElem_cons_zero, List.setIfInBounds_toArray, List.set_cons_zero, List.set_cons_succ]
      refine hold_read (i := 25) (v := ?_) rfl (by kernel_rfl) (by kernel_rfl) (by kernel_rfl) (fun _ _ _ h => h) rfl ?_ ?_
      rotate_left
      · intro w' hN
        go_simp
        try with_reducible rfl
      simp only [Act.put, List.getElem_toArray, List.getElem_cons_succ, List.getElem_cons_zero, List.setIfInBounds_toArray, List.set_cons_zero, List.set_cons_succ]
      refine wpAnyH_done (by kernel_rfl) ?_ _
      go_wp2_with fail
      go_ret
      exact ⟨rfl, HK1.out.new (HK2.out.new n0)⟩
end Go.Proofs.YtfegdgaanmcecaaGreatDoor
