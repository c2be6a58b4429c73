/-
  PROVED HERE: the law LogHeads answers true; conditions: arguments as they may come in.
-/
import Derived.Test.YtajnkbfcnmajoaaGreatDoorPkB00
import Derived.Test.YtajnkbfcnmajoaaGreatDoorPkH03
import Derived.Test.YtajnkbfcnmajoaaGreatDoorPkE00
namespace Go.Proofs.YtajnkbfcnmajoaaGreatDoor
open Go.RowKit
def strElt : Elt (List UInt8) where
 size := 1
 At _ _ vs i x := vs[i + 0]? = some (.string (strOf x))
 pos := by decide
 keep := fun h _ _ => h
 imp := fun h _ => h
 shift := fun h hs => hs 0 (by decide) _ h
 one := by
  intro w D vs i a h k hk
  match k, hk with
  | 0, _ => exact ⟨_, h, rfl⟩
theorem info_str : (Tryz.prog.info? 9).map (fun i => (i.zero, i.size, i.bytes)) = some (some (.string (strOf [])), 1, 16) := by kernel_rfl
theorem own_one (w : World) (x : List UInt8) {base : Nat} (hb : base ≤ w.heap.size) : OwnSl 9 strElt (w.alloc (.cells #[.string (strOf x)] 9)) base (fun _ => False) (some ⟨w.heap.size, 0, none⟩) 1 1 [x] := by
 refine ⟨[.string (strOf x)], ⟨rfl, .inr ⟨w.heap.size, 1, #[.string (strOf x)], rfl, hb, heap_alloc_new w _, Nat.le_refl _, by decide, rfl, rfl⟩⟩, rfl, fun k hk => ?_⟩
 have h0 : k = 0 := by simpa using hk
 subst h0
 rfl
theorem last_snoc {hs : List (List UInt8)} {n : Nat} {x : List UInt8} (h : hs.length = n + 1) (_hl : hs[n]? = some x) (y : List UInt8) : (hs ++ [y])[n + 1]? = some y := by
 rw [List.getElem?_append_right (by omega), h]; simp
set_option maxRecDepth 200000 in
set_option maxHeartbeats 16000000 in
theorem heads21_any (A : Option Addr) (n c : Nat) (ls : List AskP) (w : World) (hB : Sl askElt w (fun _ => True) A n ls) : Calls Tryz.prog 7 #[.slice A n c] w fun e w' => e = .returned (.bool true) ∧ New w w' := by
 have hln := hB.len
 have HBE := Lib.hid (begin21_st 150 (by decide) (by decide) w)
 have HKN := Lib.hid (fun W => known21_any W)
 have HB := Lib.hid hB.old
 clear hB
 go_enter Tryz.func7, Tryz.ntmps7
 go_wp2_with fail
 refine HBE.out.mono ?_
 rintro e w1 ⟨k1, bw, rfl, h1⟩
 obtain ⟨bl, hc, hse, hnx, hhd⟩ := h1.log
 have HK1 := Lib.hid k1
 have H1 := Lib.hid h1
 have HHD := Lib.hid hhd
 have c7 := hc w1 (New.refl _)
 have hz1 := k1.size
 clear k1 h1 HBE hc hse hnx hhd
 go_wp2_with fail
 refine (HHD.out _ (New.refl _)).mono ?_
 rintro e w2 ⟨⟨A5, c5, rfl, o5⟩, k2⟩
 have q5 := run_str (c := c5) (Row.of_own o5)
 obtain ⟨pv0, hpv0⟩ : ∃ pv, pv = (logOf id21 (⟨[], []⟩ : LogS).segs).prev := ⟨_, rfl⟩
 rw [← hpv0] at q5
 replace hpv0 := Lib.hid hpv0
 have HK2 := Lib.hid k2
 have kA := (New.refl w2).alloc (.cells #[.string (strOf pv0)] 9)
 have hA := heap_alloc_new w2 (.cells #[.string (strOf pv0)] 9)
 have hw0 : OwnSl 9 strElt (w2.alloc (.cells #[.string (strOf pv0)] 9)) w1.heap.size (fun _ => False) (some ⟨w2.heap.size, 0, none⟩) 1 1 [pv0] := own_one w2 pv0 k2.size
 have hg2 : w1.heap.size ≤ w2.heap.size := k2.size
 have hgl := (Array.getElem?_eq_some_iff.1 hA).1
 clear o5 k2 c7
 go_upto_region 5 with fail
 generalize w2.alloc (.cells #[.string (strOf pv0)] 9) = w3 at *
 have H3 := Lib.hid (H1.out.priv (HK2.out.new kA))
 have HK3 := Lib.hid (HK2.out.new kA)
 have HW0 := Lib.hid hw0
 have HPV0 := hpv0
 generalize hgg : w2.heap.size = g2 at *
 clear q5 kA hA hw0 hpv0 hgg
 go_wp2_with fail
 go_loopw [4, 5] (fun h i wx => ∃ (i0 : Nat) (s : LogS) (A2 : Option Addr) (c2 : Nat) (hs : List (List UInt8)) (G : Nat → Prop), i0 ≤ n ∧ i0 ≤ 40 ∧ i = .int .i64 (i0 : Int) ∧ h = .slice A2 (s.segs.length + 1) c2 ∧ OwnSl 9 strElt wx w1.heap.size (fun _ => False) A2 (s.segs.length + 1) c2 hs ∧ hs[s.segs.length]? = some (logOf id21 s.segs).prev ∧ (∀ k, blk A2 = some k → G k) ∧ (∀ b, G b → w1.heap.size ≤ b) ∧ s.nxt ≤ 1 + (i0 : Int) ∧ W21P wx (fun b => b < w.heap.size) G bw 150 s ∧ Keep (fun b => b < w.heap.size) w3 wx) (fun _ i _ => 40 - (intOf i).toNat)
 case atStart => exact ⟨0, ⟨[], []⟩, _, _, _, _, Nat.zero_le _, Nat.zero_le _, rfl, rfl, HW0.out, by rw [← HPV0.out]; rfl, (fun k hk => by injection hk with hk; subst hk; exact ⟨hg2, hgl⟩), fun b hb => hb.1, by decide +kernel, H3.out, Keep.refl _ _⟩
 case round =>
  obtain ⟨i0, s, A2, c2, hs, G, hin, hi5, rfl, rfl, hrow, hlast, hAG, hG1, hnx, hs', hkb⟩ := hrel
  have HS := Lib.hid hs'
  have HKB := Lib.hid hkb
  have HNX := Lib.hid hnx
  have HROW := Lib.hid hrow
  have HLAST := Lib.hid hlast
  have HAG := Lib.hid hAG
  have HG1 := Lib.hid hG1
  have hsr := hs'.pub.st.room
  have hs9 : s.segs.length ≤ 100 := by have h1 : segsOf 150 ≤ 100 := (by decide); omega
  clear hs' hkb hnx hrow hlast hAG hG1 hsr
  obtain ⟨m, hm⟩ : ∃ m, m = s.segs.length := ⟨_, rfl⟩
  rw [← hm] at hs9 ⊢
  replace hm := Lib.hid hm
  by_cases hlt : i0 < n ∧ i0 < 40
  ·obtain ⟨hl1, hl2⟩ := hlt
   have hx : i0 < ls.length := by omega
   have HBR := Lib.hid (HB.out.keep ((Keep.of_new (D := fun b => b < w.heap.size) ((HK1.out).new HK3.out)).trans HKB.out) fun b hb _ => hb)
   obtain ⟨b, off, us, hA, _, _, ⟨Ab, cb, e0, e1, e2, e3, hcb, hcm, hbb, hfi⟩, _, hcell⟩ := HBR.out.at_ (k := i0) hx
   obtain ⟨x, hxx⟩ : ∃ x, x = ls[i0] := ⟨_, rfl⟩
   rw [← hxx] at e0 e1 e2 e3 hcb hbb hfi
   subst hA
   have HFI := Lib.hid hfi
   have HBB := Lib.hid hbb
   have HCB := Lib.hid (And.intro hcb hcm)
   have HAC := Lib.hid (HS.out.act (fun b h1 h2 => by have h3 := HG1.out b h2; have h4 := hz1; omega) x hfi Ab cb hbb hcb hcm (by have := HNX.out; omega))
   have HBX : Hid (∀ W, New wr W → W.cell? ⟨b, off + i0 * 4, none⟩ = some (.int .i64 x.kind) ∧ W.cell? ⟨b, off + i0 * 4 + 1, none⟩ = some (.int .i64 x.turn) ∧ W.cell? ⟨b, off + i0 * 4 + 2, none⟩ = some (.bool x.mark) ∧ W.cell? ⟨b, off + i0 * 4 + 3, none⟩ = some (.slice Ab x.body.length cb)) := Lib.hid fun W hW => ⟨hW.cell_some (hcell 0 _ e0) trivial, hW.cell_some (hcell 1 _ e1) trivial, hW.cell_some (hcell 2 _ e2) trivial, hW.cell_some (hcell 3 _ e3) trivial⟩
   have c0 := (HBX.out wr (New.refl _)).1
   have hl3 : (i0 : Int) < (n : Int) := by omega
   have hl4 : (i0 : Int) < 40 := by omega
   have hd3 : decide ((i0 : Int) < (n : Int)) = true := decide_eq_true hl3
   have hd4 : decide ((i0 : Int) < 40) = true := decide_eq_true hl4
   clear hxx e0 e1 e2 e3 hcb hcm hbb hfi hcell hx
   by_cases hk3 : x.kind = 3
   ·have hd5 : (x.kind == 3) = true := by simpa using hk3
    go_wp2_with fail
    go_roundw
    case rel => exact ⟨i0 + 1, s, _, _, hs, G, by omega, by omega, by go_num, by rw [hm.out], HROW.out, HLAST.out, HAG.out, HG1.out, by have := HNX.out; omega, HS.out, HKB.out⟩
    case measure => simp [intOf]; omega
   ·have hd5 : (x.kind == 3) = false := by simpa using hk3
    obtain ⟨ht1, ht2⟩ := step_turns (n := segsOf 150) (s := s) (x := x) hk3
    have HN1 := Lib.hid (step_nxt (segsOf 150) s x)
    obtain ⟨s1, hs1⟩ : ∃ s1, s1 = s.step (segsOf 150) x := ⟨_, rfl⟩
    rw [← hs1] at ht1 ht2 HN1 HAC
    replace ht1 := Lib.hid ht1
    replace ht2 := Lib.hid ht2
    replace hs1 := Lib.hid hs1
    clear hk3
    obtain ⟨bl, hc, hse, hnx, hhd⟩ := HS.out.pub.log
    rw [← hm.out] at hse
    obtain ⟨nx, hnx0⟩ : ∃ nx, nx = s.nxt := ⟨_, rfl⟩
    rw [← hnx0] at hnx
    have c7 := hc
    have HSE := Lib.hid hse
    have HNXC := Lib.hid hnx
    replace hnx0 := Lib.hid hnx0
    clear hc hse hnx hhd
    go_upto_region 9 with fail
    refine hold_begin (by kernel_rfl) ?_
    have n0 : New wr wr.drew := (New.refl wr).drew
    replace c7 := fun W (hW : New wr.drew W) => c7 W (Keep.new n0 hW)
    refine take1 0 ?_
    refine take1 1 ?_
    refine take1 2 ?_
    refine take1 3 ?_
    refine take1 5 ?_
    refine take1 6 ?_
    refine take1 7 ?_
    refine take1 8 ?_
    refine hold_step (i := 4) (by kernel_rfl) rfl rfl (fun K hK => ?_)
    go_simp
    refine (HSE.out _ n0).mono ?_
    rintro e wa ⟨rfl, ka⟩
    go_wp2_with fail
    refine hK.out _ _ ka ?_
    clear hK K
    try simp only [Act.put, ly1, ly2, ly3, ly4, ly5, ly6]
    replace n0 := Keep.new n0 ka
    replace c7 := fun W (hW : New wa W) => c7 W (Keep.new ka hW)
    refine hold_step (i := 9) (by kernel_rfl) rfl rfl (fun K hK => ?_)
    go_simp
    refine (HNXC.out _ n0).mono ?_
    rintro e wb ⟨rfl, kb⟩
    go_wp2_with fail
    refine hK.out _ _ kb ?_
    clear hK K
    try simp only [Act.put, ly1, ly2, ly3, ly4, ly5, ly6]
    replace n0 := Keep.new n0 kb
    replace c7 := fun W (hW : New wb W) => c7 W (Keep.new kb hW)
    refine take1 10 ?_
    refine take1 11 ?_
    refine wpAnyH_done (by kernel_rfl) ?_ _
    have HN0 := Lib.hid n0
    have HAC := Lib.hid ((HS.out.new n0).act (fun b h1 h2 => by have h3 := HG1.out b h2; have h4 := hz1; omega) x HFI.out Ab cb ((HBB.out.new n0)) HCB.out.1 HCB.out.2 (by have := HNX.out; omega))
    rw [← hs1.out] at HAC
    obtain ⟨c0, c1, c2', c3⟩ := HBX.out _ n0
    clear c7 ka kb n0 HSE HNXC
    go_wp2_with fail
    refine HAC.out.mono ?_
    rintro e w4 ⟨rfl, b4, h4⟩
    have HROW := Lib.hid ((HROW.out.new HN0.out).keepE b4 (fun k hk => .inr (HAG.out k hk)) (fun b hb => hb.elim))
    have HKB := Lib.hid ((HKB.out.new HN0.out).trans (b4.imp fun b _ hb => .inl hb))
    have H4 := Lib.hid h4
    have HROWX : Hid (OwnSl 9 strElt w4 w1.heap.size (fun _ => False) A2 (m + 1) c2 hs) := Lib.hid (by rw [hm.out]; exact HROW.out)
    have HZ4 : Hid (w1.heap.size ≤ w4.heap.size) := Lib.hid (by have h1 := HK3.out.size; have h2 := HKB.out.size; omega)
    obtain ⟨bl4, hc, hse, hnx, hhd⟩ := h4.pub.log
    obtain ⟨m1, hm1⟩ : ∃ m1, m1 = s1.segs.length := ⟨_, rfl⟩
    obtain ⟨nx1, hnx1⟩ : ∃ nx1, nx1 = s1.nxt := ⟨_, rfl⟩
    obtain ⟨pv1, hpv1⟩ : ∃ pv1, pv1 = (logOf id21 s1.segs).prev := ⟨_, rfl⟩
    rw [← hm1] at hse
    rw [← hnx1] at hnx
    rw [← hpv1] at hhd
    have HC := Lib.hid hc
    have HSE := Lib.hid hse
    have HNXC := Lib.hid hnx
    have HHD := Lib.hid hhd
    have c7 := hc w4 (New.refl _)
    replace hm1 := Lib.hid hm1
    replace hnx1 := Lib.hid hnx1
    replace hpv1 := Lib.hid hpv1
    clear b4 h4 hc hse hnx hhd HAC c0 c1 c2' c3
    go_wp2_with fail
    refine (HHD.out _ (New.refl _)).mono ?_
    rintro e w5 ⟨⟨A5, c5, rfl, o5⟩, k5⟩
    have q5 := run_str (c := c5) (Row.of_own o5)
    have c7 := HC.out w5 k5
    have HK5 := Lib.hid k5
    clear o5 k5 HHD
    go_upto_region 13 with fail
    clear q5
    have hnb : (pv1 == pv1) = true := by simp
    have hm9 : m ≤ 100 := hs9
    have hmw : IntKind.i64.wrap ((m : Int) + 1 - 1) = (m : Int) := by rw [show (m : Int) + 1 - 1 = (m : Int) from by omega]; exact IntWalk.i64_in _ (by omega)
    have hmw2 : IntKind.i64.wrap ((m : Int) + 1) = (m : Int) + 1 := IntWalk.i64_in _ (by omega)
    have hcase : (m1 = m ∧ pv1 = (logOf id21 s.segs).prev) ∨ m1 = m + 1 := by
     rcases ht1.out with h1 | h1
     ·left; rw [hm1.out, hm.out, hpv1.out, h1]; exact ⟨rfl, rfl⟩
     ·right; rw [hm1.out, hm.out, h1]
    have hcase2 : nx1 = nx ∨ nx1 = nx + 1 := by rw [hnx1.out, hnx0.out]; exact ht2.out
    have hnxb : 0 ≤ nx ∧ nx ≤ 1000 := by
     have h1 := HNX.out
     have h2 := HS.out.pub.st.fine.ok.next
     rw [hnx0.out]
     unfold LogS.nxt at h1 ⊢
     omega
    have hnw : IntKind.u64.wrap (nx + 1) = nx + 1 := by rw [IntKind.wrap_u64]; omega
    obtain ⟨bh, oh, hAh, hstr⟩ : ∃ (bh oh : Nat), A2 = some ⟨bh, oh, none⟩ ∧ ∀ W, New w4 W → W.cell? ⟨bh, oh + m, none⟩ = some (.string (strOf (logOf id21 s.segs).prev)) := by
     obtain ⟨hx5, hg5⟩ := List.getElem?_eq_some_iff.1 HLAST.out
     obtain ⟨b, off, us, hA, _, _, e0, _, hcell⟩ := HROW.out.any.at_ (k := s.segs.length) hx5
     rw [hg5] at e0
     refine ⟨b, off, hA, fun W hW => hW.cell_some ?_ trivial⟩
     have h1 := hcell 0 _ e0
     rwa [show off + s.segs.length * strElt.size + 0 = off + m from by rw [hm.out]; show off + s.segs.length * 1 + 0 = _; omega] at h1
    subst hAh
    have HSTR := Lib.hid hstr
    clear hstr
    rcases hcase with ⟨hma, hpa⟩ | hma
    ·skip
     have hsa : (((m1 : Nat) : Int) == ((m : Nat) : Int)) = true := by rw [hma]; simp
     subst hma
     have hst5 : w5.cell? ⟨bh, oh + m1, none⟩ = some (.string (strOf pv1)) := by rw [hpa]; exact HSTR.out _ HK5.out
     have hng : decide (((m1 : Nat) : Int) + 1 < ((m1 : Nat) : Int)) = false := decide_eq_false (by omega)
     have hng2 : decide (((m1 : Nat) : Int) < ((m1 : Nat) : Int)) = false := decide_eq_false (by omega)
     have k5 := HK5.out
     go_wp2_with fail
     refine (HSE.out _ k5).mono ?_
     rintro e w6 ⟨rfl, k69⟩
     have k6 := k5.new k69
     have c7 := HC.out _ k6
     clear k69
     have hst6 : w6.cell? ⟨bh, oh + m1, none⟩ = some (.string (strOf pv1)) := by rw [hpa]; exact HSTR.out _ k6
     go_wp2_with fail
     refine (HSE.out _ k6).mono ?_
     rintro e w7 ⟨rfl, k79⟩
     have k7 := k6.new k79
     have c7 := HC.out _ k7
     clear k79
     replace hpa := Lib.hid hpa
     clear hst5 hst6
     rcases hcase2 with hna | hna
     ·skip
      have hnn : (nx1 != nx) = false := by rw [hna]; simp
      replace hna := Lib.hid hna
      go_wp2_with fail
      refine (HNXC.out _ k7).mono ?_
      rintro e w8 ⟨rfl, k89⟩
      have k8 := k7.new k89
      have c7 := HC.out _ k8
      clear k89
      go_wp2_with fail
      refine (HSE.out _ k8).mono ?_
      rintro e w10 ⟨rfl, k109⟩
      have k10 := k8.new k109
      have c7 := HC.out _ k10
      clear k109
      go_wp2_with fail
      go_roundw
      case rel => exact ⟨i0 + 1, s1, _, _, hs, G, by omega, by omega, by go_num, by rw [← hm1.out], by rw [← hm1.out]; exact HROWX.out.new k10, by rw [← hm1.out, hm.out, HLAST.out, ← hpv1.out, hpa.out], HAG.out, HG1.out, by have h1 := HNX.out; have h2 := HN1.out; omega, H4.out.new k10, HKB.out.new k10⟩
      case measure => simp [intOf]; omega
     ·skip
      have hnn : (nx1 != nx) = true := by rw [hna]; simp; omega
      have hnn2 : (nx1 != nx + 1) = false := by rw [hna]; simp
      replace hna := Lib.hid hna
      go_wp2_with fail
      refine (HNXC.out _ k7).mono ?_
      rintro e w8 ⟨rfl, k89⟩
      have k8 := k7.new k89
      have c7 := HC.out _ k8
      clear k89
      go_wp2_with fail
      refine (HNXC.out _ k8).mono ?_
      rintro e w9 ⟨rfl, k99⟩
      have k9 := k8.new k99
      have c7 := HC.out _ k9
      clear k99
      go_wp2_with fail
      refine (HSE.out _ k9).mono ?_
      rintro e w10 ⟨rfl, k109⟩
      have k10 := k9.new k109
      have c7 := HC.out _ k10
      clear k109
      go_wp2_with fail
      go_roundw
      case rel => exact ⟨i0 + 1, s1, _, _, hs, G, by omega, by omega, by go_num, by rw [← hm1.out], by rw [← hm1.out]; exact HROWX.out.new k10, by rw [← hm1.out, hm.out, HLAST.out, ← hpv1.out, hpa.out], HAG.out, HG1.out, by have h1 := HNX.out; have h2 := HN1.out; omega, H4.out.new k10, HKB.out.new k10⟩
      case measure => simp [intOf]; omega
    ·skip
     have hsa : (((m1 : Nat) : Int) == ((m : Nat) : Int)) = false := by rw [hma]; simp; omega
     have hng : decide (((m : Nat) : Int) + 1 < ((m1 : Nat) : Int)) = false := decide_eq_false (by omega)
     have hng2 : decide (((m : Nat) : Int) < ((m1 : Nat) : Int)) = true := decide_eq_true (by omega)
     have hng3 : decide (m < m1) = true := decide_eq_true (by omega)
     replace hma := Lib.hid hma
     have k5 := HK5.out
     go_wp2_with fail
     refine (HSE.out _ k5).mono ?_
     rintro e w6 ⟨rfl, k69⟩
     have k6 := k5.new k69
     have c7 := HC.out _ k6
     clear k69
     go_wp2_with fail
     refine (HSE.out _ k6).mono ?_
     rintro e w7 ⟨rfl, k79⟩
     have k7 := k6.new k79
     have c7 := HC.out _ k7
     clear k79
     rcases hcase2 with hna | hna
     ·skip
      have hnn : (nx1 != nx) = false := by rw [hna]; simp
      replace hna := Lib.hid hna
      go_wp2_with fail
      refine (HNXC.out _ k7).mono ?_
      rintro e w8 ⟨rfl, k89⟩
      have k8 := k7.new k89
      have c7 := HC.out _ k8
      clear k89
      go_wp2_with fail
      refine (HSE.out _ k8).mono ?_
      rintro e w10 ⟨rfl, k109⟩
      have k10 := k8.new k109
      have c7 := HC.out _ k10
      clear k109
      have hro := HROWX.out.new k10
      obtain ⟨q0, hq0, hqz, hqs, hqb⟩ := info_parts info_str
      have kS := (New.refl w10).alloc (.cells #[.string (strOf pv1)] 9)
      have hrs := (Row.made w10 9 #[.string (strOf pv1)] 1 1 rfl).imp (E := fun _ => True) fun _ _ _ => trivial
      have hrn := hro.new kS
      have hbs : w1.heap.size ≤ (w10.alloc (.cells #[.string (strOf pv1)] 9)).heap.size := by have h1 := k10.size; have h2 := HZ4.out; have h3 := kS.size; omega
      have hb63 : m + 1 + 1 ≤ 9223372036854775807 := by omega
      have hbby : (m + 1 + 1) * 16 ≤ 140737488355328 := by omega
      go_wp2_with (at_builtin; refine app_sl (E := strElt) _ rfl _ _ 59 9 rfl q0 (.string (strOf [])) 16 Tryz.underlying59 hq0 hqz hqs hqb rfl w1.heap.size (fun _ => False) (some ⟨bh, oh, none⟩) (m + 1) c2 hs rfl hrn (fun _ => True) _ _ [.string (strOf pv1)] pv1 rfl hrs rfl hb63 hbby hbs ?_; intro A9 c9 wq o9 g9 k9b)
      have hP := (H4.out.new k10).more kS
      have kG : Keep (fun b => some b ≠ blk (some ⟨bh, oh, none⟩)) (w10.alloc (.cells #[.string (strOf pv1)] 9)) wq := Keep.grown (Keep.refl _ _) g9 (fun j hj hd => absurd hj.symm hd)
      have hP3 : W21P wq (fun b => b < w.heap.size) (fun b => (G b ∨ (w10.heap.size ≤ b ∧ b < (w10.alloc (.cells #[.string (strOf pv1)] 9)).heap.size)) ∨ blk A9 = some b) bw 150 s1 := hP.andRow (fun k hk => .inl (HAG.out k hk)) kG k9b (fun k hk => (o9.lt k hk).2)
      have HFIN := Lib.hid (And.intro hP3 (And.intro o9 (And.intro kG (And.intro kS k9b))))
      clear hP hP3 kG kS k9b o9 g9 hro hrn hrs hq0 hqz hqs hqb
      go_roundw
      case rel => exact ⟨i0 + 1, s1, A9, c9, hs ++ [pv1], _, by omega, by omega, by go_num, by rw [← hm1.out, hma.out], by rw [← hm1.out, hma.out]; exact HFIN.out.2.1, by rw [← hm1.out, hma.out, ← hpv1.out]; exact last_snoc (by rw [HROWX.out.len]) (by rw [hm.out]; exact HLAST.out) pv1, fun k hk => .inr hk, fun b hb => by have h1 := HZ4.out; have h2 := k10.size; exact hb.elim (fun h => h.elim (HG1.out b) (fun h => by omega)) (fun h => (HFIN.out.2.1.lt b h).1), by have h1 := HNX.out; have h2 := HN1.out; omega, HFIN.out.1, (((HKB.out.new k10).new HFIN.out.2.2.2.1).trans (HFIN.out.2.2.1.imp fun b _ hb e => by have h1 := HG1.out b (HAG.out b e.symm); have h2 : b < w.heap.size := hb; omega))⟩
      case measure => simp [intOf]; omega
     ·skip
      have hnn : (nx1 != nx) = true := by rw [hna]; simp; omega
      have hnn2 : (nx1 != nx + 1) = false := by rw [hna]; simp
      replace hna := Lib.hid hna
      go_wp2_with fail
      refine (HNXC.out _ k7).mono ?_
      rintro e w8 ⟨rfl, k89⟩
      have k8 := k7.new k89
      have c7 := HC.out _ k8
      clear k89
      go_wp2_with fail
      refine (HNXC.out _ k8).mono ?_
      rintro e w9 ⟨rfl, k99⟩
      have k9 := k8.new k99
      have c7 := HC.out _ k9
      clear k99
      go_wp2_with fail
      refine (HSE.out _ k9).mono ?_
      rintro e w10 ⟨rfl, k109⟩
      have k10 := k9.new k109
      have c7 := HC.out _ k10
      clear k109
      have hro := HROWX.out.new k10
      obtain ⟨q0, hq0, hqz, hqs, hqb⟩ := info_parts info_str
      have kS := (New.refl w10).alloc (.cells #[.string (strOf pv1)] 9)
      have hrs := (Row.made w10 9 #[.string (strOf pv1)] 1 1 rfl).imp (E := fun _ => True) fun _ _ _ => trivial
      have hrn := hro.new kS
      have hbs : w1.heap.size ≤ (w10.alloc (.cells #[.string (strOf pv1)] 9)).heap.size := by have h1 := k10.size; have h2 := HZ4.out; have h3 := kS.size; omega
      have hb63 : m + 1 + 1 ≤ 9223372036854775807 := by omega
      have hbby : (m + 1 + 1) * 16 ≤ 140737488355328 := by omega
      go_wp2_with (at_builtin; refine app_sl (E := strElt) _ rfl _ _ 59 9 rfl q0 (.string (strOf [])) 16 Tryz.underlying59 hq0 hqz hqs hqb rfl w1.heap.size (fun _ => False) (some ⟨bh, oh, none⟩) (m + 1) c2 hs rfl hrn (fun _ => True) _ _ [.string (strOf pv1)] pv1 rfl hrs rfl hb63 hbby hbs ?_; intro A9 c9 wq o9 g9 k9b)
      have hP := (H4.out.new k10).more kS
      have kG : Keep (fun b => some b ≠ blk (some ⟨bh, oh, none⟩)) (w10.alloc (.cells #[.string (strOf pv1)] 9)) wq := Keep.grown (Keep.refl _ _) g9 (fun j hj hd => absurd hj.symm hd)
      have hP3 : W21P wq (fun b => b < w.heap.size) (fun b => (G b ∨ (w10.heap.size ≤ b ∧ b < (w10.alloc (.cells #[.string (strOf pv1)] 9)).heap.size)) ∨ blk A9 = some b) bw 150 s1 := hP.andRow (fun k hk => .inl (HAG.out k hk)) kG k9b (fun k hk => (o9.lt k hk).2)
      have HFIN := Lib.hid (And.intro hP3 (And.intro o9 (And.intro kG (And.intro kS k9b))))
      clear hP hP3 kG kS k9b o9 g9 hro hrn hrs hq0 hqz hqs hqb
      go_roundw
      case rel => exact ⟨i0 + 1, s1, A9, c9, hs ++ [pv1], _, by omega, by omega, by go_num, by rw [← hm1.out, hma.out], by rw [← hm1.out, hma.out]; exact HFIN.out.2.1, by rw [← hm1.out, hma.out, ← hpv1.out]; exact last_snoc (by rw [HROWX.out.len]) (by rw [hm.out]; exact HLAST.out) pv1, fun k hk => .inr hk, fun b hb => by have h1 := HZ4.out; have h2 := k10.size; exact hb.elim (fun h => h.elim (HG1.out b) (fun h => by omega)) (fun h => (HFIN.out.2.1.lt b h).1), by have h1 := HNX.out; have h2 := HN1.out; omega, HFIN.out.1, (((HKB.out.new k10).new HFIN.out.2.2.2.1).trans (HFIN.out.2.2.1.imp fun b _ hb e => by have h1 := HG1.out b (HAG.out b e.symm); have h2 : b < w.heap.size := hb; omega))⟩
      case measure => simp [intOf]; omega
  ·skip
   have hor : ¬ (i0 : Int) < (n : Int) ∨ ((i0 : Int) < (n : Int) ∧ ¬ (i0 : Int) < 40) := by omega
   clear hlt
   obtain ⟨bl, hc, hse, hnx, hhd⟩ := HS.out.pub.log
   rw [← hm.out] at hse
   have c7 := hc wr (New.refl _)
   have HSE := Lib.hid hse
   have hmw : IntKind.i64.wrap ((m : Int) + 1) = (m : Int) + 1 := IntWalk.i64_in _ (by omega)
   have hmq : (((m : Nat) : Int) + 1 == ((m : Nat) : Int) + 1) = true := by simp
   clear hc hse hnx hhd
   rcases hor with hl3 | ⟨hl3, hl4⟩
   ·have hd3 : decide ((i0 : Int) < (n : Int)) = false := decide_eq_false hl3
    go_wp2_with fail
    refine (HSE.out _ (New.refl _)).mono ?_
    rintro e w6 ⟨rfl, k6⟩
    go_wp2_with fail
    refine (HKN.out _).mono ?_
    rintro e w7 ⟨rfl, k7⟩
    go_wp2_with fail
    go_ret
    exact ⟨rfl, (((Keep.of_new (D := fun b => b < w.heap.size) (HK1.out.new HK3.out)).trans ((HKB.out.new k6).new k7)).toNew fun b hb => hb)⟩
   ·have hd3 : decide ((i0 : Int) < (n : Int)) = true := decide_eq_true hl3
    have hd4 : decide ((i0 : Int) < 40) = false := decide_eq_false hl4
    go_wp2_with fail
    refine (HSE.out _ (New.refl _)).mono ?_
    rintro e w6 ⟨rfl, k6⟩
    go_wp2_with fail
    refine (HKN.out _).mono ?_
    rintro e w7 ⟨rfl, k7⟩
    go_wp2_with fail
    go_ret
    exact ⟨rfl, (((Keep.of_new (D := fun b => b < w.heap.size) (HK1.out.new HK3.out)).trans ((HKB.out.new k6).new k7)).toNew fun b hb => hb)⟩
end Go.Proofs.YtajnkbfcnmajoaaGreatDoor
