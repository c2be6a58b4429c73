/-
  PROVED HERE: what proof.right, put and Encode answer; condition: lengths that a slice may have.
-/
import Derived.Test.YtfegdgaanmcecaaGreatDoorPkN37
import Derived.Test.YtfegdgaanmcecaaGreatDoorPkN38
namespace Go.Proofs.YtfegdgaanmcecaaGreatDoor
open Go.RowKit
def headBytes (h : HeadP) : List UInt8 := beI 2 h.index ++ beI 8 h.first ++ beI 2 h.count ++ beI 2 h.bytes ++ h.prev ++ h.root
def proofBytes (p : ProofP) : List UInt8 := headBytes p.head ++ beI 2 p.place ++ lenBytes p.leaf ++ beI 1 (p.path.length : Nat) ++ p.path.flatten ++ beI 2 (p.later.length : Nat) ++ (p.later.map headBytes).flatten
def encodeOf (p : ProofP) : List UInt8 × Int := if rightProof p = true then (proofBytes p, 0) else ([], 12)
theorem Writ.block {w w' : World} {p g : Nat} {ob : Obj} (k : Writ w w' p) (hg : w.heap[g]? = some ob) (h1 : g ≠ p) (h2 : some g ≠ rowBlk w p) : w'.heap[g]? = some ob ∧ some g ≠ rowBlk w' p :=
 ⟨k.keep.blockAt hg ⟨h1, h2⟩, k.row g (Array.getElem?_eq_some_iff.1 hg).1 h2⟩
theorem headBytes_length (h : HeadP) : (headBytes h).length = 14 + h.prev.length + h.root.length := by
 unfold headBytes
 simp only [List.length_append, beI_length]
theorem fine_lens {h : HeadP} (hf : fineHead h = true) : h.prev.length = 32 ∧ h.root.length = 32 := by
 unfold fineHead at hf
 simp only [Bool.and_eq_true, decide_eq_true_eq] at hf
 exact hf.2.2
theorem right_parts {p : ProofP} (h : rightProof p = true) : p.leaf.length ≤ 65535 ∧ p.path.length ≤ 255 ∧ p.later.length ≤ 65535 ∧ (p.path.all fun b => b.length == 32) = true ∧ (p.later.all fineHead) = true ∧ fineHead p.head = true := by
 unfold rightProof at h
 simp only [Bool.and_eq_true, decide_eq_true_eq] at h
 exact ⟨h.2.2.1, h.2.2.2.1, h.2.2.2.2.1, h.2.2.2.2.2.1, h.2.2.2.2.2.2, h.1⟩
theorem flat_len : ∀ (ls : List (List UInt8)) (k : Nat), k ≤ ls.length → (ls.all fun b => b.length == 32) = true → (ls.take k).flatten.length = 32 * k
 | _, 0, _, _ => rfl
 | [], k + 1, h, _ => absurd h (by simp)
 | x :: xs, k + 1, h, ha => by
  rw [List.all_cons, Bool.and_eq_true] at ha
  have := flat_len xs k (by simpa using h) ha.2
  have hx : x.length = 32 := by simpa using ha.1
  rw [List.take_succ_cons, List.flatten_cons, List.length_append, this, hx]
  omega
theorem heads_len : ∀ (ls : List HeadP) (k : Nat), k ≤ ls.length → (ls.all fineHead) = true → ((ls.take k).map headBytes).flatten.length = 78 * k
 | _, 0, _, _ => rfl
 | [], k + 1, h, _ => absurd h (by simp)
 | x :: xs, k + 1, h, ha => by
  rw [List.all_cons, Bool.and_eq_true] at ha
  have := heads_len xs k (by simpa using h) ha.2
  have hx := fine_lens ha.1
  rw [List.take_succ_cons, List.map_cons, List.flatten_cons, List.length_append, this, headBytes_length, hx.1, hx.2]
  omega
theorem all_not_any {α : Type} (l : List α) (f : α → Bool) : (l.all f) = !(l.any fun x => !f x) := by
 rw [List.all_eq_not_any_not]
set_option maxRecDepth 100000 in
set_option maxHeartbeats 2000000 in
theorem pright_any (D E : Nat → Prop) (P1 R1 L Pa La : Option Addr) (p1 r1 lc pc lac : Nat) (p : ProofP) (w : World) (hPa : Imgs w D Pa p.path.length p.path) (hLa : Heads w E La p.later.length p.later) (hq1 : p.path.length ≤ 9223372036854775806) (hq2 : p.later.length ≤ 9223372036854775806) :
  Calls Tryz.prog 65 #[.agg #[.int .i64 p.head.index, .int .u64 p.head.first, .int .i64 p.head.count, .int .i64 p.head.bytes, .slice P1 p.head.prev.length p1, .slice R1 p.head.root.length r1, .int .i64 p.place, .slice L p.leaf.length lc, .slice Pa p.path.length pc, .slice La p.later.length lac]] w fun e w' => e = .returned (.bool (rightProof p)) ∧ New w w' := by
 have kB := (New.refl w).alloc (.cells #[.int .i64 p.head.index, .int .u64 p.head.first, .int .i64 p.head.count, .int .i64 p.head.bytes, .slice P1 p.head.prev.length p1, .slice R1 p.head.root.length r1, .int .i64 p.place, .slice L p.leaf.length lc, .slice Pa p.path.length pc, .slice La p.later.length lac] 36)
 have hX := heap_alloc_new w (.cells #[.int .i64 p.head.index, .int .u64 p.head.first, .int .i64 p.head.count, .int .i64 p.head.bytes, .slice P1 p.head.prev.length p1, .slice R1 p.head.root.length r1, .int .i64 p.place, .slice L p.leaf.length lc, .slice Pa p.path.length pc, .slice La p.later.length lac] 36)
 have HX := Lib.hid hX
 have HN := Lib.hid kB
 have HPa := Lib.hid (hPa.new kB)
 have HLa := Lib.hid (hLa.new kB)
 have HF := Lib.hid (fine_any P1 R1 p1 r1 p.head (w.alloc (.cells #[.int .i64 p.head.index, .int .u64 p.head.first, .int .i64 p.head.count, .int .i64 p.head.bytes, .slice P1 p.head.prev.length p1, .slice R1 p.head.root.length r1, .int .i64 p.place, .slice L p.leaf.length lc, .slice Pa p.path.length pc, .slice La p.later.length lac] 36)))
 obtain ⟨x0, x1, x2, x3, x4, x5, x6, x7, x8, x9⟩ := cs10 hX
 clear kB hPa hLa hX
 have HRP : Hid (rightProof p = (fineHead p.head && (shortB p.place && (decide (p.leaf.length ≤ 65535) && (decide (p.path.length ≤ 255) && (decide (p.later.length ≤ 65535) && (!(p.path.any fun b => !(b.length == 32)) && !(p.later.any fun h => !fineHead h)))))))) := Lib.hid (by unfold rightProof; rw [all_not_any p.path, all_not_any p.later])
 go_enter Tryz.func65, Tryz.ntmps65
 go_wp2_with fail
 clear x0 x1 x2 x3 x4 x5 x6 x7 x8 x9
 generalize w.alloc (.cells #[.int .i64 p.head.index, .int .u64 p.head.first, .int .i64 p.head.count, .int .i64 p.head.bytes, .slice P1 p.head.prev.length p1, .slice R1 p.head.root.length r1, .int .i64 p.place, .slice L p.leaf.length lc, .slice Pa p.path.length pc, .slice La p.later.length lac] 36) = w1 at *
 generalize w.heap.size = gb at *
 refine HF.out.mono ?_
 rintro e w2 ⟨rfl, k2⟩
 have hX2 := k2.blockAt HX.out trivial
 have HN2 := Lib.hid (HN.out.new k2)
 have HPa := Lib.hid (HPa.out.new k2)
 have HLa := Lib.hid (HLa.out.new k2)
 have x6 := cellOf hX2 (k := 6) rfl
 have x7 := cellOf hX2 (k := 7) rfl
 have x8 := cellOf hX2 (k := 8) rfl
 have x9 := cellOf hX2 (k := 9) rfl
 have HX2 := Lib.hid hX2
 clear hX2 k2 HX HN HF
 cases hfi : fineHead p.head
 ·skip
  have HFI := Lib.hid hfi
  clear hfi
  have HR : Hid (rightProof p = false) := Lib.hid (by rw [HRP.out, HFI.out]; simp)
  go_wp2_with fail
  go_ret
  exact ⟨by rw [HR.out]; rfl, HN2.out⟩
 ·have HFI := Lib.hid hfi
  clear hfi
  by_cases h1 : p.place < 0
  ·skip
   have HR : Hid (rightProof p = false) := Lib.hid (by rw [HRP.out, HFI.out, shortB_lo h1]; simp)
   go_wp2_with fail
   go_ret
   exact ⟨by rw [HR.out]; rfl, HN2.out⟩
  ·by_cases h2 : 65535 < p.place
   ·skip
    have HR : Hid (rightProof p = false) := Lib.hid (by rw [HRP.out, HFI.out, shortB_hi h2]; simp)
    go_wp2_with fail
    go_ret
    exact ⟨by rw [HR.out]; rfl, HN2.out⟩
   ·have HSH := Lib.hid (shortB_in h1 h2)
    by_cases h3 : (65535 : Int) < (p.leaf.length : Int)
    ·skip
     have HR : Hid (rightProof p = false) := Lib.hid (by rw [HRP.out, HFI.out, HSH.out, decide_eq_false (show ¬ p.leaf.length ≤ 65535 by omega)]; simp)
     go_wp2_with fail
     go_ret
     exact ⟨by rw [HR.out]; rfl, HN2.out⟩
    ·by_cases h4 : (255 : Int) < (p.path.length : Int)
     ·skip
      have HR : Hid (rightProof p = false) := Lib.hid (by rw [HRP.out, HFI.out, HSH.out, decide_eq_true (show p.leaf.length ≤ 65535 by omega), decide_eq_false (show ¬ p.path.length ≤ 255 by omega)]; simp)
      go_wp2_with fail
      go_ret
      exact ⟨by rw [HR.out]; rfl, HN2.out⟩
     ·by_cases h5 : (65535 : Int) < (p.later.length : Int)
      ·skip
       have HR : Hid (rightProof p = false) := Lib.hid (by rw [HRP.out, HFI.out, HSH.out, decide_eq_true (show p.leaf.length ≤ 65535 by omega), decide_eq_true (show p.path.length ≤ 255 by omega), decide_eq_false (show ¬ p.later.length ≤ 65535 by omega)]; simp)
       go_wp2_with fail
       go_ret
       exact ⟨by rw [HR.out]; rfl, HN2.out⟩
      ·have HR0 : Hid (rightProof p = (!(p.path.any fun b => !(b.length == 32)) && !(p.later.any fun h => !fineHead h))) := Lib.hid (by rw [HRP.out, HFI.out, HSH.out, decide_eq_true (show p.leaf.length ≤ 65535 by omega), decide_eq_true (show p.path.length ≤ 255 by omega), decide_eq_true (show p.later.length ≤ 65535 by omega)]; simp)
       have HC1 := Lib.hid (containsB_any D Pa p.path.length pc p.path w2 HPa.out hq1)
       clear HRP HFI HSH
       go_wp2_with fail
       clear x6 x7 x8 x9
       refine HC1.out.mono ?_
       rintro e w3 ⟨rfl, k3⟩
       have x9 := cellOf (k3.blockAt HX2.out trivial) (k := 9) rfl
       have HC2 := Lib.hid (containsH_any E La p.later.length lac p.later w3 (HLa.out.new k3) hq2)
       have HN3 := Lib.hid (HN2.out.new k3)
       clear k3 HC1
       generalize (p.path.any fun x => !(x.length == 32)) = b1 at *
       generalize (p.later.any fun x => !fineHead x) = b2 at *
       cases b1
       ·go_wp2_with fail
        refine HC2.out.mono ?_
        rintro e w4 ⟨rfl, k4⟩
        go_wp2_with fail
        go_ret
        exact ⟨by rw [HR0.out]; cases b2 <;> rfl, HN3.out.new k4⟩
       ·go_wp2_with fail
        go_ret
        exact ⟨by rw [HR0.out]; rfl, HN3.out⟩
set_option maxRecDepth 100000 in
set_option maxHeartbeats 2000000 in
theorem puthead_any (base q : Nat) (D : Nat → Prop) (P1 R1 : Option Addr) (p1 r1 : Nat) (h : HeadP) (bs : List UInt8) (w : World) (hW : Wr w base q bs) (hP : Bs w D P1 h.prev.length h.prev) (hR : Bs w D R1 h.root.length h.root) (hD : ∀ b, D b → b < base) (hf0 : 0 ≤ h.first) (hf1 : h.first ≤ 18446744073709551615) (hn : bs.length + h.prev.length + h.root.length + 100 ≤ 1099511627776) :
  Calls Tryz.prog 67 #[.pointer (some ⟨q, 0, none⟩), .agg #[.int .i64 h.index, .int .u64 h.first, .int .i64 h.count, .int .i64 h.bytes, .slice P1 h.prev.length p1, .slice R1 h.root.length r1]] w fun e w' => e = .returned (.tuple #[]) ∧ Wr w' base q (bs ++ headBytes h) ∧ Keep (fun b => b < base) w w' := by
 have kB := (New.refl w).alloc (.cells #[.int .i64 h.index, .int .u64 h.first, .int .i64 h.count, .int .i64 h.bytes, .slice P1 h.prev.length p1, .slice R1 h.root.length r1] 33)
 have hX := heap_alloc_new w (.cells #[.int .i64 h.index, .int .u64 h.first, .int .i64 h.count, .int .i64 h.bytes, .slice P1 h.prev.length p1, .slice R1 h.root.length r1] 33)
 have h0 : Wr (w.alloc (.cells #[.int .i64 h.index, .int .u64 h.first, .int .i64 h.count, .int .i64 h.bytes, .slice P1 h.prev.length p1, .slice R1 h.root.length r1] 33)) base q bs := hW.keep kB (fun _ _ => trivial)
 have hne : some w.heap.size ≠ rowBlk (w.alloc (.cells #[.int .i64 h.index, .int .u64 h.first, .int .i64 h.count, .int .i64 h.bytes, .slice P1 h.prev.length p1, .slice R1 h.root.length r1] 33)) q := fun e => by
  obtain ⟨A, c, hc, hown, _⟩ := hW.row
  rw [rowBlk_of ((kB.cell (p := ⟨q, 0, none⟩) hW.lt trivial).trans hc)] at e
  have := (own_lt hown _ e.symm).2
  omega
 have hnq : w.heap.size ≠ q := fun e => by have := hW.lt; omega
 have HP := Lib.hid (hP.new kB)
 have HR := Lib.hid (hR.new kB)
 have HK0 : Hid (Keep (fun b => b < base) w (w.alloc _)) := Lib.hid (Keep.of_new kB)
 have HX := Lib.hid (And.intro hX hne)
 have HNQ := Lib.hid hnq
 have HW := Lib.hid h0
 have x0 := cellOf hX (k := 0) rfl
 clear hX hne hnq h0 hW hP hR kB
 go_enter Tryz.func67, Tryz.ntmps67
 go_wp2_with fail
 clear x0
 generalize w.alloc (.cells #[.int .i64 h.index, .int .u64 h.first, .int .i64 h.count, .int .i64 h.bytes, .slice P1 h.prev.length p1, .slice R1 h.root.length r1] 33) = w0 at *
 generalize w.heap.size = gb at *
 refine (wshortW_any base q bs h.index w0 HW.out (by omega)).mono ?_
 rintro e w1 ⟨rfl, hWn, kW⟩
 have hXn := kW.block HX.out.1 HNQ.out HX.out.2
 have x1 := cellOf hXn.1 (k := 1) rfl
 have HX := Lib.hid hXn
 have kL := HW.out.low kW
 have HK1 := Lib.hid (HK0.out.trans kL)
 have HP := Lib.hid (Row.keep HP.out kL (fun b _ hb => hD b hb))
 have HR := Lib.hid (Row.keep HR.out kL (fun b _ hb => hD b hb))
 have HW := Lib.hid hWn
 clear hXn kW kL hWn
 go_wp2_with fail
 clear x1
 refine (wlongW_any base q (bs ++ beI 2 h.index) h.first w1 HW.out hf0 hf1 (by simp only [List.length_append, beI_length]; omega)).mono ?_
 rintro e w2 ⟨rfl, hWn, kW⟩
 have hXn := kW.block HX.out.1 HNQ.out HX.out.2
 have x2 := cellOf hXn.1 (k := 2) rfl
 have HX := Lib.hid hXn
 have kL := HW.out.low kW
 have HK2 := Lib.hid (HK1.out.trans kL)
 have HP := Lib.hid (Row.keep HP.out kL (fun b _ hb => hD b hb))
 have HR := Lib.hid (Row.keep HR.out kL (fun b _ hb => hD b hb))
 have HW := Lib.hid hWn
 clear hXn kW kL hWn
 go_wp2_with fail
 clear x2
 refine (wshortW_any base q (bs ++ beI 2 h.index ++ beI 8 h.first) h.count w2 HW.out (by simp only [List.length_append, beI_length]; omega)).mono ?_
 rintro e w3 ⟨rfl, hWn, kW⟩
 have hXn := kW.block HX.out.1 HNQ.out HX.out.2
 have x3 := cellOf hXn.1 (k := 3) rfl
 have HX := Lib.hid hXn
 have kL := HW.out.low kW
 have HK3 := Lib.hid (HK2.out.trans kL)
 have HP := Lib.hid (Row.keep HP.out kL (fun b _ hb => hD b hb))
 have HR := Lib.hid (Row.keep HR.out kL (fun b _ hb => hD b hb))
 have HW := Lib.hid hWn
 clear hXn kW kL hWn
 go_wp2_with fail
 clear x3
 refine (wshortW_any base q (bs ++ beI 2 h.index ++ beI 8 h.first ++ beI 2 h.count) h.bytes w3 HW.out (by simp only [List.length_append, beI_length]; omega)).mono ?_
 rintro e w4 ⟨rfl, hWn, kW⟩
 have hXn := kW.block HX.out.1 HNQ.out HX.out.2
 have x4 := cellOf hXn.1 (k := 4) rfl
 have HX := Lib.hid hXn
 have kL := HW.out.low kW
 have HK4 := Lib.hid (HK3.out.trans kL)
 have HP := Lib.hid (Row.keep HP.out kL (fun b _ hb => hD b hb))
 have HR := Lib.hid (Row.keep HR.out kL (fun b _ hb => hD b hb))
 have HW := Lib.hid hWn
 clear hXn kW kL hWn
 go_wp2_with fail
 clear x4
 refine (rawW_any base q D P1 h.prev.length p1 (bs ++ beI 2 h.index ++ beI 8 h.first ++ beI 2 h.count ++ beI 2 h.bytes) h.prev w4 HW.out HP.out (by simp only [List.length_append, beI_length]; omega)).mono ?_
 rintro e w5 ⟨rfl, hWn, kW⟩
 have hXn := kW.block HX.out.1 HNQ.out HX.out.2
 have x5 := cellOf hXn.1 (k := 5) rfl
 have HX := Lib.hid hXn
 have kL := HW.out.low kW
 have HK5 := Lib.hid (HK4.out.trans kL)
 have HP := Lib.hid (Row.keep HP.out kL (fun b _ hb => hD b hb))
 have HR := Lib.hid (Row.keep HR.out kL (fun b _ hb => hD b hb))
 have HW := Lib.hid hWn
 clear hXn kW kL hWn
 go_wp2_with fail
 clear x5
 refine (rawW_any base q D R1 h.root.length r1 (bs ++ beI 2 h.index ++ beI 8 h.first ++ beI 2 h.count ++ beI 2 h.bytes ++ h.prev) h.root w5 HW.out HR.out (by simp only [List.length_append, beI_length]; omega)).mono ?_
 rintro e w6 ⟨rfl, hWn, kW⟩
 have hXn := kW.block HX.out.1 HNQ.out HX.out.2
 have HX := Lib.hid hXn
 have kL := HW.out.low kW
 have HK6 := Lib.hid (HK5.out.trans kL)
 have HP := Lib.hid (Row.keep HP.out kL (fun b _ hb => hD b hb))
 have HR := Lib.hid (Row.keep HR.out kL (fun b _ hb => hD b hb))
 have HW := Lib.hid hWn
 clear hXn kW kL hWn
 go_wp2_with fail
 go_end0
 refine ⟨rfl, ?_, HK6.out⟩
 have hw := HW.out
 unfold headBytes
 simpa only [List.append_assoc] using hw
set_option maxRecDepth 100000 in
set_option maxHeartbeats 2000000 in
theorem pencode_any (D E : Nat → Prop) (P1 R1 L Pa La : Option Addr) (p1 r1 lc pc lac : Nat) (p : ProofP) (w : World) (h : PrAt w D p P1 R1 L Pa p1 r1 lc pc) (hLa : Heads w E La p.later.length p.later) (hq1 : p.path.length ≤ 9223372036854775806) (hq2 : p.later.length ≤ 9223372036854775806) :
  Calls Tryz.prog 27 #[.agg #[.int .i64 p.head.index, .int .u64 p.head.first, .int .i64 p.head.count, .int .i64 p.head.bytes, .slice P1 p.head.prev.length p1, .slice R1 p.head.root.length r1, .int .i64 p.place, .slice L p.leaf.length lc, .slice Pa p.path.length pc, .slice La p.later.length lac]] w fun e w' => (∃ A c, e = .returned (.tuple #[.slice A (encodeOf p).1.length c, .int .i64 (encodeOf p).2]) ∧ OwnB w' w.heap.size 5 A (encodeOf p).1.length c (encodeOf p).1) ∧ New w w' := by
 have hpm := Nat.le_trans h.hpa h.hpm
 have kB := (New.refl w).alloc (.cells #[.int .i64 p.head.index, .int .u64 p.head.first, .int .i64 p.head.count, .int .i64 p.head.bytes, .slice P1 p.head.prev.length p1, .slice R1 p.head.root.length r1, .int .i64 p.place, .slice L p.leaf.length lc, .slice Pa p.path.length pc, .slice La p.later.length lac] 36)
 have hX := heap_alloc_new w (.cells #[.int .i64 p.head.index, .int .u64 p.head.first, .int .i64 p.head.count, .int .i64 p.head.bytes, .slice P1 p.head.prev.length p1, .slice R1 p.head.root.length r1, .int .i64 p.place, .slice L p.leaf.length lc, .slice Pa p.path.length pc, .slice La p.later.length lac] 36)
 have HRI := Lib.hid (pright_any D E P1 R1 L Pa La p1 r1 lc pc lac p (w.alloc (.cells #[.int .i64 p.head.index, .int .u64 p.head.first, .int .i64 p.head.count, .int .i64 p.head.bytes, .slice P1 p.head.prev.length p1, .slice R1 p.head.root.length r1, .int .i64 p.place, .slice L p.leaf.length lc, .slice Pa p.path.length pc, .slice La p.later.length lac] 36)) (h.path.new kB) (hLa.new kB) hq1 hq2)
 have HH := Lib.hid ((h.imp (E := fun b => b < w.heap.size) fun b hb _ => hb).new kB)
 have HLa := Lib.hid ((hLa.imp (E := fun b => b < w.heap.size) fun b hb _ => hb).new kB)
 have HX := Lib.hid hX
 have HN := Lib.hid kB
 obtain ⟨x0, x1, x2, x3, x4, x5, x6, x7, x8, x9⟩ := cs10 hX
 clear h hLa hX kB
 go_enter Tryz.func27, Tryz.ntmps27
 go_wp2_with fail
 clear x0 x1 x2 x3 x4 x5 x6 x7 x8 x9
 generalize w.alloc (.cells #[.int .i64 p.head.index, .int .u64 p.head.first, .int .i64 p.head.count, .int .i64 p.head.bytes, .slice P1 p.head.prev.length p1, .slice R1 p.head.root.length r1, .int .i64 p.place, .slice L p.leaf.length lc, .slice Pa p.path.length pc, .slice La p.later.length lac] 36) = w0 at *
 generalize hgb : w.heap.size = gb at *
 refine HRI.out.mono ?_
 rintro e w1 ⟨rfl, k1⟩
 have HX := Lib.hid (k1.blockAt HX.out trivial)
 have HH := Lib.hid (HH.out.new k1)
 have HLa := Lib.hid (HLa.out.new k1)
 have HN := Lib.hid (HN.out.new k1)
 clear k1 HRI
 cases hri : rightProof p
 ·have HE : Hid (encodeOf p = ([], 12)) := Lib.hid (by unfold encodeOf; rw [hri]; rfl)
  clear hri
  go_wp2_with fail
  refine bodyPost_ret (v := .tuple #[.slice none 0 0, .int .i64 12]) (by simp [results, Tryz.results27, go_sem]) rfl ?_
  rw [HE.out]
  exact ⟨⟨none, 0, rfl, Own.nil _ _ _ _⟩, HN.out⟩
 ·have HE : Hid (encodeOf p = (proofBytes p, 0)) := Lib.hid (by unfold encodeOf; rw [hri]; rfl)
  have hsz : p.leaf.length ≤ 65535 ∧ p.path.length ≤ 255 ∧ p.later.length ≤ 65535 ∧ (p.path.all fun b => b.length == 32) = true ∧ (p.later.all fineHead) = true ∧ fineHead p.head = true := right_parts hri
  have HSZ := Lib.hid hsz
  clear hsz hri
  go_wp2_with fail
  refine (newWriter_any w1).mono ?_
  rintro e w2 ⟨⟨q, rfl, hW⟩, k2⟩
  have hgl : gb < w1.heap.size := (Array.getElem?_eq_some_iff.1 HX.out).1
  obtain ⟨bw, hbw⟩ : ∃ bw, bw = w1.heap.size := ⟨_, rfl⟩
  rw [← hbw] at hW hgl
  have HX := Lib.hid (k2.blockAt HX.out trivial)
  have HH := Lib.hid (HH.out.new k2)
  have HLa := Lib.hid (HLa.out.new k2)
  have HK : Hid (Keep (fun b => b < bw) w1 w2) := Lib.hid (Keep.of_new k2)
  have HW := Lib.hid hW
  have HGL := Lib.hid hgl
  have HD : Hid (∀ b, b < gb → b < bw) := Lib.hid fun b hb => by omega
  clear hW k2 hgl
  have hhl : p.head.prev.length = 32 ∧ p.head.root.length = 32 := fine_lens HSZ.out.2.2.2.2.2
  have HHL := Lib.hid hhl
  clear hhl
  obtain ⟨x0, x1, x2, x3, x4, x5⟩ := cs6 HX.out
  go_wp2_with fail
  clear x0 x1 x2 x3 x4 x5
  refine (puthead_any bw q _ P1 R1 p1 r1 p.head [] w2 HW.out HH.out.prev HH.out.root HD.out HH.out.f0 HH.out.f1 (by have := HHL.out; simp only [List.length_nil]; omega)).mono ?_
  rintro e w3 ⟨rfl, hWn, kW⟩
  have HX := Lib.hid (kW.blockAt HX.out HGL.out)
  have HH := Lib.hid (HH.out.keep kW (fun b _ hb => HD.out b hb))
  have HLa := Lib.hid (HLa.out.keep kW (fun b _ hb => HD.out b hb))
  have HK := Lib.hid (HK.out.trans kW)
  have HW := Lib.hid hWn
  clear hWn kW
  obtain ⟨b0, hb0⟩ : ∃ b0, b0 = [] ++ headBytes p.head := ⟨_, rfl⟩
  rw [← hb0] at HW
  have HB0 : Hid (b0 = headBytes p.head ∧ b0.length = 78) := Lib.hid ⟨by rw [hb0, List.nil_append], by rw [hb0, List.nil_append, headBytes_length, HHL.out.1, HHL.out.2]⟩
  clear hb0
  have x6 := cellOf HX.out (k := 6) rfl
  go_wp2_with fail
  clear x6
  refine (wshort_any bw q b0 p.place w3 HW.out (by have := HB0.out.2; omega)).mono ?_
  rintro e w4 ⟨rfl, hWn, kW⟩
  have HX := Lib.hid (kW.blockAt HX.out HGL.out)
  have HH := Lib.hid (HH.out.keep kW (fun b _ hb => HD.out b hb))
  have HLa := Lib.hid (HLa.out.keep kW (fun b _ hb => HD.out b hb))
  have HK := Lib.hid (HK.out.trans kW)
  have HW := Lib.hid hWn
  clear hWn kW
  have x7 := cellOf HX.out (k := 7) rfl
  go_wp2_with fail
  clear x7
  refine (wbytes_any bw q _ L p.leaf.length lc (b0 ++ beI 2 p.place) p.leaf w4 HW.out HH.out.leaf HD.out HH.out.hl (by have := HSZ.out.1; omega) (by rw [List.length_append, beI_length]; have := HB0.out.2; omega)).mono ?_
  rintro e w5 ⟨rfl, hWn, kW⟩
  have HX := Lib.hid (kW.blockAt HX.out HGL.out)
  have HH := Lib.hid (HH.out.keep kW (fun b _ hb => HD.out b hb))
  have HLa := Lib.hid (HLa.out.keep kW (fun b _ hb => HD.out b hb))
  have HK := Lib.hid (HK.out.trans kW)
  have HW := Lib.hid hWn
  clear hWn kW
  have hlb : (lenBytes p.leaf).length ≤ 65537 := by unfold lenBytes; rw [List.length_append, beI_length, List.length_take]; omega
  have HLB := Lib.hid hlb
  clear hlb
  generalize hb1 : b0 ++ beI 2 p.place ++ lenBytes p.leaf = b1 at HW
  have HB1 : Hid (b1 = headBytes p.head ++ beI 2 p.place ++ lenBytes p.leaf ∧ b1.length ≤ 70000) := Lib.hid ⟨by rw [← hb1, HB0.out.1], by rw [← hb1, List.length_append, List.length_append, beI_length]; have := HB0.out.2; have := HLB.out; omega⟩
  clear hb1
  have x8 := cellOf HX.out (k := 8) rfl
  go_wp2_with fail
  clear x8
  refine (wbyte_any bw q b1 (p.path.length : Nat) w5 HW.out (by have := HB1.out.2; omega)).mono ?_
  rintro e w6 ⟨rfl, hWn, kW⟩
  have HX := Lib.hid (kW.blockAt HX.out HGL.out)
  have HH := Lib.hid (HH.out.keep kW (fun b _ hb => HD.out b hb))
  have HLa := Lib.hid (HLa.out.keep kW (fun b _ hb => HD.out b hb))
  have HK := Lib.hid (HK.out.trans kW)
  have HW := Lib.hid hWn
  clear hWn kW
  generalize hb2 : b1 ++ beI 1 ((p.path.length : Nat) : Int) = b2 at HW
  have HB2 : Hid (b2 = headBytes p.head ++ beI 2 p.place ++ lenBytes p.leaf ++ beI 1 (p.path.length : Nat) ∧ b2.length ≤ 70001) := Lib.hid ⟨by rw [← hb2, HB1.out.1], by rw [← hb2, List.length_append, beI_length]; have := HB1.out.2; omega⟩
  clear hb2
  have x8 := cellOf HX.out (k := 8) rfl
  go_wp2_with fail
  clear x8
  go_loopw [33] (fun i wx => ∃ k : Nat, k ≤ p.path.length ∧ i = .int .i64 (k : Int) ∧ Wr wx bw q (b2 ++ (p.path.take k).flatten) ∧ Keep (fun b => b < bw) w6 wx) (fun i _ => p.path.length - (intOf i).toNat)
  case atStart => exact ⟨0, Nat.zero_le _, rfl, by rw [List.take_zero, List.flatten_nil, List.append_nil]; exact HW.out, Keep.refl _ _⟩
  case round =>
   obtain ⟨k, hk, rfl, hWk, hKk⟩ := hrel
   have HWk := Lib.hid hWk
   have HKk := Lib.hid hKk
   clear hWk hKk
   by_cases hlt : k < p.path.length
   ·have HTK : Hid ((p.path.take (k + 1)).flatten = (p.path.take k).flatten ++ p.path[k]) := Lib.hid (by rw [List.take_add_one, List.getElem?_eq_getElem hlt, List.flatten_append]; simp)
    have hl32 : p.path[k].length = 32 := by have h := List.all_eq_true.1 HSZ.out.2.2.2.1 p.path[k] (List.getElem_mem hlt); simpa using h
    have hfl : (p.path.take k).flatten.length = 32 * k := flat_len _ k (by omega) HSZ.out.2.2.2.1
    have hk255 : k ≤ 255 := by have := HSZ.out.2.1; omega
    obtain ⟨b, off, B1, c1, rfl, hbD, u0, hc1, _, hbs⟩ := (HH.out.path.keep HKk.out (fun b _ hb => HD.out b hb)).at_ hlt
    generalize p.path[k] = x at *
    have HWR := Lib.hid (raw_any bw q _ B1 x.length c1 (b2 ++ (p.path.take k).flatten) x wr HWk.out hbs (by rw [List.length_append]; have := HB2.out.2; omega))
    have HHD2 := Lib.hid hl32
    clear hl32 hfl hbs hc1
    go_wp2_with fail
    refine HWR.out.mono ?_
    rintro e w7 ⟨rfl, hWn, kW⟩
    go_wp2_with fail
    go_roundw
    case rel => exact ⟨k + 1, by omega, by go_num, by rw [HTK.out, ← List.append_assoc]; exact hWn, HKk.out.trans kW⟩
    case measure => simp [intOf]; omega
   ·obtain rfl : k = p.path.length := by omega
    have hfl : (p.path.take p.path.length).flatten.length = 32 * p.path.length := flat_len _ _ (Nat.le_refl _) HSZ.out.2.2.2.1
    have HW := HWk.out
    rw [List.take_of_length_le (Nat.le_refl _)] at HW hfl
    generalize hb3 : b2 ++ p.path.flatten = b3 at HW
    have HB3 : Hid (b3 = headBytes p.head ++ beI 2 p.place ++ lenBytes p.leaf ++ beI 1 (p.path.length : Nat) ++ p.path.flatten ∧ b3.length ≤ 90000) := Lib.hid ⟨by rw [← hb3, HB2.out.1], by rw [← hb3, List.length_append, hfl]; have := HB2.out.2; have := HSZ.out.2.1; omega⟩
    replace HW := Lib.hid HW
    have kW := HKk.out
    clear hb3 hfl
    have HX := Lib.hid (kW.blockAt HX.out HGL.out)
    have HH := Lib.hid (HH.out.keep kW (fun b _ hb => HD.out b hb))
    have HLa := Lib.hid (HLa.out.keep kW (fun b _ hb => HD.out b hb))
    have HK := Lib.hid (HK.out.trans kW)
    clear kW HWk HKk
    have x9 := cellOf HX.out (k := 9) rfl
    go_wp2_with fail
    clear x9
    refine (wshort_any bw q b3 (p.later.length : Nat) wr HW.out (by have := HB3.out.2; omega)).mono ?_
    rintro e w8 ⟨rfl, hWn, kW⟩
    have HX := Lib.hid (kW.blockAt HX.out HGL.out)
    have HH := Lib.hid (HH.out.keep kW (fun b _ hb => HD.out b hb))
    have HLa := Lib.hid (HLa.out.keep kW (fun b _ hb => HD.out b hb))
    have HK := Lib.hid (HK.out.trans kW)
    have HW := Lib.hid hWn
    clear hWn kW
    generalize hb4 : b3 ++ beI 2 ((p.later.length : Nat) : Int) = b4 at HW
    have HB4 : Hid (b4 = headBytes p.head ++ beI 2 p.place ++ lenBytes p.leaf ++ beI 1 (p.path.length : Nat) ++ p.path.flatten ++ beI 2 (p.later.length : Nat) ∧ b4.length ≤ 90002) := Lib.hid ⟨by rw [← hb4, HB3.out.1], by rw [← hb4, List.length_append, beI_length]; have := HB3.out.2; omega⟩
    clear hb4
    have x9 := cellOf HX.out (k := 9) rfl
    go_wp2_with fail
    clear x9
    go_loopw [49] (fun i wx => ∃ k : Nat, k ≤ p.later.length ∧ i = .int .i64 (k : Int) ∧ Wr wx bw q (b4 ++ ((p.later.take k).map headBytes).flatten) ∧ Keep (fun b => b < bw) w8 wx) (fun i _ => p.later.length - (intOf i).toNat)
    case atStart => exact ⟨0, Nat.zero_le _, rfl, by rw [List.take_zero, List.map_nil, List.flatten_nil, List.append_nil]; exact HW.out, Keep.refl _ _⟩
    case round =>
     obtain ⟨k, hk, rfl, hWk, hKk⟩ := hrel
     have HWk := Lib.hid hWk
     have HKk := Lib.hid hKk
     clear hWk hKk
     by_cases hlt : k < p.later.length
     ·have HTK : Hid (((p.later.take (k + 1)).map headBytes).flatten = ((p.later.take k).map headBytes).flatten ++ headBytes p.later[k]) := Lib.hid (by rw [List.take_add_one, List.getElem?_eq_getElem hlt, List.map_append, List.flatten_append]; simp)
      have hfx : fineHead p.later[k] = true := List.all_eq_true.1 HSZ.out.2.2.2.2.1 p.later[k] (List.getElem_mem hlt)
      have hfl : ((p.later.take k).map headBytes).flatten.length = 78 * k := heads_len _ k (by omega) HSZ.out.2.2.2.2.1
      have hk6 : k ≤ 65535 := by have := HSZ.out.2.2.1; omega
      obtain ⟨b, off, B1, c1, B2, c2, rfl, hbD, u0, u1, u2, u3, u4, u5, l1, l2, b1x, b2x, f0, f1⟩ := (HLa.out.keep HKk.out (fun b _ hb => HD.out b hb)).at_ hlt
      generalize p.later[k] = x at *
      have kA := (New.refl wr).alloc (.cells #[.int .i64 x.index, .int .u64 x.first, .int .i64 x.count, .int .i64 x.bytes, .slice B1 x.prev.length c1, .slice B2 x.root.length c2] 33)
      have HPU := Lib.hid (puthead_any bw q _ B1 B2 c1 c2 x (b4 ++ ((p.later.take k).map headBytes).flatten) (wr.alloc (.cells #[.int .i64 x.index, .int .u64 x.first, .int .i64 x.count, .int .i64 x.bytes, .slice B1 x.prev.length c1, .slice B2 x.root.length c2] 33)) (HWk.out.keep kA (fun _ _ => trivial)) (b1x.new kA) (b2x.new kA) HD.out f0 f1 (by have := (fine_lens hfx).1; have := (fine_lens hfx).2; rw [List.length_append, hfl]; have := HB4.out.2; omega))
      have HKA : Hid (Keep (fun b => b < bw) w8 (wr.alloc _)) := Lib.hid (HKk.out.trans (Keep.of_new kA))
      have hY := heap_alloc_new wr (.cells #[.int .i64 x.index, .int .u64 x.first, .int .i64 x.count, .int .i64 x.bytes, .slice B1 x.prev.length c1, .slice B2 x.root.length c2] 33)
      clear hfx hfl b1x b2x kA l1 l2 f0 f1
      obtain ⟨y0, y1, y2, y3, y4, y5⟩ := cs6 hY
      clear hY
      go_wp2_with fail
      clear y0 y1 y2 y3 y4 y5
      refine HPU.out.mono ?_
      rintro e w9 ⟨rfl, hWn, kW⟩
      go_wp2_with fail
      go_roundw
      case rel => exact ⟨k + 1, by omega, by go_num, by rw [HTK.out, ← List.append_assoc]; exact hWn, HKA.out.trans kW⟩
      case measure => simp [intOf]; omega
     ·obtain rfl : k = p.later.length := by omega
      have hfl : ((p.later.take p.later.length).map headBytes).flatten.length = 78 * p.later.length := heads_len _ _ (Nat.le_refl _) HSZ.out.2.2.2.2.1
      have HW := HWk.out
      rw [List.take_of_length_le (Nat.le_refl _)] at HW hfl
      have hpb : b4 ++ (p.later.map headBytes).flatten = proofBytes p := by rw [HB4.out.1]; rfl
      have hlen : (proofBytes p).length ≤ 6000000 := by rw [← hpb, List.length_append, hfl]; have := HB4.out.2; have := HSZ.out.2.2.1; omega
      rw [hpb] at HW
      have HDN := Lib.hid (done_any bw q (proofBytes p) wr HW (by omega))
      have HKF := Lib.hid (HK.out.trans HKk.out)
      clear hpb hlen hfl HW
      generalize proofBytes p = pbs at *
      go_wp2_with fail
      refine HDN.out.mono ?_
      rintro e wf ⟨⟨A, c, rfl, hO⟩, kf⟩
      go_wp2_with fail
      refine bodyPost_ret (v := .tuple #[.slice A pbs.length c, .int .i64 0]) (by simp [results, Tryz.results27, go_sem]) rfl ?_
      have hNF : New w wf := (HN.out.new (HKF.out.toNew fun b hb => by rw [hbw]; exact hb)).new kf
      have hNL : w.heap.size ≤ wr.heap.size := (HN.out.new (HKF.out.toNew fun b hb => by rw [hbw]; exact hb)).size
      rw [HE.out]
      exact ⟨⟨A, c, rfl, own_base hO (by rw [← hgb] at *; exact hNL)⟩, hNF⟩
end Go.Proofs.YtfegdgaanmcecaaGreatDoor
