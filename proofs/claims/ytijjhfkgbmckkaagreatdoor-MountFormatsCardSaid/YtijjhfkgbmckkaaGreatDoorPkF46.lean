/-
  PROVED HERE: what mount.Mount answers of a disk that has nothing behind its points; conditions: nothing on the disk is unsafe; the points' states are loaded.
-/
import Derived.Test.YtijjhfkgbmckkaaGreatDoorPkF37
import Derived.Test.YtijjhfkgbmckkaaGreatDoorPkF38
import Derived.Test.YtijjhfkgbmckkaaGreatDoorPkF45
namespace Go.Proofs.YtijjhfkgbmckkaaGreatDoor
open Go.RowKit
set_option maxRecDepth 100000 in
theorem growr0_any (w : World) : Calls Tryz.prog 176 #[.slice none 0 0, .int .i64 0] w fun e w' => e = .returned (.slice none 0 0) ∧ New w w' := by
 go_enter Tryz.func176, Tryz.ntmps176
 go_wp2_with fail
 go_ret
 exact ⟨rfl, New.refl w⟩
set_option maxRecDepth 100000 in
theorem concatr0_any (A : Option Addr) (c : Nat) (w : World) : Calls Tryz.prog 87 #[.slice A 0 c] w fun e w' => e = .returned (.slice none 0 0) ∧ New w w' := by
 have HG := Lib.hid (growr0_any w)
 go_enter Tryz.func87, Tryz.ntmps87
 go_wp2_with fail
 go_loopw [3, 11] (fun s3 s11 wx => s3 = .int .i64 0 ∧ s11 = .int .i64 0 ∧ wx = w) (fun _ _ _ => 0)
 case atStart => exact ⟨rfl, rfl, rfl⟩
 case round =>
  obtain ⟨rfl, rfl, rfl⟩ := hrel
  go_wp2_with fail
  refine HG.out.mono ?_
  rintro e w1 ⟨rfl, k1⟩
  have HK := Lib.hid k1
  clear k1
  go_wp2_with fail
  go_loopw [6, 27] (fun s6 s27 wx => s6 = .slice none 0 0 ∧ s27 = .int .i64 0 ∧ wx = w1) (fun _ _ _ => 0)
  case atStart => exact ⟨rfl, rfl, rfl⟩
  case round =>
   obtain ⟨rfl, rfl, rfl⟩ := hrel
   go_wp2_with fail
   go_ret
   exact ⟨rfl, HK.out⟩
set_option maxHeartbeats 2000000 in
theorem nine_cells {w : World} {g : Nat} {c0 c1 c2 c3 c4 c5 c6 c7 c8 : Value} {t : TypeId} (h : w.heap[g]? = some (.cells #[c0, c1, c2, c3, c4, c5, c6, c7, c8] t (0, 0))) (x0 x1 x2 x3 x4 x5 x6 x7 x8 : Value) :
  (((((((((w.setCell ⟨g, 0, none⟩ x0).setCell ⟨g, 1, none⟩ x1).setCell ⟨g, 2, none⟩ x2).setCell ⟨g, 3, none⟩ x3).setCell ⟨g, 4, none⟩ x4).setCell ⟨g, 5, none⟩ x5).setCell ⟨g, 6, none⟩ x6).setCell ⟨g, 7, none⟩ x7).setCell ⟨g, 8, none⟩ x8).heap[g]? = some (.cells #[x0, x1, x2, x3, x4, x5, x6, x7, x8] t (0, 0)) ∧
  Keep (fun b => b ≠ g) w (((((((((w.setCell ⟨g, 0, none⟩ x0).setCell ⟨g, 1, none⟩ x1).setCell ⟨g, 2, none⟩ x2).setCell ⟨g, 3, none⟩ x3).setCell ⟨g, 4, none⟩ x4).setCell ⟨g, 5, none⟩ x5).setCell ⟨g, 6, none⟩ x6).setCell ⟨g, 7, none⟩ x7).setCell ⟨g, 8, none⟩ x8) := by
 have no : ∀ (W : World) (k : Nat) (u : Value), Keep (fun b => b ≠ g) w W → Keep (fun b => b ≠ g) w (W.setCell ⟨g, k, none⟩ u) := fun W k u hW => hW.setCell (p := ⟨g, k, none⟩) (fun hd => absurd rfl hd) u
 refine ⟨?_, no _ _ _ (no _ _ _ (no _ _ _ (no _ _ _ (no _ _ _ (no _ _ _ (no _ _ _ (no _ _ _ (no _ _ _ (Keep.refl _ w)))))))))⟩
 clear no
 obtain ⟨w1, hw1⟩ : ∃ w', w' = w.setCell ⟨g, 0, none⟩ x0 := ⟨_, rfl⟩
 rw [← hw1]
 have h1 : w1.heap[g]? = some (.cells #[x0, c1, c2, c3, c4, c5, c6, c7, c8] t (0, 0)) := by rw [hw1]; exact setCell_block h 0 x0
 clear hw1
 obtain ⟨w2, hw2⟩ : ∃ w', w' = w1.setCell ⟨g, 1, none⟩ x1 := ⟨_, rfl⟩
 rw [← hw2]
 have h2 : w2.heap[g]? = some (.cells #[x0, x1, c2, c3, c4, c5, c6, c7, c8] t (0, 0)) := by rw [hw2]; exact setCell_block h1 1 x1
 clear h1 hw2
 obtain ⟨w3, hw3⟩ : ∃ w', w' = w2.setCell ⟨g, 2, none⟩ x2 := ⟨_, rfl⟩
 rw [← hw3]
 have h3 : w3.heap[g]? = some (.cells #[x0, x1, x2, c3, c4, c5, c6, c7, c8] t (0, 0)) := by rw [hw3]; exact setCell_block h2 2 x2
 clear h2 hw3
 obtain ⟨w4, hw4⟩ : ∃ w', w' = w3.setCell ⟨g, 3, none⟩ x3 := ⟨_, rfl⟩
 rw [← hw4]
 have h4 : w4.heap[g]? = some (.cells #[x0, x1, x2, x3, c4, c5, c6, c7, c8] t (0, 0)) := by rw [hw4]; exact setCell_block h3 3 x3
 clear h3 hw4
 obtain ⟨w5, hw5⟩ : ∃ w', w' = w4.setCell ⟨g, 4, none⟩ x4 := ⟨_, rfl⟩
 rw [← hw5]
 have h5 : w5.heap[g]? = some (.cells #[x0, x1, x2, x3, x4, c5, c6, c7, c8] t (0, 0)) := by rw [hw5]; exact setCell_block h4 4 x4
 clear h4 hw5
 obtain ⟨w6, hw6⟩ : ∃ w', w' = w5.setCell ⟨g, 5, none⟩ x5 := ⟨_, rfl⟩
 rw [← hw6]
 have h6 : w6.heap[g]? = some (.cells #[x0, x1, x2, x3, x4, x5, c6, c7, c8] t (0, 0)) := by rw [hw6]; exact setCell_block h5 5 x5
 clear h5 hw6
 obtain ⟨w7, hw7⟩ : ∃ w', w' = w6.setCell ⟨g, 6, none⟩ x6 := ⟨_, rfl⟩
 rw [← hw7]
 have h7 : w7.heap[g]? = some (.cells #[x0, x1, x2, x3, x4, x5, x6, c7, c8] t (0, 0)) := by rw [hw7]; exact setCell_block h6 6 x6
 clear h6 hw7
 obtain ⟨w8, hw8⟩ : ∃ w', w' = w7.setCell ⟨g, 7, none⟩ x7 := ⟨_, rfl⟩
 rw [← hw8]
 have h8 : w8.heap[g]? = some (.cells #[x0, x1, x2, x3, x4, x5, x6, x7, c8] t (0, 0)) := by rw [hw8]; exact setCell_block h7 7 x7
 clear h7 hw8
 obtain ⟨w9, hw9⟩ : ∃ w', w' = w8.setCell ⟨g, 8, none⟩ x8 := ⟨_, rfl⟩
 rw [← hw9]
 have h9 : w9.heap[g]? = some (.cells #[x0, x1, x2, x3, x4, x5, x6, x7, x8] t (0, 0)) := by rw [hw9]; exact setCell_block h8 8 x8
 clear h8 hw9
 exact h9
abbrev foundZero : Array Value := #[.int .i64 0, .int .i64 0, .int .i64 0, .slice none 0 0, .int .u64 0, .int .u64 0, .int .i64 0, .int .i64 0, .slice none 0 0]
theorem lopen_any {w : World} {q : DiskB} {S : List UInt8} {s p g fr : Nat} (hC : Clean w q S) (hk : S.length = s * 128) (hp : planRight s p g = true) (hf : fr ≤ g) {D3 D4 : Nat → Prop} (Hd : Option Addr) (hdc : Nat) (hb : List UInt8) (hH : Bs w D3 Hd 32 hb)
  (next : Int) (hn1 : 1 ≤ next) (hn2 : next ≤ 1099511627776) (I : Option Addr) (ni ci : Nat) (id : List UInt8) (hI : Bs w D4 I ni id) (hci : ni ≤ ci) (hni : ni ≤ 1000000) :
  Calls Tryz.prog 84 #[.pointer (some ⟨q.bd, 0, none⟩), .agg #[.int .i64 s, .int .i64 p, .int .i64 g], .slice I ni ci, .int .i64 fr, .slice Hd 32 hdc, .int .u64 next] w (OpenRet w q S s p g fr (openNext fr next) (openHead fr id hb)) := by
 by_cases h : fr = 0
 ·exact lopen_zero hC hk hp hf h Hd hdc hb hH next hn1 hn2 I ni ci id hI hci hni
 ·exact lopen_pos hC hk hp hf h Hd hdc hb hH next hn1 hn2 I ni ci id hI hci hni
def MountRet (w : World) (c : Col) (J : Cols) (q : DiskB) (S : List UInt8) (k p g fr : Nat) (id : List UInt8) (m : MarkP) (s : StateP) (e : Ending) (w' : World) : Prop :=
 ∃ b B c' bl I ci H hc, e = .returned (.tuple #[.pointer (some ⟨b, 0, none⟩), .pointer (some ⟨bl, 0, none⟩), .agg #[.int .i64 k, .int .i64 p, .int .i64 g, .slice I 16 ci, .int .u64 m.gen, .int .u64 m.seq, .int .i64 fr, .int .i64 0, .slice H 32 hc], .int .i64 0]) ∧
  New w w' ∧ w.heap.size ≤ b ∧ Ext w c c' ∧ StateAt w' c' J b B s.settled ∧ w.heap.size ≤ bl ∧ LogOn w' (fun b => w.heap.size ≤ b ∧ b ≠ bl) w.heap.size bl q ⟨k, p, g, fr, openNext fr (m.seq + 1), openHead fr id m.head, []⟩ none 0 S ∧
  Bs w' (fun b => w.heap.size ≤ b) I 16 id ∧ 16 ≤ ci ∧ Bs w' (fun b => w.heap.size ≤ b) H 32 (openHead fr id m.head) ∧ 32 ≤ hc
set_option maxRecDepth 100000 in
set_option maxHeartbeats 8000000 in
theorem mmount_quiet {w : World} {q : DiskB} {S : List UInt8} {k fr : Nat} {id : List UInt8} (h : Clean w q S) (hk : S.length = k * 128) (hsup : superOf (S.take 128) = some (k, id)) {m0 m1 m : MarkP} {s0 s1 s : StateP}
  (h0 : PointOk S (k / 4) ((k - 1 - 2 * (k / 4)) / 8) 0 m0 s0) (h1 : PointOk S (k / 4) ((k - 1 - 2 * (k / 4)) / 8) 1 m1 s1) (hpick : (m1.gen ≤ m0.gen ∧ m = m0 ∧ s = s0) ∨ (¬ m1.gen ≤ m0.gen ∧ m = m1 ∧ s = s1)) (hfr : m.segs = fr) (hseq : m.seq < 1099511627776)
  (hfd : foundIn S (k / 4) ((k - 1 - 2 * (k / 4)) / 8 - fr) fr (openNext fr (m.seq + 1)) (openHead fr id m.head) = []) (hbe : ∀ i, fr + 1 ≤ i → i < (k - 1 - 2 * (k / 4)) / 8 → ¬ readAt S (k / 4) i)
  (hn : s.T.length ≤ 100000) (hkey : ∀ p ∈ s.T, -9223372036854775808 ≤ p.1 ∧ p.1 ≤ 9223372036854775807) (hs : s.S.list.length ≤ 1000000) (c : Col) (J : Cols) (hJ : J.Ok) :
  Calls Tryz.prog 31 #[.pointer (some ⟨q.bd, 0, none⟩)] w (MountRet w c J q S k (k / 4) ((k - 1 - 2 * (k / 4)) / 8) fr id m s) := by
 obtain ⟨k', e', h64, h4096⟩ := h.size
 obtain rfl : k' = k := by omega
 clear e'
 have hp : planRight (k' : Int) ((k' / 4 : Nat) : Int) (((k' - 1 - 2 * (k' / 4)) / 8 : Nat) : Int) = true := planRight_iff.2 (by omega)
 obtain ⟨p, hpe⟩ : ∃ p, p = k' / 4 := ⟨_, rfl⟩
 obtain ⟨g, hge⟩ : ∃ g, g = (k' - 1 - 2 * p) / 8 := ⟨_, rfl⟩
 have HSP := Lib.hid (fun W (hW : New w W) => msuper_any (h.new hW) hk)
 have hmok : MarkOk (p : Int) (g : Int) m := by
  rw [hge, hpe]
  rcases hpick with ⟨-, rfl, -⟩ | ⟨-, rfl, -⟩
  ·exact h0.ok
  ·exact h1.ok
 rw [← hpe] at h0 h1 hfd hbe hp ⊢
 rw [← hge] at h0 h1 hfd hbe hp ⊢
 have HSR : Hid (∀ W e w', MSuperRet W k' S e w' → (∃ A' c', e = .returned (.tuple #[.agg #[.int .i64 (k' : Int), .int .i64 (p : Int), .int .i64 (g : Int)], .slice A' 16 c', .int .i64 0]) ∧ OwnB w' W.heap.size 5 A' 16 c' id) ∧ New W w') := Lib.hid fun W e w' hh => by
  unfold MSuperRet at hh
  rw [hsup] at hh
  dsimp only at hh
  rw [if_pos rfl, ← hpe, ← hge] at hh
  exact hh
 have HNW := Lib.hid (fun W (hW : New w W) (c : Col) => mnewest_any (h.new hW) hk hp h0 h1 c ⟨1, 2, 3⟩ ⟨⟨by decide, by decide, by decide⟩, by decide, by decide, by decide⟩ hpick)
 have hfg : fr ≤ g := by have := hmok.segs.2; omega
 have hgb : g ≤ 512 := by omega
 have hq0 := hmok.seq.1
 have HOP := Lib.hid (fun W (hW : New w W) (Hd I : Option Addr) (hdc ci : Nat) (D3 D4 : Nat → Prop) (hH : Bs W D3 Hd 32 m.head) (hI : Bs W D4 I 16 id) (hci : 16 ≤ ci) => lopen_any (h.new hW) hk hp hfg Hd hdc m.head hH (m.seq + 1) (by omega) (by omega) I 16 ci id hI hci (by decide))
 have HBE := Lib.hid (fun W (hW : New w W) => mbehind_any (fr := fr + 1) (b := false) (h.new hW) hk hp (by omega) ⟨fun h => (by cases h), fun ⟨i, g1, g2, g3⟩ => absurd g3 (hbe i g1 g2)⟩)
 have HFD := Lib.hid hfd
 have HST := Lib.hid (And.intro hn (And.intro hkey (And.intro hs hJ)))
 have q1 : IntKind.u64.wrap (m.seq + 1) = m.seq + 1 := by rw [IntKind.wrap_u64]; omega
 have q2 : IntKind.i64.wrap ((fr : Int) + 1) = (fr : Int) + 1 := IntWalk.i64_in _ (by omega)
 have d1 : decide (1099511627776 ≤ m.seq) = false := decide_eq_false (by omega)
 have HCL := Lib.hid (And.intro h (And.intro hk hp))
 have HFR := Lib.hid hfr
 clear h hk hsup h0 h1 hpick hfr hseq hfd hbe hn hkey hs hJ hp hpe hge hmok
 have kA := (New.refl w).alloc (.cells foundZero 59)
 have xA := heap_alloc_new w (.cells foundZero 59)
 go_enter Tryz.func31, Tryz.ntmps31
 go_upto_region 1 with fail
 obtain ⟨gr, hgr⟩ : ∃ gr, gr = w.heap.size := ⟨_, rfl⟩
 rw [← hgr] at xA ⊢
 generalize w.alloc (.cells foundZero 59) = w1 at *
 have HGR := Lib.hid hgr
 have HX := Lib.hid xA
 have HK := Lib.hid kA
 have HS1 := Lib.hid (HSP.out w1 kA)
 clear xA kA hgr HSP
 go_wp2_with fail
 refine HS1.out.mono ?_
 rintro e w2 hret
 obtain ⟨⟨I, ci, rfl, o2⟩, k2⟩ := HSR.out _ _ _ hret
 have hgz : gr < w1.heap.size := (Array.getElem?_eq_some_iff.1 HX.out).1
 replace HX := Lib.hid (k2.blockAt HX.out trivial)
 have HK2 := Lib.hid (HK.out.new k2)
 have HZI := Lib.hid (And.intro (own_cap o2) (own_capMax o2))
 have HI := Lib.hid (Row.of_own o2)
 clear HS1 HSR k2 o2 hret
 go_upto_region 4 with fail
 have kB := (New.refl w2).alloc (.cells #[.int .i64 k', .int .i64 p, .int .i64 g] 57)
 have xB := heap_alloc_new w2 (.cells #[.int .i64 k', .int .i64 p, .int .i64 g] 57)
 generalize w2.alloc (.cells #[.int .i64 k', .int .i64 p, .int .i64 g] 57) = w3 at *
 generalize hgp : w2.heap.size = gp at *
 replace HX := Lib.hid (kB.blockAt HX.out trivial)
 have HXP := Lib.hid xB
 have HG3 : Hid (gr < w3.heap.size) := Lib.hid (Array.getElem?_eq_some_iff.1 HX.out).1
 have HK3 := Lib.hid (HK2.out.new kB)
 replace HI := Lib.hid (HI.out.new kB)
 obtain ⟨p0, p1, p2⟩ := cs3 xB
 have HNW3 := Lib.hid (HNW.out w3 HK3.out (c.on w.heap.size fun _ => J.t + J.s + J.o + 10))
 clear kB xB HNW HK2
 go_wp2_with fail
 refine HNW3.out.mono ?_
 rintro e w4 ⟨v, b, B, c1, rfl, mk, k4, z4, e4, st4⟩
 obtain ⟨Hd, hc, Bd, dc, rfl, r1, r2⟩ := mk
 obtain ⟨dn, hdn⟩ : ∃ dn, dn = m.data.length := ⟨_, rfl⟩
 rw [← hdn]
 have HS4 := Lib.hid (And.intro z4 (And.intro e4 st4))
 have HH := Lib.hid r1
 have HZ34 := Lib.hid k4.size
 replace HX := Lib.hid (k4.blockAt HX.out trivial)
 replace HXP := Lib.hid (k4.blockAt HXP.out trivial)
 have HK4 := Lib.hid (HK3.out.new k4)
 replace HI := Lib.hid (HI.out.new k4)
 clear p0 p1 p2 HNW3 k4 z4 e4 st4 r1 r2 hdn
 go_upto_region 7 with fail
 have kM := (New.refl w4).alloc (.cells #[.int .u64 m.gen, .int .u64 m.seq, .int .i64 m.segs, .slice Hd 32 hc, .slice Bd dn dc] 97)
 have xM := heap_alloc_new w4 (.cells #[.int .u64 m.gen, .int .u64 m.seq, .int .i64 m.segs, .slice Hd 32 hc, .slice Bd dn dc] 97)
 generalize w4.alloc (.cells #[.int .u64 m.gen, .int .u64 m.seq, .int .i64 m.segs, .slice Hd 32 hc, .slice Bd dn dc] 97) = w5 at *
 generalize hgm : w4.heap.size = gm at *
 rw [HFR.out] at xM
 have HXM := Lib.hid xM
 replace HX := Lib.hid (kM.blockAt HX.out trivial)
 replace HXP := Lib.hid (kM.blockAt HXP.out trivial)
 have HK5 := Lib.hid (HK4.out.new kM)
 replace HI := Lib.hid (HI.out.new kM)
 have HKM := Lib.hid kM
 have HKQ : Hid (w3.heap.size ≤ w5.heap.size ∧ gr < w5.heap.size ∧ gr < w3.heap.size) := Lib.hid (by have h3 := HZ34.out; have h4 := (Array.getElem?_eq_some_iff.1 HXM.out).1; have := HG3.out; omega)
 replace HH := Lib.hid (And.intro (HH.out.1.new kM) HH.out.2)
 obtain ⟨p0, p1, p2⟩ := cs3 HXP.out
 have y1 := cellOf HXM.out (k := 1) rfl
 have y2 := cellOf HXM.out (k := 2) rfl
 have y3 := cellOf HXM.out (k := 3) rfl
 have HOP5 := Lib.hid (HOP.out w5 HK5.out Hd I hc ci _ _ HH.out.1 HI.out HZI.out.1)
 clear kM xM HOP HK4
 go_wp2_with fail
 refine HOP5.out.mono ?_
 rintro e w6 ⟨k6, bl, Ao, co, fd, hfd, rfl, hbl, hlog, -⟩
 rw [HFD.out] at hfd
 subst hfd
 have hlog' : LogOn w6 (fun b => w5.heap.size ≤ b ∧ b ≠ bl) w5.heap.size bl q ⟨k', p, g, fr, openNext fr (m.seq + 1), openHead fr id m.head, []⟩ none 0 S := hlog
 have HLOG := Lib.hid hlog'
 have HK56 := Lib.hid k6.size
 have HBL := Lib.hid hbl
 replace HX := Lib.hid (k6.blockAt HX.out trivial)
 replace HXP := Lib.hid (k6.blockAt HXP.out trivial)
 replace HXM := Lib.hid (k6.blockAt HXM.out trivial)
 have HK6 := Lib.hid (HK5.out.new k6)
 replace HI := Lib.hid (HI.out.new k6)
 have HKM6 := Lib.hid (HKM.out.new k6)
 have HSE := Lib.hid (fun W (hW : New w6 W) => sealed21_any (hlog'.log.new hW))
 have HHE := Lib.hid (fun W (hW : New w6 W) => head21_any (hlog'.log.new hW))
 dsimp only at HSE HHE
 have HBE6 := Lib.hid (fun W (hW : New w6 W) => HBE.out W (HK6.out.new hW))
 clear p0 p1 p2 y1 y2 y3 HOP5 k6 hlog hlog' hbl HH HFD HBE
 have p0 : ∀ W, Keep (fun _ => True) w6.drew W → W.cell? ⟨gp, 0, none⟩ = some (.int .i64 k') := fun W hW => hW.cell_some (cellOf (w := w6.drew) HXP.out (k := 0) rfl) trivial
 have p1 : ∀ W, Keep (fun _ => True) w6.drew W → W.cell? ⟨gp, 1, none⟩ = some (.int .i64 p) := fun W hW => hW.cell_some (cellOf (w := w6.drew) HXP.out (k := 1) rfl) trivial
 have p2 : ∀ W, Keep (fun _ => True) w6.drew W → W.cell? ⟨gp, 2, none⟩ = some (.int .i64 g) := fun W hW => hW.cell_some (cellOf (w := w6.drew) HXP.out (k := 2) rfl) trivial
 have hdr6 : New w6 w6.drew := Keep.drew (New.refl w6)
 have hcast : (((fr + 1 : Nat)) : Int) = (fr : Int) + 1 := by omega
 rw [hcast] at HBE6
 clear hcast
 go_upto_region 10 with fail
 refine hold_beginS (Keep (fun _ => True) w6.drew) (by kernel_rfl) ?_
 have n0 : Keep (fun _ => True) w6.drew w6.drew := Keep.refl _ _
 refine take0 0 n0 ?_
 refine take0 1 n0 ?_
 refine take0 2 n0 ?_
 refine take0 3 n0 ?_
 refine take0 4 n0 ?_
 refine take0 5 n0 ?_
 refine hold_step0 (i := 6) (by kernel_rfl) rfl rfl (fun K hK => ?_)
 go_simp
 refine (HSE.out _ (hdr6.new n0)).mono ?_
 rintro e w7 ⟨rfl, k7⟩
 go_wp2_with fail
 have n1 := Keep.new n0 k7
 refine hK.out _ _ n1 ?_
 clear hK K
 try simp only [Act.put, ly1, ly2, ly3, ly4, ly5, ly6]
 replace n0 := n1
 clear n1
 refine take0 7 n0 ?_
 refine hold_step0 (i := 8) (by kernel_rfl) rfl rfl (fun K hK => ?_)
 go_simp
 refine (HBE6.out _ (hdr6.new n0)).mono ?_
 rintro e w8 ⟨rfl, k8⟩
 go_wp2_with fail
 have n1 := Keep.new n0 k8
 refine hK.out _ _ n1 ?_
 clear hK K
 try simp only [Act.put, ly1, ly2, ly3, ly4, ly5, ly6]
 replace n0 := n1
 clear n1
 refine take0 9 n0 ?_
 refine wpAnyH_done (by kernel_rfl) ?_ _
 have kw8 : New w6 w8 := hdr6.new n0
 have HK8 := Lib.hid kw8
 clear p0 p1 p2 n0 k7 k8 kw8 hdr6 HBE6
 go_upto_region 12 with fail
 go_cut [14] from 71 to 81 (fun s14 wx => ∃ (gf : Nat) (H : Option Addr) (hcH : Nat), s14 = .pointer (some ⟨gf, 0, none⟩) ∧ w8.heap.size ≤ gf ∧ wx.heap[gf]? = some (.cells #[.int .i64 k', .int .i64 p, .int .i64 g, .slice I 16 ci, .int .u64 m.gen, .int .u64 m.seq, .int .i64 fr, .int .i64 0, .slice H 32 hcH] 59 (0, 0)) ∧ Bs wx (fun b => w8.heap.size ≤ b ∧ b ≠ gf) H 32 (openHead fr id m.head) ∧ (32 ≤ hcH ∧ hcH ≤ 9223372036854775807) ∧ New w8 wx)
 case first =>
  have HSE8 := Lib.hid (fun W (hW : New w8 W) => HSE.out W (HK8.out.new hW))
  have HHE8 := Lib.hid (fun W (hW : New w8 W) => HHE.out W (HK8.out.new hW))
  have hdr8 : New w8 w8.drew := Keep.drew (New.refl w8)
  have p0 : ∀ W, Keep (fun _ => True) w8.drew W → W.cell? ⟨gp, 0, none⟩ = some (.int .i64 k') := fun W hW => hW.cell_some (cellOf (w := w8.drew) (HK8.out.blockAt HXP.out trivial) (k := 0) rfl) trivial
  have p1 : ∀ W, Keep (fun _ => True) w8.drew W → W.cell? ⟨gp, 1, none⟩ = some (.int .i64 p) := fun W hW => hW.cell_some (cellOf (w := w8.drew) (HK8.out.blockAt HXP.out trivial) (k := 1) rfl) trivial
  have p2 : ∀ W, Keep (fun _ => True) w8.drew W → W.cell? ⟨gp, 2, none⟩ = some (.int .i64 g) := fun W hW => hW.cell_some (cellOf (w := w8.drew) (HK8.out.blockAt HXP.out trivial) (k := 2) rfl) trivial
  have y0 : ∀ W, Keep (fun _ => True) w8.drew W → W.cell? ⟨gm, 0, none⟩ = some (.int .u64 m.gen) := fun W hW => hW.cell_some (cellOf (w := w8.drew) (HK8.out.blockAt HXM.out trivial) (k := 0) rfl) trivial
  have y1 : ∀ W, Keep (fun _ => True) w8.drew W → W.cell? ⟨gm, 1, none⟩ = some (.int .u64 m.seq) := fun W hW => hW.cell_some (cellOf (w := w8.drew) (HK8.out.blockAt HXM.out trivial) (k := 1) rfl) trivial
  refine hold_beginS (Keep (fun _ => True) w8.drew) (by kernel_rfl) ?_
  have n0 : Keep (fun _ => True) w8.drew w8.drew := Keep.refl _ _
  have hzd : Hid (w8.drew.heap.size = w8.heap.size) := Lib.hid rfl
  generalize w8.drew = wd at *
  refine take0 0 n0 ?_
  refine take0 1 n0 ?_
  refine take0 2 n0 ?_
  refine take0 3 n0 ?_
  refine take0 4 n0 ?_
  refine take0 5 n0 ?_
  refine take0 6 n0 ?_
  refine take0 8 n0 ?_
  clear p0 p1 p2 y0 y1
  refine hold_fork0 (i := 7) (j := 11) (by kernel_rfl) rfl rfl rfl rfl (fun K hK => ?_) (fun K hK => ?_)
  ·skip
   go_simp
   refine (HSE8.out _ (hdr8.new n0)).mono ?_
   rintro e w9 ⟨rfl, k_w9⟩
   go_wp2_with fail
   have n_w9 := Keep.new n0 k_w9
   refine hK.out _ _ n_w9 ?_
   clear hK K
   try simp only [Act.put, ly1, ly2, ly3, ly4, ly5, ly6]
   refine hold_fork0 (i := 9) (j := 11) (by kernel_rfl) rfl rfl rfl rfl (fun K hK => ?_) (fun K hK => ?_)
   ·skip
    go_simp
    refine (HHE8.out _ (hdr8.new n_w9)).mono ?_
    rintro e wa ⟨⟨H, hcH, rfl, oH⟩, k_wa⟩
    go_wp2_with fail
    have n_wa := Keep.new n_w9 k_wa
    refine hK.out _ _ n_wa ?_
    clear hK K
    try simp only [Act.put, ly1, ly2, ly3, ly4, ly5, ly6]
    have bH := Row.of_own oH
    have cH := And.intro (own_cap oH) (own_capMax oH)
    refine take0 10 n_wa ?_
    refine hold_step0 (i := 11) (by kernel_rfl) rfl rfl (fun K hK => ?_)
    go_simp
    try go_wp2_with fail
    have k_wb := (New.refl wa).alloc (.cells foundZero 59)
    have xF := heap_alloc_new wa (.cells foundZero 59)
    have n_wb := Keep.new n_wa k_wb
    refine hK.out _ _ n_wb ?_
    clear hK K
    try simp only [Act.put, ly1, ly2, ly3, ly4, ly5, ly6]
    generalize hnx : wa.alloc (.cells foundZero 59) = wb at *
    generalize hgf : wa.heap.size = gf at *
    have hgfl : w8.heap.size ≤ gf := by rw [← hgf]; exact (hdr8.new n_wa).size
    have bHs : Bs wb (fun b => w8.heap.size ≤ b ∧ b ≠ gf) H 32 (openHead fr id m.head) := (bH.imp (E := fun b => w8.heap.size ≤ b ∧ b ≠ gf) fun b hb hd => ⟨Nat.le_trans (hdr8.new n_w9).size hd, by omega⟩).new k_wb
    have hszc := Keep.size n_wb
    obtain ⟨f0, f1, f2, f3, f4, f5, f6, f7, f8⟩ := cs9 xF
    obtain ⟨z0, z1, z2, z3, z4, z5, z6, z7, z8⟩ := fz9 xF
    have hbf : w8.heap.size ≤ gf := hgfl
    obtain ⟨hE, hKE⟩ := nine_cells xF (.int .i64 k') (.int .i64 p) (.int .i64 g) (.slice I 16 ci) (.int .u64 m.gen) (.int .u64 m.seq) (.int .i64 fr) (.int .i64 0) (.slice H 32 hcH)
    have nE : Keep (fun _ => True) wd _ := Keep.trans2 n_wb hKE fun b hb _ => by have := hzd.out; show b ≠ gf; omega
    refine hold_step0 (i := 12) (by kernel_rfl) rfl rfl (fun K hK => ?_)
    go_simp
    try go_wp2_with fail
    clear f0 f1 f2 f3 f4 f5 f6 f7 f8 z0 z1 z2 z3 z4 z5 z6 z7 z8
    refine hK.out _ _ nE ?_
    clear hK K
    try simp only [Act.put, ly1, ly2, ly3, ly4, ly5, ly6]
    refine wpAnyH_done (by kernel_rfl) ?_ _
    generalize hwE : World.setCell _ _ _ = wE at *
    go_wp2_with fail
    go_meet
    exact ⟨gf, H, hcH, rfl, hbf, hE, bHs.keep hKE fun b _ hb => hb.2, cH, hdr8.new nE⟩
   ·skip
    go_simp
    try go_wp2_with fail
    have k_wa := (New.refl w9).alloc (.cells foundZero 59)
    have xF := heap_alloc_new w9 (.cells foundZero 59)
    have n_wa := Keep.new n_w9 k_wa
    refine hK.out _ _ n_wa ?_
    clear hK K
    try simp only [Act.put, ly1, ly2, ly3, ly4, ly5, ly6]
    generalize hnx : w9.alloc (.cells foundZero 59) = wa at *
    generalize hgf : w9.heap.size = gf at *
    have hgfl : w8.heap.size ≤ gf := by rw [← hgf]; exact (hdr8.new n_w9).size
    refine hold_step0 (i := 9) (by kernel_rfl) rfl rfl (fun K hK => ?_)
    go_simp
    refine (HHE8.out _ (hdr8.new n_wa)).mono ?_
    rintro e wb ⟨⟨H, hcH, rfl, oH⟩, k_wb⟩
    go_wp2_with fail
    have n_wb := Keep.new n_wa k_wb
    refine hK.out _ _ n_wb ?_
    clear hK K
    try simp only [Act.put, ly1, ly2, ly3, ly4, ly5, ly6]
    have bH := Row.of_own oH
    have cH := And.intro (own_cap oH) (own_capMax oH)
    refine take0 10 n_wb ?_
    have hga : gf < wa.heap.size := (Array.getElem?_eq_some_iff.1 xF).1
    have xF := k_wb.blockAt xF trivial
    have bHs : Bs wb (fun b => w8.heap.size ≤ b ∧ b ≠ gf) H 32 (openHead fr id m.head) := bH.imp fun b _ hd => ⟨Nat.le_trans (hdr8.new n_wa).size hd, by omega⟩
    have hszc := Keep.size n_wb
    obtain ⟨f0, f1, f2, f3, f4, f5, f6, f7, f8⟩ := cs9 xF
    obtain ⟨z0, z1, z2, z3, z4, z5, z6, z7, z8⟩ := fz9 xF
    have hbf : w8.heap.size ≤ gf := hgfl
    obtain ⟨hE, hKE⟩ := nine_cells xF (.int .i64 k') (.int .i64 p) (.int .i64 g) (.slice I 16 ci) (.int .u64 m.gen) (.int .u64 m.seq) (.int .i64 fr) (.int .i64 0) (.slice H 32 hcH)
    have nE : Keep (fun _ => True) wd _ := Keep.trans2 n_wb hKE fun b hb _ => by have := hzd.out; show b ≠ gf; omega
    refine hold_step0 (i := 12) (by kernel_rfl) rfl rfl (fun K hK => ?_)
    go_simp
    try go_wp2_with fail
    clear f0 f1 f2 f3 f4 f5 f6 f7 f8 z0 z1 z2 z3 z4 z5 z6 z7 z8
    refine hK.out _ _ nE ?_
    clear hK K
    try simp only [Act.put, ly1, ly2, ly3, ly4, ly5, ly6]
    refine wpAnyH_done (by kernel_rfl) ?_ _
    generalize hwE : World.setCell _ _ _ = wE at *
    go_wp2_with fail
    go_meet
    exact ⟨gf, H, hcH, rfl, hbf, hE, bHs.keep hKE fun b _ hb => hb.2, cH, hdr8.new nE⟩
  ·skip
   go_simp
   try go_wp2_with fail
   have k_w9 := (New.refl wd).alloc (.cells foundZero 59)
   have xF := heap_alloc_new wd (.cells foundZero 59)
   have n_w9 := Keep.new n0 k_w9
   refine hK.out _ _ n_w9 ?_
   clear hK K
   try simp only [Act.put, ly1, ly2, ly3, ly4, ly5, ly6]
   generalize hnx : wd.alloc (.cells foundZero 59) = w9 at *
   generalize hgf : wd.heap.size = gf at *
   have hgfl : w8.heap.size ≤ gf := by have := hzd.out; omega
   refine hold_step0 (i := 7) (by kernel_rfl) rfl rfl (fun K hK => ?_)
   go_simp
   refine (HSE8.out _ (hdr8.new n_w9)).mono ?_
   rintro e wa ⟨rfl, k_wa⟩
   go_wp2_with fail
   have n_wa := Keep.new n_w9 k_wa
   refine hK.out _ _ n_wa ?_
   clear hK K
   try simp only [Act.put, ly1, ly2, ly3, ly4, ly5, ly6]
   have hga : gf < w9.heap.size := (Array.getElem?_eq_some_iff.1 xF).1
   have xF := k_wa.blockAt xF trivial
   refine hold_step0 (i := 9) (by kernel_rfl) rfl rfl (fun K hK => ?_)
   go_simp
   refine (HHE8.out _ (hdr8.new n_wa)).mono ?_
   rintro e wb ⟨⟨H, hcH, rfl, oH⟩, k_wb⟩
   go_wp2_with fail
   have n_wb := Keep.new n_wa k_wb
   refine hK.out _ _ n_wb ?_
   clear hK K
   try simp only [Act.put, ly1, ly2, ly3, ly4, ly5, ly6]
   have bH := Row.of_own oH
   have cH := And.intro (own_cap oH) (own_capMax oH)
   refine take0 10 n_wb ?_
   have xF := k_wb.blockAt xF trivial
   have bHs : Bs wb (fun b => w8.heap.size ≤ b ∧ b ≠ gf) H 32 (openHead fr id m.head) := bH.imp fun b _ hd => ⟨Nat.le_trans (hdr8.new n_wa).size hd, by have := Keep.size k_wa; omega⟩
   have hszc := Keep.size n_wb
   obtain ⟨f0, f1, f2, f3, f4, f5, f6, f7, f8⟩ := cs9 xF
   obtain ⟨z0, z1, z2, z3, z4, z5, z6, z7, z8⟩ := fz9 xF
   have hbf : w8.heap.size ≤ gf := hgfl
   obtain ⟨hE, hKE⟩ := nine_cells xF (.int .i64 k') (.int .i64 p) (.int .i64 g) (.slice I 16 ci) (.int .u64 m.gen) (.int .u64 m.seq) (.int .i64 fr) (.int .i64 0) (.slice H 32 hcH)
   have nE : Keep (fun _ => True) wd _ := Keep.trans2 n_wb hKE fun b hb _ => by have := hzd.out; show b ≠ gf; omega
   refine hold_step0 (i := 12) (by kernel_rfl) rfl rfl (fun K hK => ?_)
   go_simp
   try go_wp2_with fail
   clear f0 f1 f2 f3 f4 f5 f6 f7 f8 z0 z1 z2 z3 z4 z5 z6 z7 z8
   refine hK.out _ _ nE ?_
   clear hK K
   try simp only [Act.put, ly1, ly2, ly3, ly4, ly5, ly6]
   refine wpAnyH_done (by kernel_rfl) ?_ _
   generalize hwE : World.setCell _ _ _ = wE at *
   go_wp2_with fail
   go_meet
   exact ⟨gf, H, hcH, rfl, hbf, hE, bHs.keep hKE fun b _ hb => hb.2, cH, hdr8.new nE⟩
 case rest =>
  obtain ⟨gf, H, hcH, rfl, hgf, hF, hbH, hcc, kF⟩ := hcut
  have HF := Lib.hid hF
  have HBH := Lib.hid (And.intro hbH hcc)
  have HKF := Lib.hid kF
  have HCC := Lib.hid (concatr0_any Ao co wc)
  have hgrf : gr ≠ gf := by
   have h1 := HK6.out.size
   have h2 := HK8.out.size
   have h3 := (Array.getElem?_eq_some_iff.1 HX.out).1
   omega
  clear hF hbH hcc kF hgf
  go_wp2_with fail
  refine HCC.out.mono ?_
  rintro e w9 ⟨rfl, k9⟩
  have kw9 : New w8 w9 := HKF.out.new k9
  have HK9 := Lib.hid kw9
  replace HF := Lib.hid (k9.blockAt HF.out trivial)
  replace HBH := Lib.hid (And.intro (HBH.out.1.new k9) HBH.out.2)
  clear k9 kw9 HCC HKF
  go_wp2_with fail
  go_loopw [10, 85] (fun s10 s85 wx => s10 = .pointer (some ⟨b, 0, none⟩) ∧ s85 = .int .i64 0 ∧ wx = w9) (fun _ _ _ => 0)
  case atStart => exact ⟨rfl, rfl, rfl⟩
  case round =>
   obtain ⟨rfl, rfl, rfl⟩ := hrel
   go_upto_region 22 with fail
   have HKZ : Hid (New w6 wr) := Lib.hid (HK8.out.new HK9.out)
   have stw : StateAt wr c1 ⟨1, 2, 3⟩ b B s := HS4.out.2.2.new (HKM6.out.new HKZ.out)
   have hx9 := (HK8.out.new HK9.out).blockAt HX.out trivial
   have hst := HST.out
   have HSET := Lib.hid (settled_any (J := J) (stw.new (Keep.drew (New.refl wr))) hst.1 hst.2.1 hst.2.2.1 hst.2.2.2)
   have HX9 := Lib.hid hx9
   have f0 : ∀ W, Keep (fun b => b ≠ gr) wr.drew W → W.cell? ⟨gf, 0, none⟩ = some (.int .i64 k') := fun W hW => hW.cell_some (cellOf (w := wr.drew) HF.out (k := 0) rfl) (Ne.symm hgrf)
   have f1 : ∀ W, Keep (fun b => b ≠ gr) wr.drew W → W.cell? ⟨gf, 1, none⟩ = some (.int .i64 p) := fun W hW => hW.cell_some (cellOf (w := wr.drew) HF.out (k := 1) rfl) (Ne.symm hgrf)
   have f2 : ∀ W, Keep (fun b => b ≠ gr) wr.drew W → W.cell? ⟨gf, 2, none⟩ = some (.int .i64 g) := fun W hW => hW.cell_some (cellOf (w := wr.drew) HF.out (k := 2) rfl) (Ne.symm hgrf)
   have f3 : ∀ W, Keep (fun b => b ≠ gr) wr.drew W → W.cell? ⟨gf, 3, none⟩ = some (.slice I 16 ci) := fun W hW => hW.cell_some (cellOf (w := wr.drew) HF.out (k := 3) rfl) (Ne.symm hgrf)
   have f4 : ∀ W, Keep (fun b => b ≠ gr) wr.drew W → W.cell? ⟨gf, 4, none⟩ = some (.int .u64 m.gen) := fun W hW => hW.cell_some (cellOf (w := wr.drew) HF.out (k := 4) rfl) (Ne.symm hgrf)
   have f5 : ∀ W, Keep (fun b => b ≠ gr) wr.drew W → W.cell? ⟨gf, 5, none⟩ = some (.int .u64 m.seq) := fun W hW => hW.cell_some (cellOf (w := wr.drew) HF.out (k := 5) rfl) (Ne.symm hgrf)
   have f6 : ∀ W, Keep (fun b => b ≠ gr) wr.drew W → W.cell? ⟨gf, 6, none⟩ = some (.int .i64 fr) := fun W hW => hW.cell_some (cellOf (w := wr.drew) HF.out (k := 6) rfl) (Ne.symm hgrf)
   have f7 : ∀ W, Keep (fun b => b ≠ gr) wr.drew W → W.cell? ⟨gf, 7, none⟩ = some (.int .i64 0) := fun W hW => hW.cell_some (cellOf (w := wr.drew) HF.out (k := 7) rfl) (Ne.symm hgrf)
   have f8 : ∀ W, Keep (fun b => b ≠ gr) wr.drew W → W.cell? ⟨gf, 8, none⟩ = some (.slice H 32 hcH) := fun W hW => hW.cell_some (cellOf (w := wr.drew) HF.out (k := 8) rfl) (Ne.symm hgrf)
   clear stw hx9 hst
   refine hold_beginS (Keep (fun b => b ≠ gr) wr.drew) (by kernel_rfl) ?_
   have n0 : Keep (fun b => b ≠ gr) wr.drew wr.drew := Keep.refl _ _
   refine take0 0 n0 ?_
   refine take0 2 n0 ?_
   refine take0 3 n0 ?_
   refine hold_step0 (i := 1) (by kernel_rfl) rfl rfl (fun K hK => ?_)
   go_simp
   refine HSET.out.mono ?_
   rintro e w10 ⟨b', B', c', rfl, k10, z10, x10, st10⟩
   go_wp2_with fail
   have n1 := Keep.new n0 k10
   refine hK.out _ _ n1 ?_
   clear hK K
   try simp only [Act.put, ly1, ly2, ly3, ly4, ly5, ly6]
   replace n0 := n1
   clear n1
   refine take0 4 n0 ?_
   refine take0 5 n0 ?_
   have hxg : w10.heap[gr]? = some (.cells foundZero 59 (0, 0)) := k10.blockAt (show wr.drew.heap[gr]? = _ from HX9.out) trivial
   have H10 := Lib.hid (And.intro k10 (And.intro z10 (And.intro x10 st10)))
   clear k10 z10 x10 st10 f0 f1 f2 f3 f4 f5 f6 f7 f8
   have d0 := cellOf hxg (k := 0) rfl
   have d1' := cellOf hxg (k := 1) rfl
   have d2 := cellOf hxg (k := 2) rfl
   have d3 := cellOf hxg (k := 3) rfl
   have d4 := cellOf hxg (k := 4) rfl
   have d5 := cellOf hxg (k := 5) rfl
   have d6 := cellOf hxg (k := 6) rfl
   have d7 := cellOf hxg (k := 7) rfl
   have d8 := cellOf hxg (k := 8) rfl
   obtain ⟨z0, z1, z2, z3, z4, z5, z6, z7, z8⟩ := fz9 hxg
   obtain ⟨hE, hKE⟩ := nine_cells hxg (.int .i64 k') (.int .i64 p) (.int .i64 g) (.slice I 16 ci) (.int .u64 m.gen) (.int .u64 m.seq) (.int .i64 fr) (.int .i64 0) (.slice H 32 hcH)
   refine hold_step0 (i := 6) (by kernel_rfl) rfl rfl (fun K hK => ?_)
   (go_simp; try go_wp2_with fail; clear d0 d1' d2 d3 d4 d5 d6 d7 d8 z0 z1 z2 z3 z4 z5 z6 z7 z8)
   skip
   have n1 := n0.trans hKE
   refine hK.out _ _ n1 ?_
   clear hK K
   try simp only [Act.put, ly1, ly2, ly3, ly4, ly5, ly6]
   replace n0 := n1
   clear n1
   refine take0 7 n0 ?_
   refine wpAnyH_done (by kernel_rfl) ?_ _
   generalize hwE : World.setCell _ _ _ = wE at *
   have HE := Lib.hid (And.intro hE hKE)
   clear hE hKE hwE n0 hxg
   have f0 : wE.cell? ⟨gr, 0, none⟩ = some (.int .i64 k') := cellOf HE.out.1 rfl
   have f1 : wE.cell? ⟨gr, 1, none⟩ = some (.int .i64 p) := cellOf HE.out.1 rfl
   have f2 : wE.cell? ⟨gr, 2, none⟩ = some (.int .i64 g) := cellOf HE.out.1 rfl
   have f3 : wE.cell? ⟨gr, 3, none⟩ = some (.slice I 16 ci) := cellOf HE.out.1 rfl
   have f4 : wE.cell? ⟨gr, 4, none⟩ = some (.int .u64 m.gen) := cellOf HE.out.1 rfl
   have f5 : wE.cell? ⟨gr, 5, none⟩ = some (.int .u64 m.seq) := cellOf HE.out.1 rfl
   have f6 : wE.cell? ⟨gr, 6, none⟩ = some (.int .i64 fr) := cellOf HE.out.1 rfl
   have f7 : wE.cell? ⟨gr, 7, none⟩ = some (.int .i64 0) := cellOf HE.out.1 rfl
   have f8 : wE.cell? ⟨gr, 8, none⟩ = some (.slice H 32 hcH) := cellOf HE.out.1 rfl
   go_wp2_with fail
   refine bodyPost_ret (v := .tuple #[.pointer (some ⟨b', 0, none⟩), .pointer (some ⟨bl, 0, none⟩), .agg #[.int .i64 k', .int .i64 p, .int .i64 g, .slice I 16 ci, .int .u64 m.gen, .int .u64 m.seq, .int .i64 fr, .int .i64 0, .slice H 32 hcH], .int .i64 0]) (by simp [results, Tryz.results31, go_sem, f0, f1, f2, f3, f4, f5, f6, f7, f8]) rfl ?_
   clear f0 f1 f2 f3 f4 f5 f6 f7 f8
   obtain ⟨k10, z10, x10, st10⟩ := H10.out
   have hKE := HE.out.2
   have kr : New wr w10 := (Keep.drew (New.refl wr)).new k10
   have kZ := HKZ.out
   have k6r : New w6 w10 := kZ.new kr
   have hz3 := HK3.out.size
   have hz5 := HK5.out.size
   have hz6 := HK6.out.size
   have hzz := kZ.size
   have hgr := HGR.out
   have hz8 := HK8.out.size
   have hz86 : w6.heap.size ≤ w8.heap.size := hz8
   have zd : wr.heap.size ≤ b' := z10
   have hkq := HKQ.out
   have hz56 := HK56.out
   have hcg : c' gr = J.t + J.s + J.o + 10 := (x10 gr (by show gr < wr.heap.size; omega)).trans ((HS4.out.2.1 gr (by omega)).trans (Col.on_new _ _ (by omega)))
   have hF : ∀ b, b < w10.heap.size → J.has (c' b) ∨ c' b = 0 → b ≠ gr := fun b _ hb e => by
    rw [e, hcg] at hb
    rcases hb with hb | hb
    ·unfold Cols.has at hb; omega
    ·omega
   have hL := HLOG.out.new k6r
   have hbl := HBL.out
   have x10' : Ext wr c1 c' := x10
   refine ⟨b', B', c', bl, I, ci, H, hcH, rfl, (HK6.out.new k6r).trans2 hKE fun b hb _ => by show b ≠ gr; omega, by omega, ((Col.on_ext c w _).trans HS4.out.2.1 hz3).trans x10' (by omega), st10.keep hKE (Ext.refl _ _) hF, by omega, ⟨?_, hL.disk.keep hKE fun b hb => by have := HCL.out.1.lt b hb; show b ≠ gr; omega, hL.size, hL.plan, hL.apart, hL.row, fun b hb => HCL.out.1.beyond b hb.1⟩, ?_, HZI.out.1, ?_, HBH.out.2.1⟩
   ·have h1 := hL.log.keep hKE (by show bl ≠ gr; omega) (fun k hk => by cases hk) fun b hb => by show b ≠ gr; omega
    have h2 := h1.imp (F := fun b => w.heap.size ≤ b ∧ b ≠ bl) (fun b _ hb => ⟨by omega, hb.2⟩) (fun hb => hb.2 rfl)
    exact ⟨h2.cells, h2.waits.rebase (by omega), h2.next0, h2.next1, h2.few, h2.out, h2.apart⟩
   ·exact (((HI.out.new k6r).keep hKE fun b _ hb => by show b ≠ gr; omega).imp fun b _ hb => by omega)
   ·exact (((HBH.out.1.new kr).keep hKE fun b _ hb => by show b ≠ gr; omega).imp fun b _ hb => by omega)
end Go.Proofs.YtijjhfkgbmckkaaGreatDoor
