/-
  PROVED HERE: what mount.Mount answers of a disk that has nothing behind its points; conditions: nothing on the disk is unsafe; the points' states are loaded.
-/
import Derived.Test.YtdodbdednpnddaaGreatDoorPkT26
import Derived.Test.YtdodbdednpnddaaGreatDoorPkT30
set_option maxRecDepth 100000
set_option maxHeartbeats 2000000
namespace Go.Proofs.YtdodbdednpnddaaGreatDoor
open Go.RowKit
theorem growr0_any (w:World):Calls Tryz.prog 223 #[.slice none 0 0,.int .i64 0] w fun e w'=>e=.returned (.slice none 0 0)∧New w w':=by
 go_enter Tryz.func223,Tryz.ntmps223
 go_wp2_with fail
 go_ret
 exact ⟨rfl,New.refl w⟩
theorem concatr0_any (A:Option Addr) (c:Nat) (w:World):Calls Tryz.prog 164 #[.slice A 0 c] w fun e w'=>e=.returned (.slice none 0 0)∧New w w':=by
 have HG:=Lib.hid (growr0_any w)
 go_enter Tryz.func164,Tryz.ntmps164
 go_wp2_with fail
 go_loopw [3,11] (fun s3 s11 wx=>s3=.int .i64 0∧s11=.int .i64 0∧wx=w) (fun _ _ _=>0)
 case atStart=>exact ⟨rfl,rfl,rfl⟩
 case round =>
  obtain ⟨rfl,rfl,rfl⟩:=hrel
  go_wp2_with fail
  refine HG.out.mono ?_
  rintro e w1 ⟨rfl,k1⟩
  have HK:=Lib.hid k1
  clear k1
  go_wp2_with fail
  go_loopw [6,27] (fun s6 s27 wx=>s6=.slice none 0 0∧s27=.int .i64 0∧wx=w1) (fun _ _ _=>0)
  case atStart=>exact ⟨rfl,rfl,rfl⟩
  case round =>
   obtain ⟨rfl,rfl,rfl⟩:=hrel
   go_wp2_with fail
   go_ret
   exact ⟨rfl,HK.out⟩
theorem nine_cells {w:World}{g:Nat}{c0 c1 c2 c3 c4 c5 c6 c7 c8:Value}{t:TypeId}(h:w.heap[g]?=some (.cells #[c0,c1,c2,c3,c4,c5,c6,c7,c8] t (0,0))) (x0 x1 x2 x3 x4 x5 x6 x7 x8:Value):
  (((((((((w.setCell ⟨g,0,none⟩ x0).setCell ⟨g,1,none⟩ x1).setCell ⟨g,2,none⟩ x2).setCell ⟨g,3,none⟩ x3).setCell ⟨g,4,none⟩ x4).setCell ⟨g,5,none⟩ x5).setCell ⟨g,6,none⟩ x6).setCell ⟨g,7,none⟩ x7).setCell ⟨g,8,none⟩ x8).heap[g]?=some (.cells #[x0,x1,x2,x3,x4,x5,x6,x7,x8] t (0,0)) ∧
  Keep (fun b=>b≠g) w (((((((((w.setCell ⟨g,0,none⟩ x0).setCell ⟨g,1,none⟩ x1).setCell ⟨g,2,none⟩ x2).setCell ⟨g,3,none⟩ x3).setCell ⟨g,4,none⟩ x4).setCell ⟨g,5,none⟩ x5).setCell ⟨g,6,none⟩ x6).setCell ⟨g,7,none⟩ x7).setCell ⟨g,8,none⟩ x8):=by
 have no:∀ (W:World) (k:Nat) (u:Value),Keep (fun b=>b≠g) w W→Keep (fun b=>b≠g) w (W.setCell ⟨g,k,none⟩ u):=fun W k u hW=>hW.setCell (p:=⟨g,k,none⟩) (fun hd=>absurd rfl hd) u
 refine ⟨?_,no _ _ _ (no _ _ _ (no _ _ _ (no _ _ _ (no _ _ _ (no _ _ _ (no _ _ _ (no _ _ _ (no _ _ _ (Keep.refl _ w)))))))))⟩
 clear no
 obtain ⟨w1,hw1⟩:∃ w',w'=w.setCell ⟨g,0,none⟩ x0:=⟨_,rfl⟩
 rw [← hw1]
 have h1:w1.heap[g]?=some (.cells #[x0,c1,c2,c3,c4,c5,c6,c7,c8] t (0,0)):=by rw [hw1];exact setCell_block h 0 x0
 clear hw1
 obtain ⟨w2,hw2⟩:∃ w',w'=w1.setCell ⟨g,1,none⟩ x1:=⟨_,rfl⟩
 rw [← hw2]
 have h2:w2.heap[g]?=some (.cells #[x0,x1,c2,c3,c4,c5,c6,c7,c8] t (0,0)):=by rw [hw2];exact setCell_block h1 1 x1
 clear h1 hw2
 obtain ⟨w3,hw3⟩:∃ w',w'=w2.setCell ⟨g,2,none⟩ x2:=⟨_,rfl⟩
 rw [← hw3]
 have h3:w3.heap[g]?=some (.cells #[x0,x1,x2,c3,c4,c5,c6,c7,c8] t (0,0)):=by rw [hw3];exact setCell_block h2 2 x2
 clear h2 hw3
 obtain ⟨w4,hw4⟩:∃ w',w'=w3.setCell ⟨g,3,none⟩ x3:=⟨_,rfl⟩
 rw [← hw4]
 have h4:w4.heap[g]?=some (.cells #[x0,x1,x2,x3,c4,c5,c6,c7,c8] t (0,0)):=by rw [hw4];exact setCell_block h3 3 x3
 clear h3 hw4
 obtain ⟨w5,hw5⟩:∃ w',w'=w4.setCell ⟨g,4,none⟩ x4:=⟨_,rfl⟩
 rw [← hw5]
 have h5:w5.heap[g]?=some (.cells #[x0,x1,x2,x3,x4,c5,c6,c7,c8] t (0,0)):=by rw [hw5];exact setCell_block h4 4 x4
 clear h4 hw5
 obtain ⟨w6,hw6⟩:∃ w',w'=w5.setCell ⟨g,5,none⟩ x5:=⟨_,rfl⟩
 rw [← hw6]
 have h6:w6.heap[g]?=some (.cells #[x0,x1,x2,x3,x4,x5,c6,c7,c8] t (0,0)):=by rw [hw6];exact setCell_block h5 5 x5
 clear h5 hw6
 obtain ⟨w7,hw7⟩:∃ w',w'=w6.setCell ⟨g,6,none⟩ x6:=⟨_,rfl⟩
 rw [← hw7]
 have h7:w7.heap[g]?=some (.cells #[x0,x1,x2,x3,x4,x5,x6,c7,c8] t (0,0)):=by rw [hw7];exact setCell_block h6 6 x6
 clear h6 hw7
 obtain ⟨w8,hw8⟩:∃ w',w'=w7.setCell ⟨g,7,none⟩ x7:=⟨_,rfl⟩
 rw [← hw8]
 have h8:w8.heap[g]?=some (.cells #[x0,x1,x2,x3,x4,x5,x6,x7,c8] t (0,0)):=by rw [hw8];exact setCell_block h7 7 x7
 clear h7 hw8
 obtain ⟨w9,hw9⟩:∃ w',w'=w8.setCell ⟨g,8,none⟩ x8:=⟨_,rfl⟩
 rw [← hw9]
 have h9:w9.heap[g]?=some (.cells #[x0,x1,x2,x3,x4,x5,x6,x7,x8] t (0,0)):=by rw [hw9];exact setCell_block h8 8 x8
 clear h8 hw9
 exact h9
abbrev foundZero:Array Value:=#[.int .i64 0,.int .i64 0,.int .i64 0,.slice none 0 0,.int .u64 0,.int .u64 0,.int .i64 0,.int .i64 0,.slice none 0 0]
end Go.Proofs.YtdodbdednpnddaaGreatDoor
