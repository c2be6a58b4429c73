/-
  PROVED HERE: texts that belong together, one behind the other; what each proves, and under which conditions, its own opening remark says: Seal, Cells.
-/
import Derived.Test.YtdodbdednpnddaaGreatDoorPkT05
set_option maxRecDepth 100000
namespace Go.Proofs.YtdodbdednpnddaaGreatDoor
open Go.RowKit
theorem cellOf {w:World}{g:Nat}{t:TypeId}{cs:Array Value}(h:w.heap[g]?=some (.cells cs t (0,0))){k:Nat}{v:Value}(hv:cs[k]?=some v):w.cell? ⟨g,k,none⟩=some v:=(cell_of_row w g k cs t (0,0) h).trans hv
theorem Keep.blockAt {D:Nat→Prop}{a b:World}(h:Keep D a b){g:Nat}{o:Obj}(hg:a.heap[g]?=some o) (hd:D g):b.heap[g]?=some o :=
 (h.block g (Array.getElem?_eq_some_iff.1 hg).1 hd).trans hg
structure HeadP where
 index:Int
 first:Int
 count:Int
 bytes:Int
 prev:List UInt8
 root:List UInt8
def whole32 (bs:List UInt8):List UInt8:=if bs.length=32 then bs else List.replicate 32 0
theorem whole32_length (bs:List UInt8):(whole32 bs).length=32:=by unfold whole32;split <;> simp_all
def sealRow (h:HeadP):List UInt8:=beI 1 2++beI 2 h.index++beI 8 h.first++beI 2 h.count++whole32 h.prev++whole32 h.root
def sealOf (h:HeadP):List UInt8:=shaSum (sealRow h)
theorem whole_any (D:Nat→Prop) (A:Option Addr) (n c:Nat) (bs:List UInt8) (w:World) (hB:Bs w D A n bs) (hnc:n≤c):
  Calls Tryz.prog 327 #[.slice A n c] w fun e w'=>(∃ A' c',e=.returned (.slice A' 32 c')∧32≤c'∧Bs w' (fun b=>D b∨w.heap.size≤b) A' 32 (whole32 bs))∧New w w':=by
 have hl:=hB.len
 by_cases h32:n=32
 ·subst h32
  have hw:whole32 bs=bs:=by unfold whole32;rw [if_pos hl]
  rw [hw]
  clear hl hw
  go_enter Tryz.func327,Tryz.ntmps327
  go_wp2_with fail
  go_ret
  exact ⟨⟨_,_,rfl,hnc,hB.imp (fun _ _ h=>.inl h)⟩,New.refl _⟩
 ·have hw:whole32 bs=List.replicate 32 0:=by unfold whole32;rw [if_neg (by omega)]
  have hne:((n:Int) !=32)=true:=by rw [bne_iff_ne];omega
  have hmk:∀ w,(Instr.makeSlice 24 (.int .i64 32) (.int .i64 32)).run Tryz.prog w=.ok (.slice (some ⟨w.heap.size,0,none⟩) 32 32) (w.alloc (.cells (List.replicate 32 (Value.int .u8 0)).toArray 5)):=fun _=>by kernel_rfl
  rw [hw]
  clear hl hw
  go_enter Tryz.func327,Tryz.ntmps327
  go_wp2_with fail
  clear hmk
  go_ret
  exact ⟨⟨_,_,rfl,Nat.le_refl _,(Row.made w _ _ 32 1 rfl).imp (fun _ _ h=>.inr h)⟩,(New.refl _).alloc _⟩
theorem row_any (D D2:Nat→Prop) (A A2:Option Addr) (n c n2 c2:Nat) (h:HeadP) (w:World) (hB:Bs w D A n h.prev) (hnc:n≤c) (hB2:Bs w D2 A2 n2 h.root) (hnc2:n2≤c2) (hf0:0≤h.first) (hf1:h.first≤18446744073709551615):
  Calls Tryz.prog 301 #[.agg #[.int .i64 h.index,.int .u64 h.first,.int .i64 h.count,.int .i64 h.bytes,.slice A n c,.slice A2 n2 c2]] w fun e w' =>
   (∃ A' c',e=.returned (.slice A' 77 c')∧OwnB w' w.heap.size 5 A' 77 c' (sealRow h))∧New w w':=by
 rcases h with ⟨ix,fi,co,by',pr,ro⟩
 have hb0:(w.alloc (.cells #[.int .i64 ix,.int .u64 fi,.int .i64 co,.int .i64 by',.slice A n c,.slice A2 n2 c2] 264)).heap[w.heap.size]?=some (.cells #[.int .i64 ix,.int .u64 fi,.int .i64 co,.int .i64 by',.slice A n c,.slice A2 n2 c2] 264 (0,0)):=heap_alloc_new w _
 have hK0:New w (w.alloc (.cells #[.int .i64 ix,.int .u64 fi,.int .i64 co,.int .i64 by',.slice A n c,.slice A2 n2 c2] 264)):=(New.refl w).alloc _
 dsimp only at hB hB2 hf0 hf1 ⊢
 have HB:=Lib.hid hb0
 clear hb0
 go_enter Tryz.func301,Tryz.ntmps301
 go_wp2_with fail
 have hlt:w.heap.size<(w.alloc (.cells #[.int .i64 ix,.int .u64 fi,.int .i64 co,.int .i64 by',.slice A n c,.slice A2 n2 c2] 264)).heap.size:=by simp
 generalize w.alloc _=w0 at *
 refine (newWriter_any _).mono ?_
 rintro e w1 ⟨⟨p,rfl,hW1⟩,hK1⟩
 have HB1:=Lib.hid (hK1.blockAt HB.out trivial)
 generalize w0.heap.size=base at *
 go_wp2_with fail
 refine (wbyte_any base p _ 2 w1 hW1 (by simp)).mono ?_
 rintro e w2 ⟨rfl,hW2,hK2⟩
 have HB2:=Lib.hid (hK2.blockAt HB1.out hlt)
 clear hW1
 have ck:=cellOf HB2.out (k:=0) rfl
 go_wp2_with fail
 clear ck
 refine (wshort_any base p _ ix w2 hW2 (by simp [beI_length])).mono ?_
 rintro e w3 ⟨rfl,hW3,hK3⟩
 have HB3:=Lib.hid (hK3.blockAt HB2.out hlt)
 clear hW2
 have ck:=cellOf HB3.out (k:=1) rfl
 go_wp2_with fail
 clear ck
 refine (wlong_any base p _ fi w3 hW3 hf0 hf1 (by simp [beI_length])).mono ?_
 rintro e w4 ⟨rfl,hW4,hK4⟩
 have HB4:=Lib.hid (hK4.blockAt HB3.out hlt)
 clear hW3
 have ck:=cellOf HB4.out (k:=2) rfl
 go_wp2_with fail
 clear ck
 refine (wshort_any base p _ co w4 hW4 (by simp [beI_length])).mono ?_
 rintro e w5 ⟨rfl,hW5,hK5⟩
 have HB5:=Lib.hid (hK5.blockAt HB4.out hlt)
 clear hW4
 have ck:=cellOf HB5.out (k:=4) rfl
 have hK05:Keep (fun b=>b<base) w w5:=((((Keep.of_new (hK0.new hK1)).trans hK2).trans hK3).trans hK4).trans hK5
 have hle:w.heap.size≤base:=Nat.le_of_lt hlt
 have hB5:Bs w5 (fun b=>b<base) A n pr:=(Row.imp hB (E:=fun b=>b<base) (fun b hb _=>Nat.lt_of_lt_of_le hb hle)).keep hK05 (fun b _ h=>h)
 have hB52:Bs w5 (fun b=>b<base) A2 n2 ro:=(Row.imp hB2 (E:=fun b=>b<base) (fun b hb _=>Nat.lt_of_lt_of_le hb hle)).keep hK05 (fun b _ h=>h)
 clear hK1 hK2 hK3 hK4 hK5 hB hB2 hK0
 go_wp2_with fail
 clear ck
 refine (whole_any _ A n c pr w5 hB5 hnc).mono ?_
 rintro e w6 ⟨⟨A6,c6,rfl,hc6,hB6⟩,hK6⟩
 go_wp2_with fail
 have hW6:=hW5.keep hK6 (fun _ _=>trivial)
 refine (raw_any base p _ A6 32 c6 _ _ w6 hW6 hB6 (by simp [beI_length])).mono ?_
 rintro e w7 ⟨rfl,hW7,hK7⟩
 have HB7:=Lib.hid (hK7.blockAt (hK6.blockAt HB5.out trivial) hlt)
 clear hW5 hW6 hB5 hB6
 have ck:=cellOf HB7.out (k:=5) rfl
 have hB7:=(hB52.new hK6).keep hK7 (fun b _ h=>h)
 go_wp2_with fail
 clear ck
 refine (whole_any _ A2 n2 c2 ro w7 hB7 hnc2).mono ?_
 rintro e w8 ⟨⟨A8,c8,rfl,hc8,hB8⟩,hK8⟩
 go_wp2_with fail
 have hW8:=hW7.keep hK8 (fun _ _=>trivial)
 refine (raw_any base p _ A8 32 c8 _ _ w8 hW8 hB8 (by simp [beI_length,whole32_length])).mono ?_
 rintro e w9 ⟨rfl,hW9,hK9⟩
 clear hB52 hB7 hB8 hW7 hW8
 have hK09:Keep (fun b=>b<base) w w9:=(((hK05.new hK6).trans hK7).new hK8).trans hK9
 replace hW9:Wr w9 base p (sealRow ⟨ix,fi,co,by',pr,ro⟩):=hW9
 have hlen:(sealRow ⟨ix,fi,co,by',pr,ro⟩).length=77:=by simp [sealRow,beI_length,whole32_length]
 generalize hL:sealRow ⟨ix,fi,co,by',pr,ro⟩=L at hW9 hlen
 have HL:=Lib.hid hL
 clear hL
 go_wp2_with fail
 refine (done_any base p _ w9 hW9 (by omega)).mono ?_
 rintro e w10 ⟨⟨A10,c10,rfl,hown⟩,hK10⟩
 rw [hlen] at hown ⊢
 go_wp2_with fail
 go_ret
 exact ⟨⟨_,_,rfl,by rw [HL.out];exact own_base hown hK09.size⟩,(hK09.toNew (fun i hi=>Nat.lt_of_lt_of_le hi hle)).new hK10⟩
theorem seal_any (D D2:Nat→Prop) (A A2:Option Addr) (n c n2 c2:Nat) (h:HeadP) (w:World) (hB:Bs w D A n h.prev) (hnc:n≤c) (hB2:Bs w D2 A2 n2 h.root) (hnc2:n2≤c2) (hf0:0≤h.first) (hf1:h.first≤18446744073709551615):
  Calls Tryz.prog 262 #[.agg #[.int .i64 h.index,.int .u64 h.first,.int .i64 h.count,.int .i64 h.bytes,.slice A n c,.slice A2 n2 c2]] w fun e w' =>
   (∃ A' c',e=.returned (.slice A' 32 c')∧OwnB w' w.heap.size 5 A' 32 c' (sealOf h))∧New w w':=by
 have hK0:∀ o,New w (w.alloc o):=fun o=>(New.refl w).alloc o
 have HK0:=Lib.hid hK0
 clear hK0
 go_enter Tryz.func262,Tryz.ntmps262
 go_wp2_with fail
 refine (row_any D D2 A A2 n c n2 c2 h _ (hB.alloc _) hnc (hB2.alloc _) hnc2 hf0 hf1).mono ?_
 rintro e w1 ⟨⟨A1,c1,rfl,hown⟩,hK1⟩
 have hcap:=own_cap hown
 go_wp2_with fail
 refine (shaSum_any _ A1 77 c1 _ w1 (Row.of_own hown) hcap (by omega)).mono ?_
 rintro e w2 ⟨⟨A2,c2,rfl,hown2⟩,hK2⟩
 go_wp2_with fail
 go_ret
 exact ⟨⟨_,_,rfl,own_base hown2 (Nat.le_trans (HK0.out _).size hK1.size)⟩,((HK0.out _).new hK1).new hK2⟩
theorem cs2 {w:World}{g:Nat}{c:Array Value}{t:TypeId}{v0 v1:Value}(h:w.heap[g]?=some (.cells c t (0,0))) (h0:c[0]?=some v0:=by rfl) (h1:c[1]?=some v1:=by rfl):w.cell? ⟨g,0,none⟩=some v0∧w.cell? ⟨g,1,none⟩=some v1:=⟨cellOf h h0,cellOf h h1⟩
theorem fz2 {w:World}{g:Nat}{c:Array Value}{t:TypeId}(h:w.heap[g]?=some (.cells c t (0,0))):w.frozen? ⟨g,0,none⟩=false∧w.frozen? ⟨g,1,none⟩=false:=⟨frozenOf h 0,frozenOf h 1⟩
theorem cs3 {w:World}{g:Nat}{c:Array Value}{t:TypeId}{v0 v1 v2:Value}(h:w.heap[g]?=some (.cells c t (0,0))) (h0:c[0]?=some v0:=by rfl) (h1:c[1]?=some v1:=by rfl) (h2:c[2]?=some v2:=by rfl):w.cell? ⟨g,0,none⟩=some v0∧w.cell? ⟨g,1,none⟩=some v1∧w.cell? ⟨g,2,none⟩=some v2:=⟨cellOf h h0,cellOf h h1,cellOf h h2⟩
theorem fz3 {w:World}{g:Nat}{c:Array Value}{t:TypeId}(h:w.heap[g]?=some (.cells c t (0,0))):w.frozen? ⟨g,0,none⟩=false∧w.frozen? ⟨g,1,none⟩=false∧w.frozen? ⟨g,2,none⟩=false:=⟨frozenOf h 0,frozenOf h 1,frozenOf h 2⟩
theorem cs4 {w:World}{g:Nat}{c:Array Value}{t:TypeId}{v0 v1 v2 v3:Value}(h:w.heap[g]?=some (.cells c t (0,0))) (h0:c[0]?=some v0:=by rfl) (h1:c[1]?=some v1:=by rfl) (h2:c[2]?=some v2:=by rfl) (h3:c[3]?=some v3:=by rfl):w.cell? ⟨g,0,none⟩=some v0∧w.cell? ⟨g,1,none⟩=some v1∧w.cell? ⟨g,2,none⟩=some v2∧w.cell? ⟨g,3,none⟩=some v3:=⟨cellOf h h0,cellOf h h1,cellOf h h2,cellOf h h3⟩
theorem fz4 {w:World}{g:Nat}{c:Array Value}{t:TypeId}(h:w.heap[g]?=some (.cells c t (0,0))):w.frozen? ⟨g,0,none⟩=false∧w.frozen? ⟨g,1,none⟩=false∧w.frozen? ⟨g,2,none⟩=false∧w.frozen? ⟨g,3,none⟩=false:=⟨frozenOf h 0,frozenOf h 1,frozenOf h 2,frozenOf h 3⟩
theorem cs5 {w:World}{g:Nat}{c:Array Value}{t:TypeId}{v0 v1 v2 v3 v4:Value}(h:w.heap[g]?=some (.cells c t (0,0))) (h0:c[0]?=some v0:=by rfl) (h1:c[1]?=some v1:=by rfl) (h2:c[2]?=some v2:=by rfl) (h3:c[3]?=some v3:=by rfl) (h4:c[4]?=some v4:=by rfl):w.cell? ⟨g,0,none⟩=some v0∧w.cell? ⟨g,1,none⟩=some v1∧w.cell? ⟨g,2,none⟩=some v2∧w.cell? ⟨g,3,none⟩=some v3∧w.cell? ⟨g,4,none⟩=some v4:=⟨cellOf h h0,cellOf h h1,cellOf h h2,cellOf h h3,cellOf h h4⟩
theorem fz5 {w:World}{g:Nat}{c:Array Value}{t:TypeId}(h:w.heap[g]?=some (.cells c t (0,0))):w.frozen? ⟨g,0,none⟩=false∧w.frozen? ⟨g,1,none⟩=false∧w.frozen? ⟨g,2,none⟩=false∧w.frozen? ⟨g,3,none⟩=false∧w.frozen? ⟨g,4,none⟩=false:=⟨frozenOf h 0,frozenOf h 1,frozenOf h 2,frozenOf h 3,frozenOf h 4⟩
theorem cs6 {w:World}{g:Nat}{c:Array Value}{t:TypeId}{v0 v1 v2 v3 v4 v5:Value}(h:w.heap[g]?=some (.cells c t (0,0))) (h0:c[0]?=some v0:=by rfl) (h1:c[1]?=some v1:=by rfl) (h2:c[2]?=some v2:=by rfl) (h3:c[3]?=some v3:=by rfl) (h4:c[4]?=some v4:=by rfl) (h5:c[5]?=some v5:=by rfl):w.cell? ⟨g,0,none⟩=some v0∧w.cell? ⟨g,1,none⟩=some v1∧w.cell? ⟨g,2,none⟩=some v2∧w.cell? ⟨g,3,none⟩=some v3∧w.cell? ⟨g,4,none⟩=some v4∧w.cell? ⟨g,5,none⟩=some v5:=⟨cellOf h h0,cellOf h h1,cellOf h h2,cellOf h h3,cellOf h h4,cellOf h h5⟩
theorem fz6 {w:World}{g:Nat}{c:Array Value}{t:TypeId}(h:w.heap[g]?=some (.cells c t (0,0))):w.frozen? ⟨g,0,none⟩=false∧w.frozen? ⟨g,1,none⟩=false∧w.frozen? ⟨g,2,none⟩=false∧w.frozen? ⟨g,3,none⟩=false∧w.frozen? ⟨g,4,none⟩=false∧w.frozen? ⟨g,5,none⟩=false:=⟨frozenOf h 0,frozenOf h 1,frozenOf h 2,frozenOf h 3,frozenOf h 4,frozenOf h 5⟩
theorem cs7 {w:World}{g:Nat}{c:Array Value}{t:TypeId}{v0 v1 v2 v3 v4 v5 v6:Value}(h:w.heap[g]?=some (.cells c t (0,0))) (h0:c[0]?=some v0:=by rfl) (h1:c[1]?=some v1:=by rfl) (h2:c[2]?=some v2:=by rfl) (h3:c[3]?=some v3:=by rfl) (h4:c[4]?=some v4:=by rfl) (h5:c[5]?=some v5:=by rfl) (h6:c[6]?=some v6:=by rfl):w.cell? ⟨g,0,none⟩=some v0∧w.cell? ⟨g,1,none⟩=some v1∧w.cell? ⟨g,2,none⟩=some v2∧w.cell? ⟨g,3,none⟩=some v3∧w.cell? ⟨g,4,none⟩=some v4∧w.cell? ⟨g,5,none⟩=some v5∧w.cell? ⟨g,6,none⟩=some v6:=⟨cellOf h h0,cellOf h h1,cellOf h h2,cellOf h h3,cellOf h h4,cellOf h h5,cellOf h h6⟩
theorem fz7 {w:World}{g:Nat}{c:Array Value}{t:TypeId}(h:w.heap[g]?=some (.cells c t (0,0))):w.frozen? ⟨g,0,none⟩=false∧w.frozen? ⟨g,1,none⟩=false∧w.frozen? ⟨g,2,none⟩=false∧w.frozen? ⟨g,3,none⟩=false∧w.frozen? ⟨g,4,none⟩=false∧w.frozen? ⟨g,5,none⟩=false∧w.frozen? ⟨g,6,none⟩=false:=⟨frozenOf h 0,frozenOf h 1,frozenOf h 2,frozenOf h 3,frozenOf h 4,frozenOf h 5,frozenOf h 6⟩
theorem cs8 {w:World}{g:Nat}{c:Array Value}{t:TypeId}{v0 v1 v2 v3 v4 v5 v6 v7:Value}(h:w.heap[g]?=some (.cells c t (0,0))) (h0:c[0]?=some v0:=by rfl) (h1:c[1]?=some v1:=by rfl) (h2:c[2]?=some v2:=by rfl) (h3:c[3]?=some v3:=by rfl) (h4:c[4]?=some v4:=by rfl) (h5:c[5]?=some v5:=by rfl) (h6:c[6]?=some v6:=by rfl) (h7:c[7]?=some v7:=by rfl):w.cell? ⟨g,0,none⟩=some v0∧w.cell? ⟨g,1,none⟩=some v1∧w.cell? ⟨g,2,none⟩=some v2∧w.cell? ⟨g,3,none⟩=some v3∧w.cell? ⟨g,4,none⟩=some v4∧w.cell? ⟨g,5,none⟩=some v5∧w.cell? ⟨g,6,none⟩=some v6∧w.cell? ⟨g,7,none⟩=some v7:=⟨cellOf h h0,cellOf h h1,cellOf h h2,cellOf h h3,cellOf h h4,cellOf h h5,cellOf h h6,cellOf h h7⟩
theorem fz8 {w:World}{g:Nat}{c:Array Value}{t:TypeId}(h:w.heap[g]?=some (.cells c t (0,0))):w.frozen? ⟨g,0,none⟩=false∧w.frozen? ⟨g,1,none⟩=false∧w.frozen? ⟨g,2,none⟩=false∧w.frozen? ⟨g,3,none⟩=false∧w.frozen? ⟨g,4,none⟩=false∧w.frozen? ⟨g,5,none⟩=false∧w.frozen? ⟨g,6,none⟩=false∧w.frozen? ⟨g,7,none⟩=false:=⟨frozenOf h 0,frozenOf h 1,frozenOf h 2,frozenOf h 3,frozenOf h 4,frozenOf h 5,frozenOf h 6,frozenOf h 7⟩
theorem cs9 {w:World}{g:Nat}{c:Array Value}{t:TypeId}{v0 v1 v2 v3 v4 v5 v6 v7 v8:Value}(h:w.heap[g]?=some (.cells c t (0,0))) (h0:c[0]?=some v0:=by rfl) (h1:c[1]?=some v1:=by rfl) (h2:c[2]?=some v2:=by rfl) (h3:c[3]?=some v3:=by rfl) (h4:c[4]?=some v4:=by rfl) (h5:c[5]?=some v5:=by rfl) (h6:c[6]?=some v6:=by rfl) (h7:c[7]?=some v7:=by rfl) (h8:c[8]?=some v8:=by rfl):w.cell? ⟨g,0,none⟩=some v0∧w.cell? ⟨g,1,none⟩=some v1∧w.cell? ⟨g,2,none⟩=some v2∧w.cell? ⟨g,3,none⟩=some v3∧w.cell? ⟨g,4,none⟩=some v4∧w.cell? ⟨g,5,none⟩=some v5∧w.cell? ⟨g,6,none⟩=some v6∧w.cell? ⟨g,7,none⟩=some v7∧w.cell? ⟨g,8,none⟩=some v8:=⟨cellOf h h0,cellOf h h1,cellOf h h2,cellOf h h3,cellOf h h4,cellOf h h5,cellOf h h6,cellOf h h7,cellOf h h8⟩
theorem fz9 {w:World}{g:Nat}{c:Array Value}{t:TypeId}(h:w.heap[g]?=some (.cells c t (0,0))):w.frozen? ⟨g,0,none⟩=false∧w.frozen? ⟨g,1,none⟩=false∧w.frozen? ⟨g,2,none⟩=false∧w.frozen? ⟨g,3,none⟩=false∧w.frozen? ⟨g,4,none⟩=false∧w.frozen? ⟨g,5,none⟩=false∧w.frozen? ⟨g,6,none⟩=false∧w.frozen? ⟨g,7,none⟩=false∧w.frozen? ⟨g,8,none⟩=false:=⟨frozenOf h 0,frozenOf h 1,frozenOf h 2,frozenOf h 3,frozenOf h 4,frozenOf h 5,frozenOf h 6,frozenOf h 7,frozenOf h 8⟩
theorem cs10 {w:World}{g:Nat}{c:Array Value}{t:TypeId}{v0 v1 v2 v3 v4 v5 v6 v7 v8 v9:Value}(h:w.heap[g]?=some (.cells c t (0,0))) (h0:c[0]?=some v0:=by rfl) (h1:c[1]?=some v1:=by rfl) (h2:c[2]?=some v2:=by rfl) (h3:c[3]?=some v3:=by rfl) (h4:c[4]?=some v4:=by rfl) (h5:c[5]?=some v5:=by rfl) (h6:c[6]?=some v6:=by rfl) (h7:c[7]?=some v7:=by rfl) (h8:c[8]?=some v8:=by rfl) (h9:c[9]?=some v9:=by rfl):w.cell? ⟨g,0,none⟩=some v0∧w.cell? ⟨g,1,none⟩=some v1∧w.cell? ⟨g,2,none⟩=some v2∧w.cell? ⟨g,3,none⟩=some v3∧w.cell? ⟨g,4,none⟩=some v4∧w.cell? ⟨g,5,none⟩=some v5∧w.cell? ⟨g,6,none⟩=some v6∧w.cell? ⟨g,7,none⟩=some v7∧w.cell? ⟨g,8,none⟩=some v8∧w.cell? ⟨g,9,none⟩=some v9:=⟨cellOf h h0,cellOf h h1,cellOf h h2,cellOf h h3,cellOf h h4,cellOf h h5,cellOf h h6,cellOf h h7,cellOf h h8,cellOf h h9⟩
theorem fz10 {w:World}{g:Nat}{c:Array Value}{t:TypeId}(h:w.heap[g]?=some (.cells c t (0,0))):w.frozen? ⟨g,0,none⟩=false∧w.frozen? ⟨g,1,none⟩=false∧w.frozen? ⟨g,2,none⟩=false∧w.frozen? ⟨g,3,none⟩=false∧w.frozen? ⟨g,4,none⟩=false∧w.frozen? ⟨g,5,none⟩=false∧w.frozen? ⟨g,6,none⟩=false∧w.frozen? ⟨g,7,none⟩=false∧w.frozen? ⟨g,8,none⟩=false∧w.frozen? ⟨g,9,none⟩=false:=⟨frozenOf h 0,frozenOf h 1,frozenOf h 2,frozenOf h 3,frozenOf h 4,frozenOf h 5,frozenOf h 6,frozenOf h 7,frozenOf h 8,frozenOf h 9⟩
end Go.Proofs.YtdodbdednpnddaaGreatDoor
