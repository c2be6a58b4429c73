/-
  PROVED HERE: what record.Right, Size, Encode and segment.four answer; conditions: lengths that a slice may have.
-/
import Derived.Test.YtdodbdednpnddaaGreatDoorPkT06
set_option maxRecDepth 100000
namespace Go.Proofs.YtdodbdednpnddaaGreatDoor
open Go.RowKit
structure RecP where
 kind:Int
 seq:Int
 body:List UInt8
def recRight (r:RecP):Bool:=decide (r.seq≤1099511627776∧r.body.length≤900∧(r.kind=1∨r.kind=2∧r.body.length=0))
def recHead (r:RecP):List UInt8:=beI 1 r.kind++beI 8 r.seq++lenBytes r.body
def recEnc (r:RecP):List UInt8:=recHead r++be4 (crcSum (recHead r))
def recSize (r:RecP):Nat:=if recRight r then 15+r.body.length else 0
theorem lenBytes_length (bs:List UInt8):(lenBytes bs).length=2+min bs.length 65535:=by unfold lenBytes;rw [List.length_append,beI_length,List.length_take,Nat.min_comm]
theorem recHead_length (r:RecP):(recHead r).length=11+min r.body.length 65535:=by simp only [recHead,List.length_append,beI_length,lenBytes_length];omega
theorem recEnc_length (r:RecP):(recEnc r).length=15+min r.body.length 65535:=by simp only [recEnc,List.length_append,recHead_length,be4,List.length_cons,List.length_nil];omega
theorem right_any (ki se:Int) (A:Option Addr) (n c:Nat) (r:RecP) (w:World) (hk:r.kind=ki) (hs:r.seq=se) (hl:r.body.length=n) (hn:n≤9223372036854775807):
  Calls Tryz.prog 189 #[.agg #[.int .i64 ki,.int .u64 se,.slice A n c]] w fun e w'=>e=.returned (.bool (recRight r))∧New w w':=by
 have hN:∀ o,New w (w.alloc o):=fun o=>(New.refl w).alloc o
 have HN:=Lib.hid hN
 clear hN
 have hR:recRight r=decide (se≤1099511627776∧n≤900∧(ki=1∨ki=2∧n=0)):=by unfold recRight;rw [hk,hs,hl]
 rw [hR]
 clear hR hk hs hl
 by_cases h1:1099511627776<se
 ·have hR:decide (se≤1099511627776∧n≤900∧(ki=1∨ki=2∧n=0))=false:=by simp;omega
  rw [hR]
  clear hR
  go_enter Tryz.func189,Tryz.ntmps189
  go_wp2_with fail
  go_ret
  exact ⟨rfl,HN.out _⟩
 ·by_cases h2:900<n
  ·have hR:decide (se≤1099511627776∧n≤900∧(ki=1∨ki=2∧n=0))=false:=by simp;omega
   have h2':(900:Int)<n:=by omega
   rw [hR]
   clear hR
   go_enter Tryz.func189,Tryz.ntmps189
   go_wp2_with fail
   go_ret
   exact ⟨rfl,HN.out _⟩
  ·have h2':¬ (900:Int)<n:=by omega
   by_cases h3:ki=1
   ·have hR:decide (se≤1099511627776∧n≤900∧(ki=1∨ki=2∧n=0))=true:=by simp;omega
    rw [hR]
    clear hR
    subst h3
    go_enter Tryz.func189,Tryz.ntmps189
    go_wp2_with fail
    go_ret
    exact ⟨rfl,HN.out _⟩
   ·have h3':(ki==1)=false:=by simp;omega
    by_cases h4:ki=2
    ·subst h4
     by_cases h5:n=0
     ·subst h5
      have hR:decide (se≤1099511627776∧0≤900∧((2:Int)=1∨(2:Int)=2∧0=0))=true:=by simp;omega
      rw [hR]
      clear hR
      go_enter Tryz.func189,Tryz.ntmps189
      go_wp2_with fail
      go_ret
      exact ⟨rfl,HN.out _⟩
     ·have h5':((n:Int)==0)=false:=by simp;omega
      have hR:decide (se≤1099511627776∧n≤900∧((2:Int)=1∨(2:Int)=2∧n=0))=false:=by simp;omega
      rw [hR]
      clear hR
      go_enter Tryz.func189,Tryz.ntmps189
      go_wp2_with fail
      go_ret
      exact ⟨rfl,HN.out _⟩
    ·have h4':(ki==2)=false:=by simp;omega
     have hR:decide (se≤1099511627776∧n≤900∧(ki=1∨ki=2∧n=0))=false:=by simp;omega
     rw [hR]
     clear hR
     go_enter Tryz.func189,Tryz.ntmps189
     go_wp2_with fail
     go_ret
     exact ⟨rfl,HN.out _⟩
theorem size_any (ki se:Int) (A:Option Addr) (n c:Nat) (r:RecP) (w:World) (hk:r.kind=ki) (hs:r.seq=se) (hl:r.body.length=n) (hn:n≤9223372036854775000):
  Calls Tryz.prog 257 #[.agg #[.int .i64 ki,.int .u64 se,.slice A n c]] w fun e w'=>e=.returned (.int .i64 (recSize r))∧New w w':=by
 have hN:∀ o,New w (w.alloc o):=fun o=>(New.refl w).alloc o
 have HN:=Lib.hid hN
 clear hN
 have hR:=right_any ki se A n c r
 have HR:=Lib.hid hR
 clear hR
 have HK:=Lib.hid hk
 have HS:=Lib.hid hs
 have HL:=Lib.hid hl
 clear hk hs hl
 by_cases hr:recRight r=true
 ·have hz:recSize r=15+n:=by unfold recSize;rw [if_pos hr,HL.out]
  rw [hz]
  have HZ:=Lib.hid hr
  clear hz hr
  go_enter Tryz.func257,Tryz.ntmps257
  go_wp2_with fail
  refine (HR.out _ HK.out HS.out HL.out (by omega)).mono ?_
  rintro e w1 ⟨rfl,hK1⟩
  have hb:w1.heap[w.heap.size]?=some (.cells #[.int .i64 ki,.int .u64 se,.slice A n c] 188 (0,0)):=hK1.blockAt (heap_alloc_new w _) trivial
  have ck:=cellOf hb (k:=2) rfl
  clear hb
  rw [HZ.out]
  go_wp2_with fail
  go_ret
  exact ⟨by go_num,(HN.out _).new hK1⟩
 ·have hr':recRight r=false:=by simpa using hr
  have hz:recSize r=0:=by unfold recSize;rw [if_neg hr]
  rw [hz]
  have HZ:=Lib.hid hr'
  clear hz hr hr'
  go_enter Tryz.func257,Tryz.ntmps257
  go_wp2_with fail
  refine (HR.out _ HK.out HS.out HL.out (by omega)).mono ?_
  rintro e w1 ⟨rfl,hK1⟩
  rw [HZ.out]
  go_wp2_with fail
  go_ret
  exact ⟨rfl,(HN.out _).new hK1⟩
theorem own_new (w:World) (t:TypeId) (size n:Nat) (cs:Array Value) (h:cs.size=n*size) (hn:n≤maxLen):Own (w.alloc (.cells cs t)) w.heap.size t size (some ⟨w.heap.size,0,none⟩) n n cs.toList :=
 ⟨by simpa using h,.inr ⟨w.heap.size,n,cs,rfl,Nat.le_refl _,heap_alloc_new w _,Nat.le_refl _,hn,h,List.take_of_length_le (by simp [h])⟩⟩
theorem ownB_four (w:World) (a b c d:UInt8):OwnB (w.alloc (.cells #[.int .u8 (bv a),.int .u8 (bv b),.int .u8 (bv c),.int .u8 (bv d)] 5)) w.heap.size 5 (some ⟨w.heap.size,0,none⟩) 4 4 [a,b,c,d] :=
 own_new w _ 1 4 _ rfl (by decide)
theorem four_any (x:BitVec 32) (w:World):
  Calls Tryz.prog 260 #[.int .u32 (wv x)] w fun e w'=>(∃ A' c',e=.returned (.slice A' 4 c')∧OwnB w' w.heap.size 5 A' 4 c' (be4 x))∧New w w':=by
 go_enter Tryz.func260,Tryz.ntmps260
 go_wp2_with fail
 go_ret
 exact ⟨⟨_,_,rfl,ownB_four w _ _ _ _⟩,(New.refl _).alloc _⟩
theorem recsum_any (D:Nat→Prop) (A:Option Addr) (n c:Nat) (bs:List UInt8) (w:World) (hB:Bs w D A n bs) (hn:n≤9223372036854775807):
  Calls Tryz.prog 326 #[.slice A n c] w fun e w'=>(∃ A' c',e=.returned (.slice A' 4 c')∧OwnB w' w.heap.size 5 A' 4 c' (be4 (crcSum bs)))∧New w w':=by
 go_enter Tryz.func326,Tryz.ntmps326
 go_wp2_with fail
 refine (crc_sum D A n c bs w hB hn).mono ?_
 rintro e w1 ⟨rfl,rfl⟩
 go_wp2_with fail
 go_ret
 exact ⟨⟨_,_,rfl,ownB_four w _ _ _ _⟩,(New.refl _).alloc _⟩
theorem encode_yes (D:Nat→Prop) (A:Option Addr) (n c:Nat) (r:RecP) (w:World) (hB:Bs w D A n r.body) (hnc:n≤c) (hn:n≤9223372036854775000) (hs0:0≤r.seq) (hs1:r.seq≤18446744073709551615) (hr:recRight r=true):
  Calls Tryz.prog 296 #[.agg #[.int .i64 r.kind,.int .u64 r.seq,.slice A n c]] w fun e w' =>
   (∃ A' c',e=.returned (.tuple #[.slice A' (recEnc r).length c',.int .i64 0])∧OwnB w' w.heap.size 5 A' (recEnc r).length c' (recEnc r))∧New w w':=by
 have hl:=hB.len
 have HR:=Lib.hid (fun w'=>right_any r.kind r.seq A n c r w' rfl rfl hl (by omega))
 have hb0:(w.alloc (.cells #[.int .i64 r.kind,.int .u64 r.seq,.slice A n c] 188)).heap[w.heap.size]?=some (.cells #[.int .i64 r.kind,.int .u64 r.seq,.slice A n c] 188 (0,0)):=heap_alloc_new w _
 have hK0:New w (w.alloc (.cells #[.int .i64 r.kind,.int .u64 r.seq,.slice A n c] 188)):=(New.refl w).alloc _
 have HB:=Lib.hid hb0
 clear hb0
 have h900:n≤900:=by unfold recRight at hr;simp at hr;omega
 have HQ:=Lib.hid hr
 have HL:=Lib.hid hl
 clear hr hl
 go_enter Tryz.func296,Tryz.ntmps296
 go_wp2_with fail
 refine (HR.out _).mono ?_
 rintro e w1 ⟨rfl,hK1⟩
 have hlt:w.heap.size<w1.heap.size:=Nat.lt_of_lt_of_le (by simp) hK1.size
 have HB1:=Lib.hid (hK1.blockAt HB.out trivial)
 have hK01:=hK0.new hK1
 clear hK0 hK1
 rw [HQ.out]
 go_wp2_with fail
 refine (newWriter_any _).mono ?_
 rintro e w2 ⟨⟨p,rfl,hW2⟩,hK2⟩
 have HB2:=Lib.hid (hK2.blockAt HB1.out trivial)
 have ck:=cellOf HB2.out (k:=0) rfl
 generalize w1.heap.size=base at *
 go_wp2_with fail
 clear ck
 refine (wbyte_any base p _ r.kind w2 hW2 (by simp)).mono ?_
 rintro e w3 ⟨rfl,hW3,hK3⟩
 have HB3:=Lib.hid (hK3.blockAt HB2.out hlt)
 have ck:=cellOf HB3.out (k:=1) rfl
 clear hW2
 go_wp2_with fail
 clear ck
 refine (wlong_any base p _ r.seq w3 hW3 hs0 hs1 (by simp [beI_length])).mono ?_
 rintro e w4 ⟨rfl,hW4,hK4⟩
 have HB4:=Lib.hid (hK4.blockAt HB3.out hlt)
 have ck:=cellOf HB4.out (k:=2) rfl
 have hK04:Keep (fun b=>b<base) w w4:=((Keep.of_new (hK01.new hK2)).trans hK3).trans hK4
 have hB4:Bs w4 (fun b=>b<base) A n r.body:=(Row.imp hB (E:=fun b=>b<base) (fun b hb _=>by omega)).keep hK04 (fun b _ h=>h)
 clear hW3 hB hK01 hK2 hK3 hK4
 go_wp2_with fail
 clear ck
 refine (wbytes_any base p _ A n c _ r.body w4 hW4 hB4 (fun _ h=>h) hnc (by omega) (by simp [beI_length])).mono ?_
 rintro e w5 ⟨rfl,hW5,hK5⟩
 have hK05:=hK04.trans hK5
 replace hW5:Wr w5 base p (recHead r):=hW5
 have hhl:(recHead r).length≤911:=by rw [recHead_length];have:=HL.out;omega
 clear hW4 hB4 hK04 hK5
 generalize hH:recHead r=H at hW5 hhl
 have HH:=Lib.hid hH
 clear hH
 go_wp2_with fail
 refine (done_any base p _ w5 hW5 (by omega)).mono ?_
 rintro e w6 ⟨⟨A6,c6,rfl,hown6⟩,hK6⟩
 go_wp2_with fail
 refine (recsum_any _ A6 _ c6 _ w6 (Row.of_own hown6) (by omega)).mono ?_
 rintro e w7 ⟨⟨A7,c7,rfl,hown7⟩,hK7⟩
 have hW7:=(hW5.keep hK6 (fun _ _=>trivial)).keep hK7 (fun _ _=>trivial)
 have hK07:=(hK05.new hK6).new hK7
 clear hW5 hown6 hK05
 go_wp2_with fail
 refine (raw_any base p _ A7 4 c7 _ _ w7 hW7 (Row.of_own hown7) (by omega)).mono ?_
 rintro e w8 ⟨rfl,hW8,hK8⟩
 have hK08:=hK07.trans hK8
 replace hW8:Wr w8 base p (recEnc r):=by unfold recEnc;rw [HH.out];exact hW8
 have hel:(recEnc r).length≤1000:=by rw [recEnc_length];have:=HL.out;omega
 clear hW7 hown7 hK07 hK8
 generalize hE:recEnc r=E at hW8 hel
 have HE:=Lib.hid hE
 clear hE
 go_wp2_with fail
 refine (done_any base p _ w8 hW8 (by omega)).mono ?_
 rintro e w9 ⟨⟨A9,c9,rfl,hown9⟩,hK9⟩
 go_wp2_with fail
 go_ret2
 exact ⟨⟨A9,c9,by rw [HE.out];rfl,by rw [HE.out];exact own_base hown9 hK08.size⟩,(hK08.toNew (fun i hi=>Nat.lt_trans hi hlt)).new hK9⟩
theorem encode_no (D:Nat→Prop) (A:Option Addr) (n c:Nat) (r:RecP) (w:World) (hB:Bs w D A n r.body) (_hnc:n≤c) (hn:n≤9223372036854775000) (_hs0:0≤r.seq) (_hs1:r.seq≤18446744073709551615) (hr:recRight r=false):
  Calls Tryz.prog 296 #[.agg #[.int .i64 r.kind,.int .u64 r.seq,.slice A n c]] w fun e w' =>
   e=.returned (.tuple #[.slice none 0 0,.int .i64 12])∧New w w':=by
 have hl:=hB.len
 have HR:=Lib.hid (fun w'=>right_any r.kind r.seq A n c r w' rfl rfl hl (by omega))
 have hb0:(w.alloc (.cells #[.int .i64 r.kind,.int .u64 r.seq,.slice A n c] 188)).heap[w.heap.size]?=some (.cells #[.int .i64 r.kind,.int .u64 r.seq,.slice A n c] 188 (0,0)):=heap_alloc_new w _
 have hK0:New w (w.alloc (.cells #[.int .i64 r.kind,.int .u64 r.seq,.slice A n c] 188)):=(New.refl w).alloc _
 have HB:=Lib.hid hb0
 clear hb0
 have HQ:=Lib.hid hr
 have HL:=Lib.hid hl
 clear hr hl
 go_enter Tryz.func296,Tryz.ntmps296
 go_wp2_with fail
 refine (HR.out _).mono ?_
 rintro e w1 ⟨rfl,hK1⟩
 rw [HQ.out]
 go_wp2_with fail
 go_ret2
 exact ⟨rfl,hK0.new hK1⟩
end Go.Proofs.YtdodbdednpnddaaGreatDoor
