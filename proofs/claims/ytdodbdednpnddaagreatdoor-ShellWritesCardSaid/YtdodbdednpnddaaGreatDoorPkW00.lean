/-
  PROVED HERE: texts that belong together, one behind the other; what each proves, and under which conditions, its own opening remark says: WLack, KeepF, OpD22, OpLaw22, Leaf28, Bools28, Item28, StMid28, CutItem28, R15Ask28, R10Enc22, R15Enc28, Fine28, ShEnc28, LawBytes28, ShWrites28, Laid28.
-/
import Derived.Deep.SlicePairs
import Derived.Deep.MidRow
import Derived.BigQuiet
import Derived.Lib.ItoaNum
import Derived.Test.YtdodbdednpnddaaGreatDoorPkT00
import Derived.Test.YtdodbdednpnddaaGreatDoorPkT01
import Derived.Test.YtdodbdednpnddaaGreatDoorPkT02
import Derived.Test.YtdodbdednpnddaaGreatDoorPkT03
import Derived.Test.YtdodbdednpnddaaGreatDoorPkT04
import Derived.Test.YtdodbdednpnddaaGreatDoorPkT05
import Derived.Test.YtdodbdednpnddaaGreatDoorPkT06
import Derived.Test.YtdodbdednpnddaaGreatDoorPkT07
import Derived.Test.YtdodbdednpnddaaGreatDoorPkT08
import Derived.Test.YtdodbdednpnddaaGreatDoorPkT09
import Derived.Test.YtdodbdednpnddaaGreatDoorPkT10
import Derived.Test.YtdodbdednpnddaaGreatDoorPkT11
import Derived.Test.YtdodbdednpnddaaGreatDoorPkT12
import Derived.Test.YtdodbdednpnddaaGreatDoorPkT13
import Derived.Test.YtdodbdednpnddaaGreatDoorPkT14
import Derived.Test.YtdodbdednpnddaaGreatDoorPkT15
import Derived.Test.YtdodbdednpnddaaGreatDoorPkT17
import Derived.Test.YtdodbdednpnddaaGreatDoorPkT18
import Derived.Test.YtdodbdednpnddaaGreatDoorPkT19
import Derived.Test.YtdodbdednpnddaaGreatDoorPkT20
import Derived.Test.YtdodbdednpnddaaGreatDoorPkT21
import Derived.Test.YtdodbdednpnddaaGreatDoorPkT22
import Derived.Test.YtdodbdednpnddaaGreatDoorPkT23
import Derived.Test.YtdodbdednpnddaaGreatDoorPkT24
import Derived.Test.YtdodbdednpnddaaGreatDoorPkT25
import Derived.Test.YtdodbdednpnddaaGreatDoorPkT26
import Derived.Test.YtdodbdednpnddaaGreatDoorPkT27
import Derived.Test.YtdodbdednpnddaaGreatDoorPkT28
import Derived.Test.YtdodbdednpnddaaGreatDoorPkT29
import Derived.Test.YtdodbdednpnddaaGreatDoorPkT30
import Derived.Test.YtdodbdednpnddaaGreatDoorPkT31
import Derived.Test.YtdodbdednpnddaaGreatDoorPkT32
import Derived.Test.YtdodbdednpnddaaGreatDoorPkT33
import Derived.Test.YtdodbdednpnddaaGreatDoorPkT34
import Derived.Test.YtdodbdednpnddaaGreatDoorPkT35
import Derived.Test.YtdodbdednpnddaaGreatDoorPkU00
set_option maxRecDepth 200000
set_option maxHeartbeats 8000000
namespace Go.Proofs.YtdodbdednpnddaaGreatDoor
open Go.ChangeShapes Go.WideShapes Go.ChangeAt Go.RowKit Go.Joins Go.Deep
theorem bs_b1 (w:World) (x:Int):Bs (w.alloc (.cells #[.int .u8 (IntKind.u8.wrap x)] 5)) (fun b=>w.heap.size≤b) (some ⟨w.heap.size,0,none⟩) 1 (beI 1 x):=by
 have h:=Row.made w 5 #[.int .u8 (IntKind.u8.wrap x)] 1 1 rfl
 have e:(beI 1 x).map byteVal=[.int .u8 (IntKind.u8.wrap x)]:=by
  have h1:=byteVal_mod x
  simp only [beI,List.range,List.range.loop,List.map_cons,List.map_nil,IntKind.wrap_u8]
  rw [show x/2^(8*(1-1-0))%256=x%256 from by simp,h1]
 rw [Bs,e];exact h
theorem bs_b2 (w:World) (x:Int):Bs (w.alloc (.cells #[.int .u8 (IntKind.u8.wrap (x/256)),.int .u8 (IntKind.u8.wrap x)] 5)) (fun b=>w.heap.size≤b) (some ⟨w.heap.size,0,none⟩) 2 (beI 2 x):=by
 have h:=Row.made w 5 #[.int .u8 (IntKind.u8.wrap (x/256)),.int .u8 (IntKind.u8.wrap x)] 2 1 rfl
 have e:(beI 2 x).map byteVal=[.int .u8 (IntKind.u8.wrap (x/256)),.int .u8 (IntKind.u8.wrap x)]:=by
  have h1:=byteVal_mod (x/256)
  have h2:=byteVal_mod x
  simp only [beI,List.range,List.range.loop,List.map_cons,List.map_nil,IntKind.wrap_u8]
  rw [show x/2^(8*(2-1-0))%256=x/256%256 from rfl,show x/2^(8*(2-1-1))%256=x%256 from by simp,h1,h2]
 rw [Bs,e];exact h
theorem beI8_cut (n:Int){j:Nat}(hj:j<8):(beI 8 n).take (j+1)=(beI 8 n).take j++[UInt8.ofNat (n/2^(56-8*j)%256).toNat]:=by
 have h:=beI_take 8 (7-j) n (by omega)
 rw [show 8-(7-j)=j+1 from by omega,show 8-(7-j+1)=j from by omega,show 8*(7-j)=56-8*j from by omega] at h
 exact h
def BytesRet (bs:List UInt8) (w:World) (e:Ending) (w':World):Prop:=(∃ A' c',e=.returned (.slice A' bs.length c')∧OwnB w' w.heap.size 5 A' bs.length c' bs)∧New w w'
theorem BytesRet.mk' {bs:List UInt8}{w w':World}{e:Ending}{A':Option Addr}{n c':Nat}(he:e=.returned (.slice A' n c')) (ho:OwnB w' w.heap.size 5 A' n c' bs) (hk:New w w'):BytesRet bs w e w':=by
 have hl:bs.length=n:=by have:=ho.1;simpa using this
 subst hl
 exact ⟨⟨A',c',he,ho⟩,hk⟩
theorem byte4_any (D:Nat→Prop) (A:Option Addr) (n c:Nat) (bs:List UInt8) (x:Int) (w:World) (hB:Bs w D A n bs) (hn:n≤1099511627776):
  Calls Tryz.prog 29 #[.slice A n c,.int .i64 x] w (BytesRet (bs++beI 1 x) w):=by
 have hown0:OwnB (w.alloc (.cells #[] 5)) w.heap.size 5 (some ⟨w.heap.size,0,none⟩) 0 0 []:=World.ownsRow_made w #[] 0 (Nat.le_refl _) (by decide) rfl
 have hK0:New w (w.alloc (.cells #[] 5)):=(New.refl w).alloc _
 have hB0:=hB.alloc (.cells #[] 5)
 have hb0:0+n≤140737488355328:=by omega
 have hb1:n+1≤140737488355328:=by omega
 clear hB
 go_enter Tryz.func29,Tryz.ntmps29
 go_wp2_with (first
  | (at_builtin;refine app_bytes _ rfl _ _ rfl w.heap.size _ 0 0 [] rfl hown0 D A n c bs rfl hB0 hb0 hK0.size ?_;intro A1 c1 w1 hown1 hg1 hbk1;rw [Nat.zero_add,List.nil_append] at hown1;have hK1:=new_app0 hK0 hown0 hg1)
  | (at_builtin;refine app_bytes _ rfl _ _ rfl w.heap.size A1 n c1 bs rfl (hown1.alloc _) (fun g=>w1.heap.size≤g) _ 1 1 (beI 1 x) rfl (bs_b1 w1 x) hb1 ((hK1.alloc _).size) ?_;intro A2 c2 w2 hown2 hg2 hbk2;have hK2:=new_app hK1 hown1 hg2))
 go_ret
 exact BytesRet.mk' rfl hown2 hK2
theorem short4_any (D:Nat→Prop) (A:Option Addr) (n c:Nat) (bs:List UInt8) (x:Int) (w:World) (hB:Bs w D A n bs) (hn:n≤1099511627776):
  Calls Tryz.prog 32 #[.slice A n c,.int .i64 x] w (BytesRet (bs++beI 2 x) w):=by
 have hown0:OwnB (w.alloc (.cells #[] 5)) w.heap.size 5 (some ⟨w.heap.size,0,none⟩) 0 0 []:=World.ownsRow_made w #[] 0 (Nat.le_refl _) (by decide) rfl
 have hK0:New w (w.alloc (.cells #[] 5)):=(New.refl w).alloc _
 have hB0:=hB.alloc (.cells #[] 5)
 have hb0:0+n≤140737488355328:=by omega
 have hb1:n+2≤140737488355328:=by omega
 clear hB
 go_enter Tryz.func32,Tryz.ntmps32
 go_wp2_with (first
  | (at_builtin;refine app_bytes _ rfl _ _ rfl w.heap.size _ 0 0 [] rfl hown0 D A n c bs rfl hB0 hb0 hK0.size ?_;intro A1 c1 w1 hown1 hg1 hbk1;rw [Nat.zero_add,List.nil_append] at hown1;have hK1:=new_app0 hK0 hown0 hg1)
  | (at_builtin;refine app_bytes _ rfl _ _ rfl w.heap.size A1 n c1 bs rfl (hown1.alloc _) (fun g=>w1.heap.size≤g) _ 2 2 (beI 2 x) rfl (bs_b2 w1 x) hb1 ((hK1.alloc _).size) ?_;intro A2 c2 w2 hown2 hg2 hbk2;have hK2:=new_app hK1 hown1 hg2))
 go_ret
 exact BytesRet.mk' rfl hown2 hK2
theorem long4_any (D:Nat→Prop) (A:Option Addr) (n c:Nat) (bs:List UInt8) (x:Int) (w:World) (hB:Bs w D A n bs) (hn:n≤1099511627776) (_hx0:0≤x) (_hx1:x≤18446744073709551615):
  Calls Tryz.prog 68 #[.slice A n c,.int .u64 x] w (BytesRet (bs++beI 8 x) w):=by
 have hown0:OwnB (w.alloc (.cells #[] 5)) w.heap.size 5 (some ⟨w.heap.size,0,none⟩) 0 0 []:=World.ownsRow_made w #[] 0 (Nat.le_refl _) (by decide) rfl
 have hK0:New w (w.alloc (.cells #[] 5)):=(New.refl w).alloc _
 have hB0:=hB.alloc (.cells #[] 5)
 have hb0:0+n≤140737488355328:=by omega
 clear hB
 go_enter Tryz.func68,Tryz.ntmps68
 go_wp2_with (at_builtin;refine app_bytes _ rfl _ _ rfl w.heap.size _ 0 0 [] rfl hown0 D A n c bs rfl hB0 hb0 hK0.size ?_;intro A1 c1 w1 hown1 hg1 hbk1)
 rw [Nat.zero_add,List.nil_append] at hown1
 have hK1:=new_app0 hK0 hown0 hg1
 clear hg1 hbk1 hB0 hown0 hK0
 go_loopw [5,6] (fun s5 i wx=>∃ (A:Option Addr) (c j mm:Nat),s5=.slice A mm c∧j≤8∧i=.int .i64 (56-8*(j:Int))∧mm=n+j∧OwnB wx w.heap.size 5 A mm c (bs++(beI 8 x).take j)∧New w wx) (fun _ i _=>(intOf i+8).toNat)
 case atStart=>exact ⟨_,_,0,n,rfl,by omega,rfl,rfl,by simpa using hown1,hK1⟩
 case round =>
  clear hown1 hK1
  obtain ⟨Ax,cx,j,mm,rfl,hj,rfl,hmm,hown,hN⟩:=hrel
  by_cases hlt8:j<8
  ·have hb1:=bs_one wr 5 _ _ (byteVal_mod (x/2^(56-8*j)))
   have hbd:mm+1≤140737488355328:=by omega
   have HMM:=Lib.hid hmm
   clear hmm
   go_wp2_with (at_builtin;refine app_bytes _ rfl _ _ rfl w.heap.size Ax mm cx _ rfl (hown.alloc _) (fun g=>wr.heap.size≤g) _ 1 1 _ rfl hb1 hbd ((hN.alloc _).size) ?_;intro A3 c3 w3 hown3 hg3 hbk3)
   have hN3:=new_app hN hown hg3
   clear hg3 hbk3 hown hN hb1
   go_roundw
   case rel =>
    have e:(56:Int)-8*((j+1:Nat):Int)=56-8*(j:Int)-8:=by omega
    exact ⟨_,_,j+1,_,rfl,by omega,by rw [e],by have:=HMM.out;omega,by rw [beI8_cut x hlt8,← List.append_assoc];exact hown3,hN3⟩
   case measure=>simp [intOf];omega
  ·obtain rfl:j=8:=by omega
   rw [show (56-8*((8:Nat):Int)) = -8 from rfl]
   rw [List.take_of_length_le (by rw [beI_length];exact Nat.le_refl _)] at hown
   clear hmm
   go_wp2_with fail
   go_ret
   exact BytesRet.mk' rfl hown hN
theorem bytes4_any (D D2:Nat→Prop) (A A2:Option Addr) (n c n2 c2:Nat) (bs bs2:List UInt8) (w:World) (hB:Bs w D A n bs) (hB2:Bs w D2 A2 n2 bs2) (hn:n≤1099511627770) (hn2:n2≤9223372036854775807) (hnc:n2≤c2):
  Calls Tryz.prog 30 #[.slice A n c,.slice A2 n2 c2] w (BytesRet (bs++lenBytes bs2) w):=by
 have hl:=hB2.len
 by_cases hlt:65535<n2
 ·have hlb:=Lib.hid (lenBytes_long bs2 (by omega))
  have hcut:Bs w D2 A2 65535 (bs2.take 65535):=hB2.cutTo (by omega)
  have HS:=Lib.hid (fun w'=>short4_any D A n c bs 65535 w' )
  have hlt':(65535:Int)<n2:=by omega
  have hlm:(bs++beI 2 65535).length+65535≤140737488355328:=by rw [List.length_append,beI_length,hB.len];omega
  have hn':n≤1099511627776:=by omega
  clear hl hB2
  go_enter Tryz.func30,Tryz.ntmps30
  go_wp2_with fail
  refine (HS.out w hB hn').mono ?_
  rintro e w1 ⟨⟨A1,c1,rfl,hown1⟩,hK1⟩
  have hB1:=hcut.new hK1
  generalize (bs++beI 2 65535).length=m at *
  go_wp2_with (at_builtin;refine app_bytes _ rfl _ _ rfl w.heap.size A1 m c1 _ rfl hown1 D2 A2 65535 c2 _ rfl hB1 hlm hK1.size ?_;intro A3 c3 w3 hown3 hg3 hbk3)
  go_ret
  exact BytesRet.mk' rfl (by rw [hlb.out,← List.append_assoc];exact hown3) (new_app0 hK1 hown1 hg3)
 ·have hlb:Hid (lenBytes bs2=beI 2 (n2:Int)++bs2):=Lib.hid (by unfold lenBytes;rw [hl,Nat.min_eq_left (by omega),List.take_of_length_le (by omega)])
  have HS:=Lib.hid (fun w'=>short4_any D A n c bs n2 w')
  have hlt':¬ (65535:Int)<n2:=by omega
  have hlm:(bs++beI 2 (n2:Int)).length+n2≤140737488355328:=by rw [List.length_append,beI_length,hB.len];omega
  have hn':n≤1099511627776:=by omega
  clear hl
  go_enter Tryz.func30,Tryz.ntmps30
  go_wp2_with fail
  refine (HS.out w hB hn').mono ?_
  rintro e w1 ⟨⟨A1,c1,rfl,hown1⟩,hK1⟩
  have hB1:=hB2.new hK1
  generalize (bs++beI 2 (n2:Int)).length=m at *
  go_wp2_with (at_builtin;refine app_bytes _ rfl _ _ rfl w.heap.size A1 m c1 _ rfl hown1 D2 A2 n2 c2 _ rfl hB1 hlm hK1.size ?_;intro A3 c3 w3 hown3 hg3 hbk3)
  go_ret
  exact BytesRet.mk' rfl (by rw [hlb.out,← List.append_assoc];exact hown3) (new_app0 hK1 hown1 hg3)
section
variable {H:Type}{enc:TypeId×Value→H}{P:Program}{W W':World}
end
theorem read_bytes {H:Type}{enc:TypeId×Value→H}{W:World}{base:Nat}{sp:Nat→Bool}{held:Bool}{fuel:Nat}{v:Value}{x:DataW H×List MemPlace}(h:DataW.trod enc Tryz.prog W base sp held fuel 24 [v]=some x):
  ∃ (A:Option Addr) (n c:Nat) (bs:List UInt8),v=.slice A n c∧n≤c∧c≤maxLen∧Bs W (fun _=>True) A n bs:=by
 rcases open_ints Tryz.underlying24 Tryz.underlying5 (by kernel_rfl) h with ⟨hc,_⟩|⟨a,len,cap,zs,hc,_,hl,hm,hz,_,hcell,hwf⟩
 ·injection hc with hc
  exact ⟨none,0,0,[],hc,Nat.le_refl _,Nat.zero_le _,Row.nil _ _ _ _⟩
 ·injection hc with hc
  have hzl:len≤zs.length:=by rw [hz];split <;> omega
  refine ⟨some a,len,cap,(zs.take len).map fun z=>UInt8.ofNat z.toNat,hc,hl,hm,by rw [List.length_map,List.length_map,List.length_take];omega,fun hn=>?_⟩
  have h0:=hcell 0 (by omega)
  have hsp:a.spot=none:=spot_none h0
  obtain ⟨b,off,sp'⟩:=a
  simp only at hsp
  subst hsp
  have hlt:=World.block_lt_of_cell? W _ h0
  refine ⟨b,off,rfl,trivial,hlt,fun k u hu=>?_⟩
  have hk:k<len:=by
   have:=(List.getElem?_eq_some_iff.1 hu).1
   rw [List.length_map,List.length_map,List.length_take] at this;omega
  have hck:=hcell k (by omega)
  have hadd:(Addr.mk b off none).add k=⟨b,off+k,none⟩:=by
   unfold Addr.add;split
   ·rename_i e;subst e;rfl
   ·rfl
  rw [hadd] at hck
  rw [hck,← hu,List.getElem?_map,List.getElem?_map,List.getElem?_take,if_pos hk,List.getElem?_eq_getElem (by omega:k<zs.length)]
  have hw:=hwf (zs[k]'(by omega)) (List.getElem_mem _)
  simp only [Lit.wf,IntKind.min,IntKind.max,IntKind.signed,IntKind.bits] at hw
  simp at hw
  simp only [Option.map_some,byteVal,bv,List.getD_eq_getElem?_getD,List.getElem?_eq_getElem (by omega:k<zs.length),Option.getD_some]
  rw [UInt8.toNat_ofNat_of_lt' (by show _<256;omega)]
  congr 2
  omega
section
variable {α:Type}{E:Elt α}{w w':World}{base base':Nat}{t:TypeId}{D F:Nat→Prop}{A:Option Addr}{n c:Nat}{ls:List α}
theorem Sl.nil (E:Elt α) (w:World) (D:Nat→Prop) (A:Option Addr):Sl E w D A 0 []:=⟨[],by have:=Row.nil w D A E.size;exact this,rfl,fun k hk=>absurd hk (by simp)⟩
theorem Sl.cutTo (h:Sl E w D A n ls){m:Nat}(hm:m≤n):Sl E w D A m (ls.take m):=by
 obtain ⟨vs,h1,h2,h3⟩:=h
 refine ⟨vs.take (m*E.size),h1.cutTo hm,by rw [List.length_take];omega,fun k hk=>?_⟩
 have hk':k<m∧k<ls.length:=by rw [List.length_take] at hk;omega
 rw [List.getElem_take]
 refine E.shift (h3 k hk'.2) fun j hj u hu=>?_
 rw [List.getElem?_take,if_pos]
 ·exact hu
 ·have:=Nat.mul_le_mul_right E.size (show k+1≤m from hk'.1)
  rw [Nat.add_mul] at this
  omega
theorem Sl.at_ (h:Sl E w D A n ls){k:Nat}(hk:k<ls.length):∃ b off us,A=some ⟨b,off,none⟩∧D b∧b<w.heap.size∧E.At w D us 0 ls[k]∧us.length=E.size∧∀ j u,us[j]?=some u→w.cell? ⟨b,off+k*E.size+j,none⟩=some u:=by
 obtain ⟨vs,h1,h2,h3⟩:=h
 obtain ⟨b,off,hA,hD,hb,hcell⟩:=h1.2 (by omega)
 have hl:=h1.1
 have h4:=Nat.mul_le_mul_right E.size (show k+1≤n by omega)
 rw [Nat.add_mul] at h4
 refine ⟨b,off,(vs.drop (k*E.size)).take E.size,hA,hD,hb,E.shift (h3 k hk) (fun j hj u hu=>?_),by rw [List.length_take,List.length_drop];omega,fun j u hu=>?_⟩
 ·rw [Nat.zero_add,List.getElem?_take,if_pos hj,List.getElem?_drop]
  exact hu
 ·rw [List.getElem?_take] at hu
  split at hu
  ·rw [List.getElem?_drop] at hu
   rw [Nat.add_assoc]
   exact hcell _ _ hu
  ·cases hu
end
end Go.Proofs.YtdodbdednpnddaaGreatDoor
namespace Go.Proofs.YtdodbdednpnddaaGreatDoor
open Go.RowKit
theorem cut_any (A:Option Addr) (n c m:Nat) (bs:List UInt8) (D:Nat→Prop) (w:World) (_hB:Bs w D A n bs) (_hn:n≤9223372036854775807) (hnc:n≤c) (hm:m≤9223372036854775807):
  Calls Tryz.prog 14 #[.slice A n c,.int .i64 m] w fun e w'=>e=.returned (.slice A (min n m) c)∧w=w':=by
 by_cases hlt:m<n
 ·have e:min n m=m:=by omega
  rw [e]
  clear e
  go_enter Tryz.func14,Tryz.ntmps14
  go_wp2
  go_ret
  exact ⟨rfl,rfl⟩
 ·have e:min n m=n:=by omega
  rw [e]
  clear e
  go_enter Tryz.func14,Tryz.ntmps14
  go_wp2
  go_ret
  exact ⟨rfl,rfl⟩
section
variable {w w':World}
theorem op_set {g:Nat}{t:TypeId}{o1:OpP}{E1:Option Addr}{c1:Nat}(h:w.heap[g]?=some (.cells (opCells o1 E1 c1) t (0,0))){k:Nat}{u:Value}{o2:OpP}{E2:Option Addr}{c2:Nat}(e:(opCells o1 E1 c1).setIfInBounds k u=opCells o2 E2 c2):
  (w.setCell ⟨g,k,none⟩ u).heap[g]?=some (.cells (opCells o2 E2 c2) t (0,0))∧Keep (fun b=>b≠g) w (w.setCell ⟨g,k,none⟩ u):=by
 have:=setCell_block h k u
 rw [e] at this
 exact ⟨this,(Keep.refl _ w).setCell (p:=⟨g,k,none⟩) (fun hd=>absurd rfl hd) u⟩
section
variable {p gR g5 g6:Nat}{a:AskP}{o o2:OpP}{E:Option Addr}{cd:Nat}{s s':RdS}{w2:World}
end
end
section
variable {w w':World}
end
end Go.Proofs.YtdodbdednpnddaaGreatDoor
namespace Go.Proofs.YtdodbdednpnddaaGreatDoor
def strip (a:AskP) (o:OpP):OpP :=
 ⟨o.kind,if a.path then o.path else [],if a.goal then o.goal else [],if a.fd then o.fd else 0,if a.part then o.at_ else 0,if a.part then o.n else 0,if a.till then o.till else 0,if a.snap then o.snap else 0,if a.data then o.data else []⟩
end Go.Proofs.YtdodbdednpnddaaGreatDoor
namespace Go.Proofs.YtdodbdednpnddaaGreatDoor
open Go.ChangeShapes Go.WideShapes Go.ChangeAt Go.RowKit Go.Joins Go.Deep
section
variable {H:Type}{enc:TypeId×Value→H}{W:World}{base:Nat}{sp:Nat→Bool}{held:Bool}{fuel:Nat}{v:Value}{x:DataW H×List MemPlace}
theorem leaf_int {k:IntKind}{t:TypeId}(ht:Tryz.prog.underlying t=some (.int k)) (h:DataW.trod enc Tryz.prog W base sp held fuel t [v]=some x):∃ n,v=.int k n∧(Lit.int k n).wf=true:=by
 obtain ⟨n,hn,_,hw⟩:=DataW.trod_int ht h
 injection hn with hn
 exact ⟨n,hn,hw⟩
theorem leaf_i64 {t:TypeId}(ht:Tryz.prog.underlying t=some (.int .i64)) (h:DataW.trod enc Tryz.prog W base sp held fuel t [v]=some x):∃ n,v=.int .i64 n ∧ -9223372036854775808≤n∧n≤9223372036854775807:=by
 obtain ⟨n,hn,hw⟩:=leaf_int ht h
 exact ⟨n,hn,by simpa [Lit.wf,IntKind.min,IntKind.max,IntKind.signed,IntKind.bits] using hw⟩
theorem read_row {t e:TypeId}{s:Nat}(ht:Tryz.prog.underlying t=some (.slice e)) (ce:Tryz.prog.cellsOf e=s) (hs:0<s) (h:DataW.trod enc Tryz.prog W base sp held fuel t [v]=some x):
  ∃ (A:Option Addr) (n c:Nat) (vs:List Value) (R:Nat→List Value) (f:Nat),v=.slice A n c∧n≤c∧c≤maxLen∧Row W (fun _=>True) A n s vs ∧
   (∀ i,i<n→(∃ y,DataW.trod enc Tryz.prog W base sp held f e (R i)=some y)∧∀ j u,(R i)[j]?=some u→vs[i*s+j]?=some u)∧∀ u∈vs,∃ i,i<n∧u∈R i:=by
 rcases open_slice ht h with ⟨hc,_⟩|⟨a,len,cap,m,n,D,Pl,hc,_,hl,hm,hmm,_,hx⟩
 ·injection hc with hc
  exact ⟨none,0,0,[],fun _=>[],0,hc,Nat.le_refl _,Nat.zero_le _,Row.nil _ _ _ _,fun i hi=>absurd hi (Nat.not_lt_zero i),fun u hu=>nomatch hu⟩
 ·injection hc with hc
  have hlm:len≤m:=by rw [hmm];split <;> omega
  rw [ce] at hx
  obtain ⟨R,hR⟩:=choose_lt (α:=List Value) (p:=fun i r=>r.length=s∧(∃ y,DataW.trod enc Tryz.prog W base sp held n e r=some y)∧∀ j,j<s→W.cell? (a.add (i*s+j))=r[j]?) (fun i (hi:i<m)=>by
   obtain ⟨cs',h1,h2⟩:=hx i hi
   obtain ⟨_,hlen,hcell⟩:=World.cells?_some h1
   exact ⟨cs',hlen,⟨_,h2⟩,fun j hj=>by rw [← add_add];exact hcell j hj⟩)
  by_cases h0:len=0
  ·subst h0
   exact ⟨some a,0,cap,[],R,n,hc,hl,hm,⟨by rw [Nat.zero_mul];rfl,fun h=>absurd h (Nat.lt_irrefl 0)⟩,fun i hi=>absurd hi (Nat.not_lt_zero i),fun u hu=>nomatch hu⟩
  have dm:∀ i j,j<s→(i*s+j)/s=i∧(i*s+j)%s=j:=fun i j hj=>by
   rw [Nat.mul_comm,Nat.mul_add_div hs,Nat.div_eq_of_lt hj,Nat.mul_add_mod,Nat.mod_eq_of_lt hj]
   exact ⟨rfl,rfl⟩
  have hat:∀ k,k<len*s→k/s<len∧(R (k/s))[k%s]?=some ((R (k/s)).getD (k%s) (.bool false))∧W.cell? (a.add k)=some ((R (k/s)).getD (k%s) (.bool false)):=fun k hk=>by
   have h1:k/s<len:=Nat.div_lt_of_lt_mul (by rwa [Nat.mul_comm] at hk)
   obtain ⟨r1,_,r3⟩:=hR (k/s) (by omega)
   have hk2:=Nat.mod_lt k hs
   have e3:(R (k/s))[k%s]?=some ((R (k/s)).getD (k%s) (.bool false)):=by
    rw [List.getD_eq_getElem?_getD,List.getElem?_eq_getElem (by rw [r1];exact hk2)];rfl
   have e0:=r3 (k%s) hk2
   rw [e3,Nat.mul_comm,Nat.div_add_mod] at e0
   exact ⟨h1,e3,e0⟩
  have c0:=(hat 0 (Nat.mul_pos (by omega) hs)).2.2
  have hsp:=spot_none c0
  obtain ⟨b,off,sp'⟩:=a
  simp only at hsp
  subst hsp
  have hadd:∀ k,(Addr.mk b off none).add k=⟨b,off+k,none⟩:=by
   intro k;unfold Addr.add;split
   ·rename_i e;subst e;rfl
   ·rfl
  simp only [hadd] at hat c0
  have hlt:b<W.heap.size:=World.block_lt_of_cell? W _ c0
  have hlist:∀ k u,((List.range (len*s)).map fun k=>(R (k/s)).getD (k%s) (.bool false))[k]?=some u→k<len*s∧u=(R (k/s)).getD (k%s) (.bool false):=fun k u hu=>by
   have hk:k<len*s:=by
    have:=(List.getElem?_eq_some_iff.1 hu).1
    rwa [List.length_map,List.length_range] at this
   rw [List.getElem?_map,List.getElem?_range hk] at hu
   simp only [Option.map_some,Option.some.injEq] at hu
   exact ⟨hk,hu.symm⟩
  refine ⟨_,len,cap,(List.range (len*s)).map fun k=>(R (k/s)).getD (k%s) (.bool false),R,n,hc,hl,hm,⟨by rw [List.length_map,List.length_range],fun hn=>⟨b,off,rfl,trivial,hlt,fun k u hu=>?_⟩⟩,fun i hi=>⟨(hR i (by omega)).2.1,fun j u hu=>?_⟩,fun u hu=>?_⟩
  ·obtain ⟨hk,rfl⟩:=hlist k u hu
   exact (hat k hk).2.2
  ·have hj:j<s:=by
    have:=(List.getElem?_eq_some_iff.1 hu).1
    rwa [(hR i (by omega)).1] at this
   have h4:=Nat.mul_le_mul_right s (show i+1≤len from hi)
   rw [Nat.add_mul,Nat.one_mul] at h4
   rw [List.getElem?_map,List.getElem?_range (by omega)]
   simp only [Option.map_some]
   rw [(dm i j hj).1,(dm i j hj).2,List.getD_eq_getElem?_getD,hu];rfl
  ·obtain ⟨k,hk,rfl⟩:=List.mem_iff_getElem.1 hu
   obtain ⟨hk2,he⟩:=hlist k _ (List.getElem?_eq_getElem hk)
   rw [he]
   exact ⟨k/s,(hat k hk2).1,List.mem_of_getElem? (hat k hk2).2.1⟩
end
end Go.Proofs.YtdodbdednpnddaaGreatDoor
namespace Go.Proofs.YtdodbdednpnddaaGreatDoor
open Go.ChangeShapes Go.WideShapes Go.ChangeAt Go.RowKit Go.Joins Go.Deep
def boolElt:Elt Bool where
 size:=1
 At _ _ vs i x:=vs[i+0]?=some (.bool x)
 pos:=by decide
 keep:=fun h _ _=>h
 imp:=fun h _=>h
 shift:=fun h hs=>hs 0 (by decide) _ h
 one:=by
  intro w D vs i a h k hk
  match k,hk with
  | 0,_=>exact ⟨_,h,rfl⟩
theorem read_bools {H:Type}{enc:TypeId×Value→H}{W:World}{base:Nat}{sp:Nat→Bool}{held:Bool}{fuel:Nat}{v:Value}{x:DataW H×List MemPlace}(h:DataW.trod enc Tryz.prog W base sp held fuel 47 [v]=some x):
  ∃ (A:Option Addr) (n c:Nat) (ls:List Bool),v=.slice A n c∧n≤c∧c≤maxLen∧Sl boolElt W (fun _=>True) A n ls:=by
 rcases open_slice1 Tryz.underlying47 (by kernel_rfl) h with ⟨hc,_⟩|⟨a,len,cap,m,n,V,D,Pl,hc,_,hl,hm,hmm,_,hx⟩
 ·injection hc with hc
  exact ⟨none,0,0,[],hc,Nat.le_refl _,Nat.zero_le _,Sl.nil _ _ _ _⟩
 ·injection hc with hc
  have hlm:len≤m:=by rw [hmm];split <;> omega
  obtain ⟨R,hR⟩:=choose_lt (α:=Bool) (p:=fun i r=>W.cell? (a.add i)=some (.bool r)) (fun i (hi:i<m)=>by
   obtain ⟨h1,h2⟩:=hx i hi
   obtain ⟨z,hz,_⟩:=DataW.trod_bool Tryz.underlying4 h2
   injection hz with hz
   exact ⟨z,by rw [h1,hz]⟩)
  by_cases h0:len=0
  ·subst h0
   exact ⟨some a,0,cap,[],hc,hl,hm,Sl.nil _ _ _ _⟩
  have hsp:a.spot=none:=by
   have e0:=hR 0 (by omega)
   exact spot_none e0
  obtain ⟨b,off,sp'⟩:=a
  simp only at hsp
  subst hsp
  have hadd:∀ k,(Addr.mk b off none).add k=⟨b,off+k,none⟩:=by
   intro k;unfold Addr.add;split
   ·rename_i e;subst e;rfl
   ·rfl
  simp only [hadd] at hR
  have hlt:b<W.heap.size:=World.block_lt_of_cell? W _ (hR 0 (by omega))
  refine ⟨_,len,cap,(List.range len).map R,hc,hl,hm,(List.range len).map fun j=>.bool (R j),⟨?_,fun hn=>⟨b,off,rfl,trivial,hlt,fun k u hu=>?_⟩⟩,?_,fun k hk=>?_⟩
  ·rw [List.length_map,List.length_range];exact (Nat.mul_one len).symm
  ·have hk:k<len:=by
    have:=(List.getElem?_eq_some_iff.1 hu).1
    rwa [List.length_map,List.length_range] at this
   rw [List.getElem?_map,List.getElem?_range hk] at hu
   simp only [Option.map_some,Option.some.injEq] at hu
   rw [hR k (by omega),hu]
  ·simp
  ·have hk':k<len:=by simpa using hk
   have hg:((List.range len).map R)[k]=R k:=by simp
   rw [hg]
   show ((List.range len).map fun j=>Value.bool (R j))[k*1+0]?=_
   rw [show k*1+0=k from by omega,List.getElem?_map,List.getElem?_range hk'];rfl
end Go.Proofs.YtdodbdednpnddaaGreatDoor
namespace Go.Proofs.YtdodbdednpnddaaGreatDoor
open Go.ChangeShapes Go.WideShapes Go.ChangeAt Go.RowKit Go.Joins Go.Deep
structure WishP where
 kind:Int
 op:OpP
 keep:List Bool
 torn:Int
 low:Int
instance:Inhabited WishP:=⟨⟨0,⟨0,[],[],0,0,0,0,0,[]⟩,[],0,0⟩⟩
def i64In (n:Int):Prop := -9223372036854775808≤n∧n≤9223372036854775807
def OpP.Fine (o:OpP):Prop:=i64In o.kind∧i64In o.fd∧i64In o.at_∧i64In o.n∧(0≤o.till∧o.till≤18446744073709551615)∧i64In o.snap∧o.path.length≤9223372036854775807∧o.goal.length≤9223372036854775807
def WishP.Fine (x:WishP):Prop:=i64In x.kind∧x.op.Fine∧i64In x.torn∧i64In x.low
def wishArr (x:WishP) (E:Option Addr) (cd:Nat) (K:Option Addr) (ck:Nat):Array Value :=
 #[.int .i64 x.kind,.int .i64 x.op.kind,.string (strOf x.op.path),.string (strOf x.op.goal),.int .i64 x.op.fd,.int .i64 x.op.at_,.int .i64 x.op.n,.int .u64 x.op.till,.int .i64 x.op.snap,.slice E x.op.data.length cd,.slice K x.keep.length ck,.int .i64 x.torn,.int .i64 x.low]
structure WishIn (w:World) (D:Nat→Prop) (x:WishP) (E:Option Addr) (cd:Nat) (K:Option Addr) (ck:Nat):Prop where
 data:Bs w D E x.op.data.length x.op.data
 dcap:x.op.data.length≤cd∧cd≤9223372036854775807
 keeps:Sl boolElt w D K x.keep.length x.keep
 kcap:x.keep.length≤ck∧ck≤9223372036854775807
 fine:x.Fine
theorem WishIn.keep {w w':World}{D F:Nat→Prop}{x:WishP}{E:Option Addr}{cd:Nat}{K:Option Addr}{ck:Nat}(h:WishIn w D x E cd K ck) (hk:Keep F w w') (hE:∀ b,b<w.heap.size→D b→F b):WishIn w' D x E cd K ck :=
 ⟨h.data.keep hk hE,h.dcap,h.keeps.keep hk hE,h.kcap,h.fine⟩
theorem WishIn.imp {w:World}{D F:Nat→Prop}{x:WishP}{E:Option Addr}{cd:Nat}{K:Option Addr}{ck:Nat}(h:WishIn w D x E cd K ck) (hE:∀ b,b<w.heap.size→D b→F b):WishIn w F x E cd K ck :=
 ⟨h.data.imp hE,h.dcap,h.keeps.imp hE,h.kcap,h.fine⟩
theorem wish_one (x:WishP) (E:Option Addr) (cd:Nat) (K:Option Addr) (ck:Nat):∀ k,k<13→∃ u,(wishArr x E cd K ck)[k]?=some u∧u.oneCell'=true:=fun k hk =>
 match k,hk with
 | 0,_=>⟨_,rfl,rfl⟩
 | 1,_=>⟨_,rfl,rfl⟩
 | 2,_=>⟨_,rfl,rfl⟩
 | 3,_=>⟨_,rfl,rfl⟩
 | 4,_=>⟨_,rfl,rfl⟩
 | 5,_=>⟨_,rfl,rfl⟩
 | 6,_=>⟨_,rfl,rfl⟩
 | 7,_=>⟨_,rfl,rfl⟩
 | 8,_=>⟨_,rfl,rfl⟩
 | 9,_=>⟨_,rfl,rfl⟩
 | 10,_=>⟨_,rfl,rfl⟩
 | 11,_=>⟨_,rfl,rfl⟩
 | 12,_=>⟨_,rfl,rfl⟩
def wishElt:Elt WishP where
 size:=13
 At w D vs i x:=∃ E cd K ck,(∀ k,k<13→vs[i+k]?=(wishArr x E cd K ck)[k]?)∧WishIn w D x E cd K ck
 pos:=by decide
 keep:=by
  rintro w w' D F vs i a ⟨E,cd,K,ck,h,hi⟩ hk hE
  exact ⟨E,cd,K,ck,h,hi.keep hk hE⟩
 imp:=by
  rintro w D F vs i a ⟨E,cd,K,ck,h,hi⟩ hE
  exact ⟨E,cd,K,ck,h,hi.imp hE⟩
 shift:=by
  rintro w D vs us i j a ⟨E,cd,K,ck,h,hi⟩ hs
  refine ⟨E,cd,K,ck,fun k hk=>?_,hi⟩
  obtain ⟨u,hu,_⟩:=wish_one a E cd K ck k hk
  rw [hu]
  exact hs k hk u (by rw [h k hk,hu])
 one:=by
  rintro w D vs i a ⟨E,cd,K,ck,h,hi⟩ k hk
  obtain ⟨u,hu,h1⟩:=wish_one a E cd K ck k hk
  exact ⟨u,by rw [h k hk,hu],h1⟩
theorem wish_at {w:World}{D:Nat→Prop}{A:Option Addr}{n:Nat}{ls:List WishP}(h:Sl wishElt w D A n ls){k:Nat}(hk:k<ls.length):
  ∃ b off E cd K ck,A=some ⟨b,off,none⟩∧D b∧b<w.heap.size∧w.rangeAt b (off+k*13) (wishArr ls[k] E cd K ck).toList∧WishIn w D ls[k] E cd K ck:=by
 obtain ⟨b,off,us,hA,hD,hb,⟨E,cd,K,ck,h0,hi⟩,hl,hc⟩:=h.at_ hk
 refine ⟨b,off,E,cd,K,ck,hA,hD,hb,fun j u hu=>?_,hi⟩
 have hj:j<13:=(List.getElem?_eq_some_iff.1 hu).1
 exact hc j u (by rw [← Nat.zero_add j,h0 j hj,← Array.getElem?_toList];exact hu)
section
variable {H:Type}{enc:TypeId×Value→H}{W:World}{base:Nat}{sp:Nat→Bool}{held:Bool}{fuel:Nat}{v:Value}{x:DataW H×List MemPlace}
theorem leaf_str {t:TypeId}(ht:Tryz.prog.underlying t=some .string) (h:DataW.trod enc Tryz.prog W base sp held fuel t [v]=some x):∃ l:List UInt8,v=.string (strOf l)∧l.length≤9223372036854775807:=by
 obtain ⟨s,hs,_,hm⟩:=DataW.trod_string ht h
 injection hs with hs
 unfold maxLen at hm
 refine ⟨s.data.toList,by rw [hs];rfl,?_⟩
 have:s.data.toList.length=s.size:=by rw [Array.length_toList];rfl
 omega
theorem leaf_u64 {t:TypeId}(ht:Tryz.prog.underlying t=some (.int .u64)) (h:DataW.trod enc Tryz.prog W base sp held fuel t [v]=some x):∃ n,v=.int .u64 n∧0≤n∧n≤18446744073709551615:=by
 obtain ⟨n,hn,hw⟩:=leaf_int ht h
 exact ⟨n,hn,by simpa [Lit.wf,IntKind.min,IntKind.max,IntKind.signed,IntKind.bits] using hw⟩
theorem wish_elt {cs:List Value}(h:DataW.trod enc Tryz.prog W base sp held fuel 49 cs=some x):∃ (y:WishP) (E:Option Addr) (cd:Nat) (K:Option Addr) (ck:Nat),cs=(wishArr y E cd K ck).toList∧WishIn W (fun _=>True) y E cd K ck:=by
 have ce:Tryz.prog.cellsOf 49=13:=by kernel_rfl
 have co:Tryz.prog.cellsOf 46=9:=by kernel_rfl
 have c0:Tryz.prog.cellsOf 3=1:=by kernel_rfl
 have c1:Tryz.prog.cellsOf 9=1:=by kernel_rfl
 have c2:Tryz.prog.cellsOf 47=1:=by kernel_rfl
 have c3:Tryz.prog.cellsOf 26=1:=by kernel_rfl
 have c4:Tryz.prog.cellsOf 24=1:=by kernel_rfl
 obtain ⟨xs,k,_,_,hl,hxl,hf⟩:=DataW.trod_struct Tryz.underlying49 h
 rw [ce] at hl
 match xs,hxl,cs,hl with
 | [y0,y1,y2,y3,y4],_,[v0,v1,v2,v3,v4,v5,v6,v7,v8,v9,v10,v11,v12],_ =>
  have g0:=hf 0 _ rfl
  simp [c0] at g0
  have g1:=hf 1 _ rfl
  simp [co] at g1
  have g2:=hf 2 _ rfl
  simp [c2] at g2
  have g3:=hf 3 _ rfl
  simp [c0] at g3
  have g4:=hf 4 _ rfl
  simp [c0] at g4
  obtain ⟨r,rk,_,_,_,rl,rf⟩:=DataW.trod_struct Tryz.underlying46 g1
  obtain ⟨r0,r1,r2,r3,r4,r5,r6,r7,r8,rfl⟩:∃ r0 r1 r2 r3 r4 r5 r6 r7 r8,r=[r0,r1,r2,r3,r4,r5,r6,r7,r8]:=by
   match r,rl with
   | [r0,r1,r2,r3,r4,r5,r6,r7,r8],_=>exact ⟨_,_,_,_,_,_,_,_,_,rfl⟩
  have o0:=rf 0 _ rfl
  simp [c0] at o0
  have o1:=rf 1 _ rfl
  simp [c1] at o1
  have o2:=rf 2 _ rfl
  simp [c1] at o2
  have o3:=rf 3 _ rfl
  simp [c0] at o3
  have o4:=rf 4 _ rfl
  simp [c0] at o4
  have o5:=rf 5 _ rfl
  simp [c0] at o5
  have o6:=rf 6 _ rfl
  simp [c3] at o6
  have o7:=rf 7 _ rfl
  simp [c0] at o7
  have o8:=rf 8 _ rfl
  simp [c4] at o8
  obtain ⟨ki,rfl,b0⟩:=leaf_i64 Tryz.underlying3 g0
  obtain ⟨ok,rfl,b1⟩:=leaf_i64 Tryz.underlying3 o0
  obtain ⟨pa,rfl,b2⟩:=leaf_str Tryz.underlying9 o1
  obtain ⟨go,rfl,b3⟩:=leaf_str Tryz.underlying9 o2
  obtain ⟨fd,rfl,b4⟩:=leaf_i64 Tryz.underlying3 o3
  obtain ⟨at_,rfl,b5⟩:=leaf_i64 Tryz.underlying3 o4
  obtain ⟨nn,rfl,b6⟩:=leaf_i64 Tryz.underlying3 o5
  obtain ⟨ti,rfl,b7⟩:=leaf_u64 Tryz.underlying26 o6
  obtain ⟨sn,rfl,b8⟩:=leaf_i64 Tryz.underlying3 o7
  obtain ⟨E,dn,cd,da,rfl,d1,d2,d3⟩:=read_bytes o8
  obtain ⟨K,kn,ck,ke,rfl,k1,k2,k3⟩:=read_bools g2
  obtain ⟨tn,rfl,b9⟩:=leaf_i64 Tryz.underlying3 g3
  obtain ⟨cu,rfl,b10⟩:=leaf_i64 Tryz.underlying3 g4
  obtain rfl:=d3.len
  obtain rfl:=k3.len
  unfold maxLen at d2 k2
  exact ⟨⟨ki,⟨ok,pa,go,fd,at_,nn,ti,sn,da⟩,ke,tn,cu⟩,E,cd,K,ck,rfl,d3,⟨d1,by omega⟩,k3,⟨k1,by omega⟩,b0,⟨b1,b4,b5,b6,b7,b8,b2,b3⟩,b9,b10⟩
theorem read_wishes (h:DataW.trod enc Tryz.prog W base sp held fuel 43 [v]=some x):∃ (A:Option Addr) (n c:Nat) (ls:List WishP),v=.slice A n c∧n≤c∧c≤maxLen∧Sl wishElt W (fun _=>True) A n ls:=by
 obtain ⟨A,n,c,vs,R,f,hv,h1,h2,hr,hi,hu⟩:=read_row (s:=13) Tryz.underlying43 (by kernel_rfl) (by decide) h
 obtain ⟨L,hL⟩:=choose_lt (α:=WishP) (p:=fun i y=>∃ E cd K ck,R i=(wishArr y E cd K ck).toList∧WishIn W (fun _=>True) y E cd K ck) (fun i (hn:i<n)=>by
  obtain ⟨⟨y,hy⟩,_⟩:=hi i hn
  exact wish_elt hy)
 refine ⟨A,n,c,(List.range n).map L,hv,h1,h2,vs,hr,by simp,fun k hk=>?_⟩
 have hk':k<n:=by simpa using hk
 obtain ⟨E,cd,K,ck,e,hin⟩:=hL k hk'
 have hg:((List.range n).map L)[k]=L k:=by simp
 rw [hg]
 refine ⟨E,cd,K,ck,fun j hj=>?_,hin⟩
 obtain ⟨u,hu,_⟩:=wish_one (L k) E cd K ck j hj
 rw [hu]
 exact (hi k hk').2 j u (by rw [e,Array.getElem?_toList];exact hu)
end
end Go.Proofs.YtdodbdednpnddaaGreatDoor
namespace Go.Proofs.YtdodbdednpnddaaGreatDoor
open Go.RowKit
section
variable {P:Program}{ops:Array Oper}{rest:List Oper}{a:Act}{w:World}{Q:Exit→Act→World→Prop}{dst:Option Tmp}{t T ty:TypeId}{x y:Operand}{pos:String}{after:Array Edge}{g o:Nat}{old sub:Array Value}
def putL (cs:Array Value):Nat→List Value→Array Value
 | _,[]=>cs
 | o,v::r=>putL (cs.setIfInBounds o v) (o+1) r
theorem setCells_block:∀ {vs:List Value}{o:Nat}{w:World}{old:Array Value},w.heap[g]?=some (.cells old T (0,0))→(w.setCells g o vs).heap[g]?=some (.cells (putL old o vs) T (0,0))∧Keep (fun b=>b≠g) w (w.setCells g o vs)
 | [],_,_,_,h=>⟨h,Keep.refl _ _⟩
 | v::r,o,w,_,h=>by
  obtain ⟨h1,h2⟩:=setCells_block (vs:=r) (o:=o+1) (setCell_block h o v)
  exact ⟨h1,((Keep.refl _ w).setCell (p:=⟨g,o,none⟩) (fun hd=>absurd rfl hd) v).trans h2⟩
theorem there_block (hg:w.heap[g]?=some (.cells old T (0,0))){n:Nat}(ho:o+n≤old.size):w.there g o n:=fun j hj =>
 ⟨by rw [cellOf hg (k:=o+j) (Array.getElem?_eq_getElem (by omega))];rfl,frozenOf hg (o+j)⟩
theorem st_mid (hg:w.heap[g]?=some (.cells old T (0,0))) (h:∀ w',w'.heap[g]?=some (.cells (putL old o sub.toList) T (0,0))→Keep (fun b=>b≠g) w w'→wpList P ops Q rest (a.put dst undef) w')
  (hx:a.eval x=.pointer (some ⟨g,o,none⟩):=by rfl) (hy:a.eval y=.agg sub:=by rfl) (hi:(P.info? t).map (·.size)=some sub.size:=by kernel_rfl) (ho:o+sub.size≤old.size:=by exact Nat.le_of_ble_eq_true rfl) (h1:sub.all (·.oneCell')=true:=by simp [Value.oneCell']):
  wpList P ops Q ({ dst:=dst,op:=.store t x y,type:=ty,pos:=pos,after:=after,guard:=none }::rest) a w :=
 wpList_store_mid rfl t x y rfl g o sub hx hy (there_block hg ho) hi h1 (h _ (setCells_block hg).1 (setCells_block hg).2)
theorem ld_mid (hg:w.heap[g]?=some (.cells old T (0,0))) (hs:(old.extract o (o+sub.size)).toList=sub.toList) (h:wpList P ops Q rest (a.put dst (.agg sub)) w)
  (hx:a.eval x=.pointer (some ⟨g,o,none⟩):=by rfl) (hi:rowTy P t sub.size=true:=by kernel_rfl):
  wpList P ops Q ({ dst:=dst,op:=.load t x,type:=ty,pos:=pos,after:=after,guard:=none }::rest) a w:=by
 obtain ⟨d,h1,h2,h3⟩:=rowTy_says hi
 have hr:=World.rangeAt_of_block hg o sub.size
 rw [hs] at hr
 exact wpList_load_mid rfl t x rfl g o hx sub.toList d hr h1 (by cases d <;> exact h2) h3 h
end
theorem str_cut (s:List UInt8) (f k:Nat):(strOf s).extract f k=strOf ((s.take k).drop f):=by
 apply ByteArray.ext
 rw [ByteArray.data_extract]
 show s.toArray.extract f k=((s.take k).drop f).toArray
 rw [List.extract_toArray,List.extract_eq_take_drop,List.drop_take]
theorem khead_any (l:List UInt8) (w:World) (hl:l.length≤9223372036854775807):
  Calls Tryz.prog 70 #[.string (strOf l),.int .i64 210] w fun e w'=>e=.returned (.string (strOf (l.take 210)))∧w=w':=by
 have hs:(strOf l).size=l.length:=strSz l
 by_cases h:210<l.length
 ·have hd:(210:Int)<(l.length:Int):=by omega
  have hx:(strOf l).extract 0 210=strOf (l.take 210):=by have:=str_cut l 0 210;simpa using this
  generalize strOf (l.take 210)=sv at *
  generalize strOf l=s at *
  generalize l.length=n at *
  go_enter Tryz.func70,Tryz.ntmps70
  go_wp2_with fail
  go_ret
  exact ⟨rfl,rfl⟩
 ·have hd:¬ (210:Int)<(l.length:Int):=by omega
  rw [List.take_of_length_le (by omega)]
  generalize strOf l=s at *
  generalize l.length=n at *
  go_enter Tryz.func70,Tryz.ntmps70
  go_wp2_with fail
  go_ret
  exact ⟨rfl,rfl⟩
def OpP.cut (o:OpP):OpP:=⟨o.kind,o.path.take 210,o.goal.take 210,o.fd,o.at_,o.n,o.till,o.snap,o.data.take 610⟩
def WishP.cut (x:WishP):WishP:=⟨x.kind,x.op.cut,x.keep.take 40,x.torn,x.low⟩
theorem op_boxes (o:OpP) (E:Option Addr) (cd:Nat) (w:World):∃ w2,w2=(w.alloc (.cells (opCells o E cd) 46)).alloc (.cells #[.int .i64 0,.string ⟨#[]⟩,.string ⟨#[]⟩,.int .i64 0,.int .i64 0,.int .i64 0,.int .u64 0,.int .i64 0,.slice none 0 0] 46)∧New w w2 ∧
  w2.heap[w.heap.size]?=some (.cells (opCells o E cd) 46 (0,0))∧w2.heap[w.heap.size+1]?=some (.cells #[.int .i64 0,.string ⟨#[]⟩,.string ⟨#[]⟩,.int .i64 0,.int .i64 0,.int .i64 0,.int .u64 0,.int .i64 0,.slice none 0 0] 46 (0,0)):=by
 refine ⟨_,rfl,((New.refl w).alloc _).alloc _,?_,?_⟩
 ·exact ((New.refl _).alloc _).blockAt (heap_alloc_new w _) trivial
 ·have h:=heap_alloc_new (w.alloc (.cells (opCells o E cd) 46)) (.cells #[.int .i64 0,.string ⟨#[]⟩,.string ⟨#[]⟩,.int .i64 0,.int .i64 0,.int .i64 0,.int .u64 0,.int .i64 0,.slice none 0 0] 46)
  rwa [show (w.alloc (.cells (opCells o E cd) 46)).heap.size=w.heap.size+1 from Array.size_push ..] at h
theorem kshort_any (o:OpP) (E:Option Addr) (cd:Nat){D:Nat→Prop}(w:World) (hE:Bs w D E o.data.length o.data) (hcd:o.data.length≤cd) (hm:cd≤9223372036854775807) (hp:o.path.length≤9223372036854775807) (hg:o.goal.length≤9223372036854775807):
  Calls Tryz.prog 28 #[opVal o E cd] w fun e w'=>e=.returned (opVal o.cut E cd)∧New w w':=by
 obtain ⟨w2,hw2,k2,x1,x2⟩:=op_boxes o E cd w
 have HW2:=Lib.hid hw2
 have HP:=Lib.hid (fun W=>khead_any o.path W hp)
 have HG:=Lib.hid (fun W=>khead_any o.goal W hg)
 have HC:Hid (∀ W,New w W→Calls Tryz.prog 14 #[.slice E o.data.length cd,.int .i64 610] W fun e w'=>e=.returned (.slice E (o.data.take 610).length cd)∧W=w'):=Lib.hid fun W hW=>by
  have h:=cut_any E o.data.length cd 610 o.data D W (hE.new hW) (by omega) hcd (by decide)
  rwa [show min o.data.length 610=(o.data.take 610).length from by rw [List.length_take,Nat.min_comm]] at h
 obtain ⟨dn,hdn⟩:∃ dn,dn=(o.data.take 610).length:=⟨_,rfl⟩
 rw [← hdn] at HC
 have HDN:=Lib.hid hdn
 have HK2:=Lib.hid k2
 obtain ⟨r,hr⟩:∃ r,r=opVal o.cut E cd:=⟨_,rfl⟩
 rw [← hr]
 have HR:=Lib.hid hr
 obtain ⟨o0,o1,o2,o3,o4,o5,o6,o7,o8⟩:=op_at (o:=o) (E:=E) (cd:=cd) x1
 have z1:=frozenOf x1 1
 have z2:=frozenOf x1 2
 have z8:=frozenOf x1 8
 have HX:=Lib.hid (And.intro x1 x2)
 unfold opVal opCells at *
 clear hw2 k2 x1 x2 hE hcd hm hp hg hr hdn
 go_enter Tryz.func28,Tryz.ntmps28
 go_upto_region 1 with fail
 rw [← HW2.out]
 generalize hg1:w.heap.size=g1 at *
 have HG1:=Lib.hid hg1
 clear hg1 HW2
 go_wp2_with fail
 refine (HP.out _).mono ?_
 rintro e w' ⟨rfl,rfl⟩
 go_wp2_with fail
 refine (HG.out _).mono ?_
 rintro e w' ⟨rfl,rfl⟩
 go_upto_region 3 with fail
 obtain ⟨y1,m1⟩:=op_set (o1:=o) (E1:=E) (c1:=cd) HX.out.1 (k:=1) (u:=.string (strOf (o.path.take 210))) (o2:={ o with path:=o.path.take 210 }) (E2:=E) (c2:=cd) rfl
 obtain ⟨y2,m2⟩:=op_set y1 (k:=2) (u:=.string (strOf (o.goal.take 210))) (o2:={ o with path:=o.path.take 210,goal:=o.goal.take 210 }) (E2:=E) (c2:=cd) rfl
 clear o0 o1 o2 o3 o4 o5 o6 o7 o8 z1 z2 z8 y1
 have mm:=m1.trans m2
 generalize (w2.setCell ⟨g1,1,none⟩ _).setCell ⟨g1,2,none⟩ _=wc at *
 have HY:=Lib.hid (And.intro (mm.blockAt HX.out.2 (show g1+1≠g1 by omega)) (And.intro y2 (HK2.out.trans2 mm fun b hb _=>by show b≠g1;have:=HG1.out;omega)))
 have o8:=(op_at y2).2.2.2.2.2.2.2.2
 have z8:=frozenOf y2 8
 clear m1 m2 mm y2 HK2 HX
 go_wp2_with fail
 refine (HC.out _ HY.out.2.2).mono ?_
 rintro e w' ⟨rfl,rfl⟩
 go_upto_region 4 with fail
 obtain ⟨y3,m3⟩:=op_set HY.out.2.1 (k:=8) (u:=.slice E dn cd) (o2:=o.cut) (E2:=E) (c2:=cd) (by rw [HDN.out];rfl)
 generalize wc.setCell ⟨g1,8,none⟩ _=wd at *
 have y4:=m3.blockAt HY.out.1 (show g1+1≠g1 by omega)
 have HN:=Lib.hid (HY.out.2.2.trans2 m3 fun b hb _=>by show b≠g1;have:=HG1.out;omega)
 clear o8 z8 m3 HY
 unfold opCells at y3
 go_wp2_with (first|(refine ld_all y3 ?_)|(refine st_all y4 (fun wE hE hKE=>?_)))
 refine ret_all hE ?_
 exact ⟨by rw [HR.out],HN.out.trans2 hKE fun b hb _=>by show b≠g1+1;have:=HG1.out;omega⟩
def wishNil:Array Value:=#[.int .i64 0,.int .i64 0,.string ⟨#[]⟩,.string ⟨#[]⟩,.int .i64 0,.int .i64 0,.int .i64 0,.int .u64 0,.int .i64 0,.slice none 0 0,.slice none 0 0,.int .i64 0,.int .i64 0]
theorem put_op (k:Int) (o1 o:OpP) (E1 E:Option Addr) (c1 cd:Nat) (K:Option Addr) (kn ck:Nat) (a b:Int):putL #[.int .i64 k,.int .i64 o1.kind,.string (strOf o1.path),.string (strOf o1.goal),.int .i64 o1.fd,.int .i64 o1.at_,.int .i64 o1.n,.int .u64 o1.till,.int .i64 o1.snap,.slice E1 o1.data.length c1,.slice K kn ck,.int .i64 a,.int .i64 b] 1 (opCells o E cd).toList=#[.int .i64 k,.int .i64 o.kind,.string (strOf o.path),.string (strOf o.goal),.int .i64 o.fd,.int .i64 o.at_,.int .i64 o.n,.int .u64 o.till,.int .i64 o.snap,.slice E o.data.length cd,.slice K kn ck,.int .i64 a,.int .i64 b]:=by
 unfold opCells
 simp [putL]
theorem lcut_any (x:WishP) (E:Option Addr) (cd:Nat) (K:Option Addr) (ck:Nat){D:Nat→Prop}(w:World) (hi:WishIn w D x E cd K ck):
  Calls Tryz.prog 12 #[.agg (wishArr x E cd K ck)] w fun e w'=>e=.returned (.agg (wishArr x.cut E cd K ck))∧New w w':=by
 obtain ⟨w2,hw2⟩:∃ w2,w2=(w.alloc (.cells (wishArr x E cd K ck) 49)).alloc (.cells wishNil 49):=⟨_,rfl⟩
 have k2:New w w2:=by rw [hw2];exact ((New.refl w).alloc _).alloc _
 have x1:w2.heap[w.heap.size]?=some (.cells (wishArr x E cd K ck) 49 (0,0)):=by rw [hw2];exact ((New.refl _).alloc _).blockAt (heap_alloc_new w _) trivial
 have x2:w2.heap[w.heap.size+1]?=some (.cells wishNil 49 (0,0)):=by
  have h:=heap_alloc_new (w.alloc (.cells (wishArr x E cd K ck) 49)) (.cells wishNil 49)
  rw [show (w.alloc (.cells (wishArr x E cd K ck) 49)).heap.size=w.heap.size+1 from Array.size_push ..] at h
  rw [hw2];exact h
 have HW2:=Lib.hid hw2
 have hS:∀ W,New w W→Calls Tryz.prog 28 #[opVal x.op E cd] W fun e w'=>e=.returned (opVal x.op.cut E cd)∧New W w':=fun W hW =>
  kshort_any x.op E cd W (hi.data.new hW) hi.dcap.1 hi.dcap.2 hi.fine.2.1.2.2.2.2.2.2.1 hi.fine.2.1.2.2.2.2.2.2.2
 obtain ⟨r,hr⟩:∃ r,r=Value.agg (wishArr x.cut E cd K ck):=⟨_,rfl⟩
 rw [← hr]
 have HR:=Lib.hid hr
 have HX:=Lib.hid (And.intro x1 (And.intro x2 k2))
 obtain ⟨kn,hkn⟩:∃ kn,kn=x.keep.length:=⟨_,rfl⟩
 have HKN:=Lib.hid hkn
 have hkc:kn≤ck:=by rw [hkn];exact hi.kcap.1
 have hkm:=hi.kcap.2
 unfold opVal wishArr wishNil at *
 rw [← hkn] at HX HW2 ⊢
 have HS:=Lib.hid hS
 clear hw2 k2 x1 x2 hi hr hkn hS
 go_enter Tryz.func12,Tryz.ntmps12
 go_upto_region 1 with fail
 rw [← HW2.out]
 generalize hg1:w.heap.size=g1 at *
 have HG1:=Lib.hid hg1
 clear hg1 HW2
 have x1:=HX.out.1
 go_wp2_with (refine ld_mid x1 (sub:=opCells x.op E cd) rfl ?_)
 refine (HS.out _ HX.out.2.2).mono ?_
 rintro e w3 ⟨rfl,k3⟩
 clear x1
 have HX3:=Lib.hid (And.intro (k3.blockAt HX.out.1 trivial) (And.intro (k3.blockAt HX.out.2.1 trivial) (HX.out.2.2.new k3)))
 clear k3 HX HS
 have x1:=HX3.out.1
 go_upto_region 2 with (refine st_mid x1 (sub:=opCells x.op.cut E cd) (fun w4 h4 m4=>?_) (h1:=by simp [opCells,Value.oneCell']))
 have HX4:=Lib.hid (And.intro trivial (And.intro (m4.blockAt HX3.out.2.1 (show g1+1≠g1 by omega)) (HX3.out.2.2.trans2 m4 fun b hb _=>by show b≠g1;have:=HG1.out;omega)))
 have h5:=h4
 rw [put_op] at h5
 clear x1 h4 m4 HX3
 have c10:=cellOf h5 (k:=10) rfl
 have z10:=frozenOf h5 10
 by_cases h:40<kn
 ·have hd:(40:Int)<(kn:Int):=by omega
  go_upto_region 4 with fail
  clear c10 z10
  have y:=HX4.out.2.1
  have h6:=setCell_block h5 10 (.slice K 40 ck)
  have m6:=(Keep.refl (fun b=>b≠g1) w4).setCell (p:=⟨g1,10,none⟩) (fun hd=>absurd rfl hd) (.slice K 40 ck)
  generalize w4.setCell ⟨g1,10,none⟩ _=w5 at *
  have h7:w5.heap[g1]?=some (.cells #[.int .i64 x.kind,.int .i64 x.op.cut.kind,.string (strOf x.op.cut.path),.string (strOf x.op.cut.goal),.int .i64 x.op.cut.fd,.int .i64 x.op.cut.at_,.int .i64 x.op.cut.n,.int .u64 x.op.cut.till,.int .i64 x.op.cut.snap,.slice E x.op.cut.data.length cd,.slice K 40 ck,.int .i64 x.torn,.int .i64 x.low] 49 (0,0)):=by simpa using h6
  have y2:=m6.blockAt y (show g1+1≠g1 by omega)
  have HN:=Lib.hid (HX4.out.2.2.trans2 m6 fun b hb _=>by show b≠g1;have:=HG1.out;omega)
  clear h5 h6 m6 y
  go_wp2_with (first|(refine ld_all h7 ?_)|(refine st_all y2 (fun wE hE hKE=>?_)))
  refine ret_all hE ?_
  exact ⟨by rw [HR.out];unfold WishP.cut;dsimp only;rw [show (x.keep.take 40).length=40 from by rw [List.length_take,← HKN.out];omega],HN.out.trans2 hKE fun b hb _=>by show b≠g1+1;have:=HG1.out;omega⟩
 ·have hd:¬ (40:Int)<(kn:Int):=by omega
  go_upto_region 4 with fail
  clear c10 z10
  have y:=HX4.out.2.1
  go_wp2_with (first|(refine ld_all h5 ?_)|(refine st_all y (fun wE hE hKE=>?_)))
  refine ret_all hE ?_
  exact ⟨by rw [HR.out];unfold WishP.cut;dsimp only;rw [List.take_of_length_le (by rw [← HKN.out];omega),← HKN.out],HX4.out.2.2.trans2 hKE fun b hb _=>by show b≠g1+1;have:=HG1.out;omega⟩
def pathsI (k:Int):Bool := !(k==4||k==5||k==6||k==14||k==15||k==16||k==17)
theorem rpaths_any (k:Int) (w:World):Calls Tryz.prog 64 #[.int .i64 k] w fun e w'=>e=.returned (.bool (pathsI k))∧w=w':=by
 obtain ⟨v,hv⟩:∃ v,v=pathsI k:=⟨_,rfl⟩
 rw [← hv]
 have HV:=Lib.hid hv
 clear hv
 rcases kinds k with rfl|rfl|rfl|rfl|rfl|rfl|rfl|rfl|rfl|rfl|rfl|rfl|rfl|rfl|rfl|rfl|rfl|⟨h1,h2,h3,h4,h5,h6,h7,h8,h9,h10,h11,h12,h13,h14,h15,h16,h17⟩
 case inr.inr.inr.inr.inr.inr.inr.inr.inr.inr.inr.inr.inr.inr.inr.inr.inr =>
  have HP:Hid (v=true):=Lib.hid (by
   rw [HV.out];unfold pathsI
   rw [beq_eq_false_iff_ne.2 h4,beq_eq_false_iff_ne.2 h5,beq_eq_false_iff_ne.2 h6,beq_eq_false_iff_ne.2 h14,beq_eq_false_iff_ne.2 h15,beq_eq_false_iff_ne.2 h16,beq_eq_false_iff_ne.2 h17];rfl)
  go_enter Tryz.func64,Tryz.ntmps64
  go_wp2_with fail
  go_ret
  exact ⟨by rw [HP.out];rfl,rfl⟩
 all_goals
  go_enter Tryz.func64,Tryz.ntmps64
  go_wp2_with fail
  go_ret
  exact ⟨by rw [HV.out];rfl,rfl⟩
def rgoalI (k:Int):Bool:=(k==7||k==10)
def rfdI (k:Int):Bool:=(k==4||k==5||k==6)
def rtillI (k:Int):Bool:=(k==6||k==13||k==16)
def rsnapI (k:Int):Bool:=(k==3||k==11||k==12||k==15)
theorem rgoal_any (k:Int) (w:World):Calls Tryz.prog 65 #[.int .i64 k] w fun e w'=>e=.returned (.bool (rgoalI k))∧w=w':=by
 obtain ⟨v,hv⟩:∃ v,v=rgoalI k:=⟨_,rfl⟩
 rw [← hv]
 have HV:=Lib.hid hv
 clear hv
 by_cases h0:k=7 <;> by_cases h1:k=10
 all_goals
  go_enter Tryz.func65,Tryz.ntmps65
  go_wp2_with fail
  go_ret
  exact ⟨by rw [HV.out];unfold rgoalI;simp_all,rfl⟩
theorem rfd_any (k:Int) (w:World):Calls Tryz.prog 66 #[.int .i64 k] w fun e w'=>e=.returned (.bool (rfdI k))∧w=w':=by
 obtain ⟨v,hv⟩:∃ v,v=rfdI k:=⟨_,rfl⟩
 rw [← hv]
 have HV:=Lib.hid hv
 clear hv
 by_cases h0:k=4 <;> by_cases h1:k=5 <;> by_cases h2:k=6
 all_goals
  go_enter Tryz.func66,Tryz.ntmps66
  go_wp2_with fail
  go_ret
  exact ⟨by rw [HV.out];unfold rfdI;simp_all,rfl⟩
theorem rtill_any (k:Int) (w:World):Calls Tryz.prog 67 #[.int .i64 k] w fun e w'=>e=.returned (.bool (rtillI k))∧w=w':=by
 obtain ⟨v,hv⟩:∃ v,v=rtillI k:=⟨_,rfl⟩
 rw [← hv]
 have HV:=Lib.hid hv
 clear hv
 by_cases h0:k=6 <;> by_cases h1:k=13 <;> by_cases h2:k=16
 all_goals
  go_enter Tryz.func67,Tryz.ntmps67
  go_wp2_with fail
  go_ret
  exact ⟨by rw [HV.out];unfold rtillI;simp_all,rfl⟩
theorem rsnap_any (k:Int) (w:World):Calls Tryz.prog 69 #[.int .i64 k] w fun e w'=>e=.returned (.bool (rsnapI k))∧w=w':=by
 obtain ⟨v,hv⟩:∃ v,v=rsnapI k:=⟨_,rfl⟩
 rw [← hv]
 have HV:=Lib.hid hv
 clear hv
 by_cases h0:k=3 <;> by_cases h1:k=11 <;> by_cases h2:k=12 <;> by_cases h3:k=15
 all_goals
  go_enter Tryz.func69,Tryz.ntmps69
  go_wp2_with fail
  go_ret
  exact ⟨by rw [HV.out];unfold rsnapI;simp_all,rfl⟩
theorem asked_flags {k:Int}{a:AskP}(hk:asksOf k=some a):pathsI k=a.path∧rgoalI k=a.goal∧rfdI k=a.fd∧decide (k=4)=a.part∧rtillI k=a.till∧rsnapI k=a.snap∧decide (k=5)=a.data:=by
 rcases kinds k with rfl|rfl|rfl|rfl|rfl|rfl|rfl|rfl|rfl|rfl|rfl|rfl|rfl|rfl|rfl|rfl|rfl|⟨h1,h2,h3,h4,h5,h6,h7,h8,h9,h10,h11,h12,h13,h14,h15,h16,h17⟩
 case inr.inr.inr.inr.inr.inr.inr.inr.inr.inr.inr.inr.inr.inr.inr.inr.inr=>rw [asks_none h1 h2 h3 h4 h5 h6 h7 h8 h9 h10 h11 h12 h13 h14 h15 h16 h17] at hk;cases hk
 all_goals
  simp [asksOf] at hk
  subst hk
  decide
theorem rasked_any (o:OpP) (E:Option Addr) (cd:Nat){a:AskP}(hk:asksOf o.kind=some a) (w:World):
  Calls Tryz.prog 53 #[opVal o E cd] w fun e w'=>e=.returned (opVal (strip a o) (if a.data then E else none) (if a.data then cd else 0))∧New w w':=by
 obtain ⟨hp,hg,hf,hq,ht,hs,hd⟩:=asked_flags hk
 have HP:=Lib.hid (fun W=>rpaths_any o.kind W)
 have HG:=Lib.hid (fun W=>rgoal_any o.kind W)
 have HF:=Lib.hid (fun W=>rfd_any o.kind W)
 have HT:=Lib.hid (fun W=>rtill_any o.kind W)
 have HS:=Lib.hid (fun W=>rsnap_any o.kind W)
 rw [hp] at HP
 rw [hg] at HG
 rw [hf] at HF
 rw [ht] at HT
 rw [hs] at HS
 obtain ⟨w2,hw2,k2,x1,x2⟩:=op_boxes o E cd w
 have HW2:=Lib.hid hw2
 have HX2:=Lib.hid (And.intro x1 (And.intro x2 k2))
 obtain ⟨p,g,f,q,t,s,d⟩:=a
 dsimp only at HP HG HF HT HS hq hd
 have HQ:=Lib.hid hq
 have HD:=Lib.hid hd
 clear hk hp hg hf hq ht hs hd hw2 x1 x2 k2
 obtain ⟨px,hpx⟩:∃ px,px=(if p then o.path else []):=⟨_,rfl⟩
 obtain ⟨gx,hgx⟩:∃ gx,gx=(if g then o.goal else []):=⟨_,rfl⟩
 obtain ⟨fx,hfx⟩:∃ fx,fx=(if f then o.fd else 0):=⟨_,rfl⟩
 obtain ⟨qx,hqx⟩:∃ qx,qx=(if q then o.at_ else 0):=⟨_,rfl⟩
 obtain ⟨ux,hux⟩:∃ ux,ux=(if q then o.n else 0):=⟨_,rfl⟩
 obtain ⟨tx,htx⟩:∃ tx,tx=(if t then o.till else 0):=⟨_,rfl⟩
 obtain ⟨sx,hsx⟩:∃ sx,sx=(if s then o.snap else 0):=⟨_,rfl⟩
 obtain ⟨dx,hdx⟩:∃ dx,dx=(if d then o.data else []):=⟨_,rfl⟩
 obtain ⟨ex,hex⟩:∃ ex,ex=(if d then E else none):=⟨_,rfl⟩
 obtain ⟨cx,hcx⟩:∃ cx,cx=(if d then cd else 0):=⟨_,rfl⟩
 obtain ⟨r,hr⟩:∃ r,r=opVal (strip ⟨p,g,f,q,t,s,d⟩ o) (if d then E else none) (if d then cd else 0):=⟨_,rfl⟩
 rw [← hr]
 have HR:Hid (r=opVal ⟨o.kind,px,gx,fx,qx,ux,tx,sx,dx⟩ ex cx):=Lib.hid (by rw [hr,hpx,hgx,hfx,hqx,hux,htx,hsx,hdx,hex,hcx];rfl)
 have HPX:=Lib.hid hpx
 have HGX:=Lib.hid hgx
 have HFX:=Lib.hid hfx
 have HQX:=Lib.hid hqx
 have HUX:=Lib.hid hux
 have HTX:=Lib.hid htx
 have HSX:=Lib.hid hsx
 have HDX:=Lib.hid hdx
 have HEX:=Lib.hid hex
 have HCX:=Lib.hid hcx
 clear hr hpx hgx hfx hqx hux htx hsx hdx hex hcx
 unfold opVal at *
 have o0:=(op_at HX2.out.1).1
 go_enter Tryz.func53,Tryz.ntmps53
 unfold opCells at *
 go_upto_region 1 with fail
 rw [← HW2.out]
 generalize hg1:w.heap.size=g1 at *
 have HG1:=Lib.hid hg1
 clear hg1 HW2
 go_upto_region 2 with (refine st_all (heap_alloc_new w2 _) (cells:=opCells ⟨o.kind,[],[],0,0,0,0,0,[]⟩ none 0) (fun wc hE hKE=>?_) (h1:=by simp [opCells,Value.oneCell']))
 have HE:Hid (wc.heap[w2.heap.size]?=some (.cells (opCells ⟨o.kind,[],[],0,0,0,0,0,[]⟩ none 0) 46 (0,0))∧Keep (fun b=>b≠w2.heap.size) w2 wc∧g1+1<w2.heap.size):=Lib.hid ⟨hE,((Keep.refl (fun b=>b≠w2.heap.size) w2).alloc _).trans hKE,(Array.getElem?_eq_some_iff.1 HX2.out.2.1).1⟩
 generalize hg3:w2.heap.size=g3 at *
 have HO:Hid (∀ W,Keep (fun b=>b≠g3) w2 W→W.heap[g1]?=some (.cells (opCells o E cd) 46 (0,0))∧W.heap[g1+1]?=some (.cells #[.int .i64 0,.string ⟨#[]⟩,.string ⟨#[]⟩,.int .i64 0,.int .i64 0,.int .i64 0,.int .u64 0,.int .i64 0,.slice none 0 0] 46 (0,0))):=Lib.hid fun W hK=>⟨hK.blockAt HX2.out.1 (by have:=HE.out.2.2;omega),hK.blockAt HX2.out.2.1 (by have:=HE.out.2.2;omega)⟩
 have HK:=Lib.hid HE.out.2.1
 have HY:=Lib.hid HE.out.1
 clear hE hKE hg3 o0
 have o0:=(op_at (HO.out wc HK.out).1).1
 go_wp2_with fail
 refine (HP.out _).mono ?_
 rintro e w' ⟨rfl,rfl⟩
 go_upto_if 9 with fail
 go_cut [] from 9 to 12 (fun wx=>wx.heap[g3]?=some (.cells (opCells ⟨o.kind,px,[],0,0,0,0,0,[]⟩ none 0) 46 (0,0))∧Keep (fun b=>b≠g3) w2 wx)
 case first =>
  cases p
  ·obtain rfl:px=[]:=HPX.out
   go_wp2_with fail
   go_meet
   exact ⟨HY.out,HK.out⟩
  ·obtain rfl:px=o.path:=HPX.out
   clear o0
   obtain ⟨o0,o1,o2,o3,o4,o5,o6,o7,o8⟩:=op_at (HO.out wc HK.out).1
   clear o0 o2 o3 o4 o5 o6 o7 o8
   have z1:=frozenOf HY.out 1
   have y1:=cellOf HY.out (k:=1) rfl
   have hne:g1≠g3:=by have:=HE.out.2.2;omega
   go_wp2_with fail
   go_meet
   obtain ⟨h,m⟩:=op_set HY.out (k:=1) (u:=.string (strOf o.path)) (o2:=⟨o.kind,o.path,[],0,0,0,0,0,[]⟩) (E2:=none) (c2:=0) rfl
   exact ⟨h,HK.out.trans m⟩
 case rest =>
  obtain ⟨hx,hk⟩:=hcut
  clear HY HK o0
  have HY:=Lib.hid hx
  have HK:=Lib.hid hk
  clear hx hk
  have o0:=(op_at (HO.out wc HK.out).1).1
  go_wp2_with fail
  refine (HG.out _).mono ?_
  rintro e w' ⟨rfl,rfl⟩
  go_upto_if 15 with fail
  go_cut [] from 15 to 18 (fun wx=>wx.heap[g3]?=some (.cells (opCells ⟨o.kind,px,gx,0,0,0,0,0,[]⟩ none 0) 46 (0,0))∧Keep (fun b=>b≠g3) w2 wx)
  case first =>
   cases g
   ·obtain rfl:gx=[]:=HGX.out
    go_wp2_with fail
    go_meet
    exact ⟨HY.out,HK.out⟩
   ·obtain rfl:gx=o.goal:=HGX.out
    clear o0
    obtain ⟨o0,o1,o2,o3,o4,o5,o6,o7,o8⟩:=op_at (HO.out wc HK.out).1
    clear o0 o1 o3 o4 o5 o6 o7 o8
    have z2:=frozenOf HY.out 2
    have y2:=cellOf HY.out (k:=2) rfl
    have hne:g1≠g3:=by have:=HE.out.2.2;omega
    go_wp2_with fail
    go_meet
    obtain ⟨h,m⟩:=op_set HY.out (k:=2) (u:=.string (strOf o.goal)) (o2:=⟨o.kind,px,o.goal,0,0,0,0,0,[]⟩) (E2:=none) (c2:=0) rfl
    exact ⟨h,HK.out.trans m⟩
  case rest =>
   obtain ⟨hx,hk⟩:=hcut
   clear HY HK o0
   have HY:=Lib.hid hx
   have HK:=Lib.hid hk
   clear hx hk
   have o0:=(op_at (HO.out wc HK.out).1).1
   go_wp2_with fail
   refine (HF.out _).mono ?_
   rintro e w' ⟨rfl,rfl⟩
   go_upto_if 21 with fail
   go_cut [] from 21 to 24 (fun wx=>wx.heap[g3]?=some (.cells (opCells ⟨o.kind,px,gx,fx,0,0,0,0,[]⟩ none 0) 46 (0,0))∧Keep (fun b=>b≠g3) w2 wx)
   case first =>
    cases f
    ·obtain rfl:fx=0:=HFX.out
     go_wp2_with fail
     go_meet
     exact ⟨HY.out,HK.out⟩
    ·obtain rfl:fx=o.fd:=HFX.out
     clear o0
     obtain ⟨o0,o1,o2,o3,o4,o5,o6,o7,o8⟩:=op_at (HO.out wc HK.out).1
     clear o0 o1 o2 o4 o5 o6 o7 o8
     have z3:=frozenOf HY.out 3
     have y3:=cellOf HY.out (k:=3) rfl
     have hne:g1≠g3:=by have:=HE.out.2.2;omega
     go_wp2_with fail
     go_meet
     obtain ⟨h,m⟩:=op_set HY.out (k:=3) (u:=.int .i64 o.fd) (o2:=⟨o.kind,px,gx,o.fd,0,0,0,0,[]⟩) (E2:=none) (c2:=0) rfl
     exact ⟨h,HK.out.trans m⟩
   case rest =>
    obtain ⟨hx,hk⟩:=hcut
    clear HY HK o0
    have HY:=Lib.hid hx
    have HK:=Lib.hid hk
    clear hx hk
    have o0:=(op_at (HO.out wc HK.out).1).1
    go_upto_if 27 with fail
    go_cut [] from 27 to 33 (fun wx=>wx.heap[g3]?=some (.cells (opCells ⟨o.kind,px,gx,fx,qx,ux,0,0,[]⟩ none 0) 46 (0,0))∧Keep (fun b=>b≠g3) w2 wx)
    case first =>
     cases q
     ·obtain rfl:qx=0:=HQX.out
      obtain rfl:ux=0:=HUX.out
      have h4:=of_decide_eq_false HQ.out
      go_wp2_with fail
      go_meet
      exact ⟨HY.out,HK.out⟩
     ·obtain rfl:qx=o.at_:=HQX.out
      obtain rfl:ux=o.n:=HUX.out
      have h4:=of_decide_eq_true HQ.out
      go_upto_region 9 with fail
      clear h4 o0
      obtain ⟨o0,o1,o2,o3,o4,o5,o6,o7,o8⟩:=op_at (HO.out wc HK.out).1
      clear o0 o1 o2 o3 o6 o7 o8
      have z4:=frozenOf HY.out 4
      have z5:=frozenOf HY.out 5
      have y4:=cellOf HY.out (k:=4) rfl
      have y5:=cellOf HY.out (k:=5) rfl
      have hne:g1≠g3:=by have:=HE.out.2.2;omega
      go_region
      go_wp2_with fail
      go_meet
      obtain ⟨h,m⟩:=op_set HY.out (k:=4) (u:=.int .i64 o.at_) (o2:=⟨o.kind,px,gx,fx,o.at_,0,0,0,[]⟩) (E2:=none) (c2:=0) rfl
      obtain ⟨h2,m2⟩:=op_set h (k:=5) (u:=.int .i64 o.n) (o2:=⟨o.kind,px,gx,fx,o.at_,o.n,0,0,[]⟩) (E2:=none) (c2:=0) rfl
      exact ⟨h2,(HK.out.trans (m.trans m2)).drew⟩
    case rest =>
     obtain ⟨hx,hk⟩:=hcut
     clear HY HK o0
     have HY:=Lib.hid hx
     have HK:=Lib.hid hk
     clear hx hk
     have o0:=(op_at (HO.out wc HK.out).1).1
     go_wp2_with fail
     refine (HT.out _).mono ?_
     rintro e w' ⟨rfl,rfl⟩
     go_upto_if 36 with fail
     go_cut [] from 36 to 39 (fun wx=>wx.heap[g3]?=some (.cells (opCells ⟨o.kind,px,gx,fx,qx,ux,tx,0,[]⟩ none 0) 46 (0,0))∧Keep (fun b=>b≠g3) w2 wx)
     case first =>
      cases t
      ·obtain rfl:tx=0:=HTX.out
       go_wp2_with fail
       go_meet
       exact ⟨HY.out,HK.out⟩
      ·obtain rfl:tx=o.till:=HTX.out
       clear o0
       obtain ⟨o0,o1,o2,o3,o4,o5,o6,o7,o8⟩:=op_at (HO.out wc HK.out).1
       clear o0 o1 o2 o3 o4 o5 o7 o8
       have z6:=frozenOf HY.out 6
       have y6:=cellOf HY.out (k:=6) rfl
       have hne:g1≠g3:=by have:=HE.out.2.2;omega
       go_wp2_with fail
       go_meet
       obtain ⟨h,m⟩:=op_set HY.out (k:=6) (u:=.int .u64 o.till) (o2:=⟨o.kind,px,gx,fx,qx,ux,o.till,0,[]⟩) (E2:=none) (c2:=0) rfl
       exact ⟨h,HK.out.trans m⟩
     case rest =>
      obtain ⟨hx,hk⟩:=hcut
      clear HY HK o0
      have HY:=Lib.hid hx
      have HK:=Lib.hid hk
      clear hx hk
      have o0:=(op_at (HO.out wc HK.out).1).1
      go_wp2_with fail
      refine (HS.out _).mono ?_
      rintro e w' ⟨rfl,rfl⟩
      go_upto_if 42 with fail
      go_cut [] from 42 to 45 (fun wx=>wx.heap[g3]?=some (.cells (opCells ⟨o.kind,px,gx,fx,qx,ux,tx,sx,[]⟩ none 0) 46 (0,0))∧Keep (fun b=>b≠g3) w2 wx)
      case first =>
       cases s
       ·obtain rfl:sx=0:=HSX.out
        go_wp2_with fail
        go_meet
        exact ⟨HY.out,HK.out⟩
       ·obtain rfl:sx=o.snap:=HSX.out
        clear o0
        obtain ⟨o0,o1,o2,o3,o4,o5,o6,o7,o8⟩:=op_at (HO.out wc HK.out).1
        clear o0 o1 o2 o3 o4 o5 o6 o8
        have z7:=frozenOf HY.out 7
        have y7:=cellOf HY.out (k:=7) rfl
        have hne:g1≠g3:=by have:=HE.out.2.2;omega
        go_wp2_with fail
        go_meet
        obtain ⟨h,m⟩:=op_set HY.out (k:=7) (u:=.int .i64 o.snap) (o2:=⟨o.kind,px,gx,fx,qx,ux,tx,o.snap,[]⟩) (E2:=none) (c2:=0) rfl
        exact ⟨h,HK.out.trans m⟩
      case rest =>
       obtain ⟨hx,hk⟩:=hcut
       clear HY HK o0
       have HY:=Lib.hid hx
       have HK:=Lib.hid hk
       clear hx hk
       have o0:=(op_at (HO.out wc HK.out).1).1
       go_upto_if 48 with fail
       go_cut [] from 48 to 51 (fun wx=>wx.heap[g3]?=some (.cells (opCells ⟨o.kind,px,gx,fx,qx,ux,tx,sx,dx⟩ ex cx) 46 (0,0))∧Keep (fun b=>b≠g3) w2 wx)
       case first =>
        cases d
        ·obtain rfl:dx=[]:=HDX.out
         obtain rfl:ex=none:=HEX.out
         obtain rfl:cx=0:=HCX.out
         have h4:=of_decide_eq_false HD.out
         go_wp2_with fail
         go_meet
         exact ⟨HY.out,HK.out⟩
        ·obtain rfl:dx=o.data:=HDX.out
         obtain rfl:ex=E:=HEX.out
         obtain rfl:cx=cd:=HCX.out
         have h4:=of_decide_eq_true HD.out
         go_upto_region 15 with fail
         clear h4 o0
         obtain ⟨o0,o1,o2,o3,o4,o5,o6,o7,o8⟩:=op_at (HO.out wc HK.out).1
         clear o0 o1 o2 o3 o4 o5 o6 o7
         have z8:=frozenOf HY.out 8
         have y8:=cellOf HY.out (k:=8) rfl
         have hne:g1≠g3:=by have:=HE.out.2.2;omega
         go_wp2_with fail
         go_meet
         obtain ⟨h,m⟩:=op_set HY.out (k:=8) (u:=.slice ex o.data.length cx) (o2:=⟨o.kind,px,gx,fx,qx,ux,tx,sx,o.data⟩) (E2:=ex) (c2:=cx) rfl
         exact ⟨h,HK.out.trans m⟩
       case rest =>
        obtain ⟨hx,hk⟩:=hcut
        clear HY HK o0
        have HY:=Lib.hid hx
        have HK:=Lib.hid hk
        clear hx hk
        have y:=(HO.out wc HK.out).2
        have h5:=HY.out
        go_wp2_with (first|(refine ld_all h5 ?_)|(refine st_all y (fun wE hE hKE=>?_) (h1:=by simp [opCells,Value.oneCell'])))
        refine ret_all hE ?_
        exact ⟨by rw [HR.out];rfl,(HX2.out.2.2.trans2 HK.out fun b hb _=>by show b≠g3;have:=HE.out.2.2;have:=HG1.out;omega).trans2 hKE fun b hb _=>by show b≠g1+1;have:=HG1.out;omega⟩
theorem flag4_any (D:Nat→Prop) (A:Option Addr) (n c:Nat) (bs:List UInt8) (b:Bool) (w:World) (hB:Bs w D A n bs) (hn:n≤1099511627776):
  Calls Tryz.prog 31 #[.slice A n c,.bool b] w (BytesRet (bs++flagByte b) w):=by
 cases b
 ·have HB:=Lib.hid (byte4_any D A n c bs 0 w hB hn)
  have HL:Hid ((bs++beI 1 0).length=(bs++flagByte false).length):=Lib.hid rfl
  clear hB
  go_enter Tryz.func31,Tryz.ntmps31
  go_wp2_with fail
  refine HB.out.mono ?_
  rintro e w' ⟨⟨A',c',rfl,ho⟩,hk⟩
  have HF:=Lib.hid (And.intro ho hk)
  generalize (bs++beI 1 0).length=L at *
  clear ho hk
  go_wp2_with fail
  go_ret
  exact BytesRet.mk' rfl HF.out.1 HF.out.2
 ·have HB:=Lib.hid (byte4_any D A n c bs 1 w hB hn)
  clear hB
  go_enter Tryz.func31,Tryz.ntmps31
  go_wp2_with fail
  refine HB.out.mono ?_
  rintro e w' ⟨⟨A',c',rfl,ho⟩,hk⟩
  have HF:=Lib.hid (And.intro ho hk)
  generalize (bs++beI 1 1).length=L at *
  clear ho hk
  go_wp2_with fail
  go_ret
  exact BytesRet.mk' rfl HF.out.1 HF.out.2
def opFine (o:OpP):Bool:=match asksOf o.kind with
 | some a=>decide (rightOf o a=0)
 | none=>false
def opEnc (o:OpP):List UInt8:=match asksOf o.kind with
 | some a=>opBytes o a
 | none=>[]
def EncRet (o:OpP) (w:World) (e:Ending) (w':World):Prop :=
 New w w'∧((opFine o=true∧∃ A n c,e=.returned (.tuple #[.slice A n c,.int .i64 0])∧n≤c∧Bs w' (fun b=>w.heap.size≤b) A n (opEnc o))∨(opFine o=false∧∃ x:Int,x≠0∧e=.returned (.tuple #[.slice none 0 0,.int .i64 x])))
theorem asks_range {k:Int}:(asksOf k).isSome=decide (1≤k∧k≤17):=by
 rcases kinds k with rfl|rfl|rfl|rfl|rfl|rfl|rfl|rfl|rfl|rfl|rfl|rfl|rfl|rfl|rfl|rfl|rfl|⟨h1,h2,h3,h4,h5,h6,h7,h8,h9,h10,h11,h12,h13,h14,h15,h16,h17⟩
 case inr.inr.inr.inr.inr.inr.inr.inr.inr.inr.inr.inr.inr.inr.inr.inr.inr =>
  rw [asks_none h1 h2 h3 h4 h5 h6 h7 h8 h9 h10 h11 h12 h13 h14 h15 h16 h17]
  exact (decide_eq_false (by omega)).symm
 all_goals rfl
theorem fine_strip (o:OpP) (a:AskP):rightOf o a=0↔((strip a o).path.length≤200∧(strip a o).goal.length≤200∧(strip a o).data.length≤600)∧shortI (strip a o).fd=true∧shortI (strip a o).at_=true∧shortI (strip a o).n=true∧shortI (strip a o).snap=true:=by
 have h0:shortI 0=true:=rfl
 have h1:longOf o a=false↔(strip a o).path.length≤200∧(strip a o).goal.length≤200∧(strip a o).data.length≤600:=by
  obtain ⟨p,g,f,q,t,s,d⟩:=a
  cases p <;> cases g <;> cases d <;> simp [longOf,strip,and_assoc]
 have h2:wideOf o a=false↔shortI (strip a o).fd=true∧shortI (strip a o).at_=true∧shortI (strip a o).n=true∧shortI (strip a o).snap=true:=by
  obtain ⟨p,g,f,q,t,s,d⟩:=a
  cases f <;> cases q <;> cases s <;> simp [wideOf,strip,h0,and_assoc]
 rw [← h1,← h2]
 unfold rightOf
 cases longOf o a <;> cases wideOf o a <;> simp
def EncAt (w wx:World) (g1 g4:Nat) (C1 C4:Array Value) (A:Option Addr) (n c:Nat) (bs:List UInt8) (m:Nat):Prop :=
 New w wx∧wx.heap[g1]?=some (.cells C1 46 (0,0))∧wx.heap[g4]?=some (.cells C4 46 (0,0))∧n≤c∧n≤m∧Bs wx (fun b=>w.heap.size≤b) A n bs
theorem EncAt.step {w wx w':World}{g1 g4:Nat}{C1 C4:Array Value}{A:Option Addr}{n c m:Nat}{bs:List UInt8}(h:EncAt w wx g1 g4 C1 C4 A n c bs m){q:List UInt8}{e:Ending}(hr:BytesRet (bs++q) wx e w'){j:Nat}(hq:q.length≤j):∃ A' n' c',e=.returned (.slice A' n' c')∧EncAt w w' g1 g4 C1 C4 A' n' c' (bs++q) (m+j):=by
 obtain ⟨h1,h2,h3,h4,h5,h6⟩:=h
 obtain ⟨⟨A',c',rfl,ho⟩,k⟩:=hr
 have hl:=h6.len
 refine ⟨A',_,c',rfl,h1.new k,k.blockAt h2 trivial,k.blockAt h3 trivial,own_cap ho,by rw [List.length_append];omega,(Row.of_own ho).imp fun b _ hb=>Nat.le_trans h1.size hb⟩
theorem EncAt.skip {w wx:World}{g1 g4:Nat}{C1 C4:Array Value}{A:Option Addr}{n c m:Nat}{bs q:List UInt8}(h:EncAt w wx g1 g4 C1 C4 A n c bs m) (hq:q=[]) (j:Nat):EncAt w wx g1 g4 C1 C4 A n c (bs++q) (m+j):=by
 obtain ⟨h1,h2,h3,h4,h5,h6⟩:=h
 subst hq
 rw [List.append_nil]
 exact ⟨h1,h2,h3,h4,by omega,h6⟩
theorem EncAt.new {w wx w':World}{g1 g4:Nat}{C1 C4:Array Value}{A:Option Addr}{n c m:Nat}{bs:List UInt8}(h:EncAt w wx g1 g4 C1 C4 A n c bs m) (k:New wx w'):EncAt w w' g1 g4 C1 C4 A n c bs m:=by
 obtain ⟨h1,h2,h3,h4,h5,h6⟩:=h
 exact ⟨h1.new k,k.blockAt h2 trivial,k.blockAt h3 trivial,h4,h5,Row.new h6 k⟩
theorem rsh15_any (n:Int) (w:World):Calls Tryz.prog 63 #[.int .i64 n] w fun e w'=>e=.returned (.bool (shortI n))∧w=w':=by
 obtain ⟨v,hv⟩:∃ v,v=shortI n:=⟨_,rfl⟩
 rw [← hv]
 have HV:=Lib.hid hv
 clear hv
 by_cases h0:0≤n <;> by_cases h1:n≤65535
 all_goals
  go_enter Tryz.func63,Tryz.ntmps63
  go_wp2_with fail
  go_ret
  exact ⟨by rw [HV.out];unfold shortI;simp [h0,h1],rfl⟩
theorem r15enc_any (o:OpP) (E:Option Addr) (cd:Nat){D:Nat→Prop}(w:World) (hE:Bs w D E o.data.length o.data) (hcd:o.data.length≤cd) (hd:o.data.length≤1099511627776) (ht0:0≤o.till) (ht1:o.till≤18446744073709551615):
  Calls Tryz.prog 26 #[opVal o E cd] w fun e w'=>EncRet o w e w':=by
 have k1:=(New.refl w).alloc (.cells (opCells o E cd) 46)
 have x1:=heap_alloc_new w (.cells (opCells o E cd) 46)
 obtain ⟨w1,hw1⟩:∃ w1,w1=w.alloc (.cells (opCells o E cd) 46):=⟨_,rfl⟩
 rw [← hw1] at k1 x1
 have HW1:=Lib.hid hw1
 have o0:=(op_at x1).1
 have hrg:=asks_range (k:=o.kind)
 cases hk:asksOf o.kind with
 | none =>
  have HNO:Hid (∀ e,(∃ x:Int,x≠0∧e=.returned (.tuple #[.slice none 0 0,.int .i64 x]))→EncRet o w e w1):=Lib.hid fun e h=>⟨k1,Or.inr ⟨by unfold opFine;rw [hk],h⟩⟩
  rw [hk] at hrg
  have hno:o.kind<1∨¬ o.kind<1∧17<o.kind:=by have:=of_decide_eq_false hrg.symm;omega
  unfold opVal at *
  clear hrg hk k1 x1 hw1
  go_enter Tryz.func26,Tryz.ntmps26
  unfold opCells at *
  go_upto_region 1 with fail
  rw [← HW1.out]
  rcases hno with h1|⟨h1,h2⟩
  all_goals
   go_wp2_with fail
   go_ret2
   exact HNO.out _ ⟨30,by decide,rfl⟩
 | some a =>
  rw [hk] at hrg
  have hr:=of_decide_eq_true hrg.symm
  have h1:¬ o.kind<1:=by omega
  have h17:¬ 17<o.kind:=by omega
  obtain ⟨hp,hg,hf,hq,ht,hs,hdd⟩:=asked_flags hk
  have HP:=Lib.hid (fun W=>rpaths_any o.kind W)
  have HG:=Lib.hid (fun W=>rgoal_any o.kind W)
  have HF:=Lib.hid (fun W=>rfd_any o.kind W)
  have HT:=Lib.hid (fun W=>rtill_any o.kind W)
  have HS:=Lib.hid (fun W=>rsnap_any o.kind W)
  rw [hp] at HP
  rw [hg] at HG
  rw [hf] at HF
  rw [ht] at HT
  rw [hs] at HS
  have HA:=Lib.hid (fun W=>rasked_any o E cd hk W)
  have HBAD:Hid (rightOf o a≠0→∀ w' e,New w w'→(∃ x:Int,x≠0∧e=.returned (.tuple #[.slice none 0 0,.int .i64 x]))→EncRet o w e w'):=Lib.hid fun hb w' e hn h=>⟨hn,Or.inr ⟨by unfold opFine;rw [hk];exact decide_eq_false hb,h⟩⟩
  have HOK:Hid (rightOf o a=0→∀ w' A n c,New w w'→n≤c→Bs w' (fun b=>w.heap.size≤b) A n (opBytes o a)→EncRet o w (.returned (.tuple #[.slice A n c,.int .i64 0])) w'):=Lib.hid fun hb w' A n c hn hc h=>⟨hn,Or.inl ⟨by unfold opFine;rw [hk];exact decide_eq_true hb,A,n,c,rfl,hc,by unfold opEnc;rw [hk];exact h⟩⟩
  have HQ:=Lib.hid hq
  have HD:=Lib.hid hdd
  have HFI:=Lib.hid (fine_strip o a)
  have hDN:∃ E2 cd2,E2=(if a.data then E else none)∧cd2=(if a.data then cd else 0)∧(strip a o).data.length≤cd2∧Bs w D E2 (strip a o).data.length (strip a o).data:=by
   refine ⟨_,_,rfl,rfl,?_⟩
   unfold strip
   cases a.data
   ·exact ⟨Nat.le_refl _,Row.nil _ _ _ _⟩
   ·exact ⟨hcd,hE⟩
  obtain ⟨E2,cd2,hE2,hcd2,hdc,hdb⟩:=hDN
  rw [← hE2,← hcd2] at HA
  have HST:Hid ((strip a o).kind=o.kind∧(a.path=true→(strip a o).path=o.path)∧(a.goal=true→(strip a o).goal=o.goal)∧(a.fd=true→(strip a o).fd=o.fd)∧(a.part=true→(strip a o).at_=o.at_∧(strip a o).n=o.n)∧(a.till=true→(strip a o).till=o.till)∧(a.snap=true→(strip a o).snap=o.snap)∧(a.data=true→(strip a o).data=o.data)∧(strip a o).data.length≤1099511627776):=Lib.hid (by
   unfold strip
   refine ⟨rfl,fun h=>if_pos h,fun h=>if_pos h,fun h=>if_pos h,fun h=>⟨if_pos h,if_pos h⟩,fun h=>if_pos h,fun h=>if_pos h,fun h=>if_pos h,?_⟩
   dsimp only
   split
   ·exact hd
   ·exact Nat.zero_le _)
  generalize strip a o=so at *
  have HDB:=Lib.hid (And.intro hdc hdb)
  have HTL:=Lib.hid (And.intro ht0 ht1)
  have HX1:=Lib.hid (And.intro x1 k1)
  have HPN:Hid (opPart0 o a=(if a.path then lenBytes o.path else [])∧opPart1 o a=(if a.goal then lenBytes o.goal else [])∧opPart2 o a=(if a.fd then beI 2 o.fd else [])∧opPart3 o a=(if a.part then beI 2 o.at_++beI 2 o.n else [])∧opPart4 o a=(if a.till then beI 8 o.till else [])∧opPart5 o a=(if a.snap then beI 2 o.snap else [])∧opPart6 o a=(if a.data then lenBytes o.data else [])):=Lib.hid ⟨rfl,rfl,rfl,rfl,rfl,rfl,rfl⟩
  have HPL:Hid ((opPart0 o a).length≤65537∧(opPart1 o a).length≤65537∧(opPart2 o a).length≤2∧(opPart3 o a).length≤4∧(opPart4 o a).length≤8∧(opPart5 o a).length≤2∧(opPart6 o a).length≤65537):=Lib.hid ⟨opPart0_le o a,opPart1_le o a,opPart2_le o a,opPart3_le o a,opPart4_le o a,opPart5_le o a,opPart6_le o a⟩
  have HOB:Hid (opBytes o a=((((((beI 1 o.kind++opPart0 o a)++opPart1 o a)++opPart2 o a)++opPart3 o a)++opPart4 o a)++opPart5 o a)++opPart6 o a):=Lib.hid rfl
  generalize opBytes o a=ob at *
  generalize opPart0 o a=q0 at *
  generalize opPart1 o a=q1 at *
  generalize opPart2 o a=q2 at *
  generalize opPart3 o a=q3 at *
  generalize opPart4 o a=q4 at *
  generalize opPart5 o a=q5 at *
  generalize opPart6 o a=q6 at *
  unfold opVal at *
  clear hk hrg hr hp hg hf hq ht hs hdd hE2 hcd2 hdc hdb ht0 ht1 hE hcd hd k1 hw1
  go_enter Tryz.func26,Tryz.ntmps26
  go_upto_region 1 with fail
  rw [← HW1.out]
  generalize hg1:w.heap.size=g1 at *
  have HG1:=Lib.hid hg1
  clear hg1
  go_upto_region 3 with fail
  clear h1 h17 o0
  go_wp2_with (refine ld_all (cells:=opCells o E cd) x1 ?_)
  refine (HA.out _).mono ?_
  rintro e w3 ⟨rfl,k3⟩
  have HX3:=Lib.hid (And.intro (k3.blockAt HX1.out.1 trivial) (HX1.out.2.new k3))
  clear k3 HA HX1 x1 HW1
  go_upto_region 4 with (refine st_all (heap_alloc_new w3 _) (cells:=opCells so E2 cd2) (fun wc hC hKC=>?_) (h1:=by simp [opCells,Value.oneCell']))
  have HX4:Hid (wc.heap[g1]?=some (.cells (opCells o E cd) 46 (0,0))∧wc.heap[w3.heap.size]?=some (.cells (opCells so E2 cd2) 46 (0,0))∧New w wc∧g1<w3.heap.size):=Lib.hid (by
   have hlt:=(Array.getElem?_eq_some_iff.1 HX3.out.1).1
   have kk:=((Keep.refl (fun b=>b≠w3.heap.size) w3).alloc _).trans hKC
   exact ⟨kk.blockAt HX3.out.1 (Nat.ne_of_lt hlt),hC,HX3.out.2.trans2 kk fun b hb _=>by show b≠_;have:=HG1.out;omega,hlt⟩)
  generalize hg4:w3.heap.size=g4 at *
  clear hC hKC HX3 hg4
  obtain ⟨o0,o1,o2,o3,o4,o5,o6,o7,o8⟩:=op_at (o:=so) (E:=E2) (cd:=cd2) HX4.out.2.1
  have s1:=strSz so.path
  have s2:=strSz so.goal
  by_cases p0:200<so.path.length
  ·have hc0:(200:Int)<(so.path.length:Int):=by omega
   go_wp2_with fail
   go_ret2
   exact HBAD.out (fun h=>by have:=HFI.out.1 h;omega) _ _ HX4.out.2.2.1 ⟨3,by decide,rfl⟩
  have hc0:¬ (200:Int)<(so.path.length:Int):=by omega
  by_cases p1:200<so.goal.length
  ·have hc1:(200:Int)<(so.goal.length:Int):=by omega
   go_wp2_with fail
   go_ret2
   exact HBAD.out (fun h=>by have:=HFI.out.1 h;omega) _ _ HX4.out.2.2.1 ⟨3,by decide,rfl⟩
  have hc1:¬ (200:Int)<(so.goal.length:Int):=by omega
  by_cases p2:600<so.data.length
  ·have hc2:(600:Int)<(so.data.length:Int):=by omega
   go_wp2_with fail
   go_ret2
   exact HBAD.out (fun h=>by have:=HFI.out.1 h;omega) _ _ HX4.out.2.2.1 ⟨3,by decide,rfl⟩
  have hc2:¬ (600:Int)<(so.data.length:Int):=by omega
  have HPP:=Lib.hid (And.intro p0 (And.intro p1 p2))
  go_upto_region 6 with fail
  clear p0 p1 p2 hc0 hc1 hc2 s1 s2
  by_cases b0:shortI so.fd=true
  rotate_left
  ·have b0:=Bool.not_eq_true _▸b0
   go_wp2_with fail
   refine (rsh15_any _ _).mono ?_
   rintro e w' ⟨rfl,rfl⟩
   go_wp2_with fail
   go_ret2
   exact HBAD.out (fun h=>by have:=HFI.out.1 h;simp_all) _ _ HX4.out.2.2.1 ⟨1,by decide,rfl⟩
  by_cases b1:shortI so.at_=true
  rotate_left
  ·have b1:=Bool.not_eq_true _▸b1
   go_wp2_with fail
   refine (rsh15_any _ _).mono ?_
   rintro e w' ⟨rfl,rfl⟩
   go_wp2_with fail
   refine (rsh15_any _ _).mono ?_
   rintro e w' ⟨rfl,rfl⟩
   go_wp2_with fail
   go_ret2
   exact HBAD.out (fun h=>by have:=HFI.out.1 h;simp_all) _ _ HX4.out.2.2.1 ⟨1,by decide,rfl⟩
  by_cases b2:shortI so.n=true
  rotate_left
  ·have b2:=Bool.not_eq_true _▸b2
   go_wp2_with fail
   refine (rsh15_any _ _).mono ?_
   rintro e w' ⟨rfl,rfl⟩
   go_wp2_with fail
   refine (rsh15_any _ _).mono ?_
   rintro e w' ⟨rfl,rfl⟩
   go_wp2_with fail
   refine (rsh15_any _ _).mono ?_
   rintro e w' ⟨rfl,rfl⟩
   go_wp2_with fail
   go_ret2
   exact HBAD.out (fun h=>by have:=HFI.out.1 h;simp_all) _ _ HX4.out.2.2.1 ⟨1,by decide,rfl⟩
  by_cases b3:shortI so.snap=true
  rotate_left
  ·have b3:=Bool.not_eq_true _▸b3
   go_wp2_with fail
   refine (rsh15_any _ _).mono ?_
   rintro e w' ⟨rfl,rfl⟩
   go_wp2_with fail
   refine (rsh15_any _ _).mono ?_
   rintro e w' ⟨rfl,rfl⟩
   go_wp2_with fail
   refine (rsh15_any _ _).mono ?_
   rintro e w' ⟨rfl,rfl⟩
   go_wp2_with fail
   refine (rsh15_any _ _).mono ?_
   rintro e w' ⟨rfl,rfl⟩
   go_wp2_with fail
   go_ret2
   exact HBAD.out (fun h=>by have:=HFI.out.1 h;simp_all) _ _ HX4.out.2.2.1 ⟨1,by decide,rfl⟩
  go_wp2_with fail
  refine (rsh15_any _ _).mono ?_
  rintro e w' ⟨rfl,rfl⟩
  go_wp2_with fail
  refine (rsh15_any _ _).mono ?_
  rintro e w' ⟨rfl,rfl⟩
  go_wp2_with fail
  refine (rsh15_any _ _).mono ?_
  rintro e w' ⟨rfl,rfl⟩
  go_wp2_with fail
  refine (rsh15_any _ _).mono ?_
  rintro e w' ⟨rfl,rfl⟩
  have HZ:Hid (rightOf o a=0):=Lib.hid (HFI.out.2 (by have:=HPP.out;exact ⟨⟨by omega,by omega,by omega⟩,b0,b1,b2,b3⟩))
  go_upto_region 8 with fail
  clear b0 b1 b2 b3 o0 o1 o2 o3 o4 o5 o6 o7 o8
  have o0:=(op_at HX4.out.1).1
  go_wp2_with fail
  have hA0:EncAt w wc g1 g4 (opCells o E cd) (opCells so E2 cd2) none 0 0 [] 0:=⟨HX4.out.2.2.1,HX4.out.1,HX4.out.2.1,Nat.le_refl _,Nat.le_refl _,Row.nil _ _ _ _⟩
  refine (byte4_any (fun b=>w.heap.size≤b) none 0 0 [] _ _ (Row.nil _ _ _ _) (by decide)).mono ?_
  rintro e wc hr
  obtain ⟨A,n,c,rfl,hA⟩:=hA0.step hr (j:=1) (by rw [beI_length];exact Nat.le_refl _)
  rw [List.nil_append] at hA
  generalize hb0:beI 1 o.kind=bs0 at *
  have HB0:=Lib.hid hb0
  clear HX4 hA0 hr o0 hb0
  have HE:=Lib.hid hA
  clear hA
  have o0:=(op_at HE.out.2.1).1
  go_wp2_with fail
  refine (HP.out _).mono ?_
  rintro e w' ⟨rfl,rfl⟩
  go_upto_if 59 with fail
  go_cut [5] from 59 to 64 (fun s5 wx=>∃ A n c,s5=.slice A n c∧EncAt w wx g1 g4 (opCells o E cd) (opCells so E2 cd2) A n c (bs0++q0) (0+1+65537))
  case first =>
   have hpp:=HPN.out.1
   cases hfl:a.path
   ·rw [hfl] at hpp
    go_wp2_with fail
    go_meet
    exact ⟨_,_,_,rfl,HE.out.skip hpp _⟩
   ·rw [hfl] at hpp
    obtain ⟨p0,p1,p2,p3,p4,p5,p6,p7,p8⟩:=op_at HE.out.2.2.1
    rw [HST.out.2.1 hfl] at p1
    clear p0 p2 p3 p4 p5 p6 p7 p8
    obtain ⟨cpc,wv,hconv,hcpc,hkc,hBc⟩:=conv_name o.path wc
    have HE2:=Lib.hid (HE.out.new hkc)
    have HC:=Lib.hid (And.intro hcpc hBc)
    clear hcpc hkc hBc
    go_wp2_with fail
    refine (bytes4_any _ _ A _ n c o.path.length cpc bs0 o.path wv HE2.out.2.2.2.2.2 HC.out.2 (by have:=HE.out.2.2.2.2.1;omega) (by have:=HPP.out.1;rw [HST.out.2.1 hfl] at this;omega) HC.out.1).mono ?_
    rintro e w' hr
    rw [show lenBytes o.path=q0 from by rw [hpp,if_pos trivial]] at hr
    obtain ⟨A2,n2,c2,rfl,hA⟩:=HE2.out.step hr HPL.out.1
    have HF2:=Lib.hid hA
    clear hA hr
    go_wp2_with fail
    go_meet
    exact ⟨_,_,_,rfl,HF2.out⟩
  case rest =>
   obtain ⟨A,n,c,rfl,hA⟩:=hcut
   clear HE o0
   generalize hb1:bs0++q0=bs1 at *
   have HB1:=Lib.hid hb1
   have HE:=Lib.hid hA
   clear hA hb1
   have o0:=(op_at HE.out.2.1).1
   go_wp2_with fail
   refine (HG.out _).mono ?_
   rintro e w' ⟨rfl,rfl⟩
   go_upto_if 67 with fail
   go_cut [5] from 67 to 72 (fun s5 wx=>∃ A n c,s5=.slice A n c∧EncAt w wx g1 g4 (opCells o E cd) (opCells so E2 cd2) A n c (bs1++q1) (0+1+65537+65537))
   case first =>
    have hpp:=HPN.out.2.1
    cases hfl:a.goal
    ·rw [hfl] at hpp
     go_wp2_with fail
     go_meet
     exact ⟨_,_,_,rfl,HE.out.skip hpp _⟩
    ·rw [hfl] at hpp
     obtain ⟨p0,p1,p2,p3,p4,p5,p6,p7,p8⟩:=op_at HE.out.2.2.1
     rw [HST.out.2.2.1 hfl] at p2
     clear p0 p1 p3 p4 p5 p6 p7 p8
     obtain ⟨cpc,wv,hconv,hcpc,hkc,hBc⟩:=conv_name o.goal wc
     have HE2:=Lib.hid (HE.out.new hkc)
     have HC:=Lib.hid (And.intro hcpc hBc)
     clear hcpc hkc hBc
     go_wp2_with fail
     refine (bytes4_any _ _ A _ n c o.goal.length cpc bs1 o.goal wv HE2.out.2.2.2.2.2 HC.out.2 (by have:=HE.out.2.2.2.2.1;omega) (by have:=HPP.out.2.1;rw [HST.out.2.2.1 hfl] at this;omega) HC.out.1).mono ?_
     rintro e w' hr
     rw [show lenBytes o.goal=q1 from by rw [hpp,if_pos trivial]] at hr
     obtain ⟨A2,n2,c2,rfl,hA⟩:=HE2.out.step hr HPL.out.2.1
     have HF2:=Lib.hid hA
     clear hA hr
     go_wp2_with fail
     go_meet
     exact ⟨_,_,_,rfl,HF2.out⟩
   case rest =>
    obtain ⟨A,n,c,rfl,hA⟩:=hcut
    clear HE o0
    generalize hb2:bs1++q1=bs2 at *
    have HB2:=Lib.hid hb2
    have HE:=Lib.hid hA
    clear hA hb2
    have o0:=(op_at HE.out.2.1).1
    go_wp2_with fail
    refine (HF.out _).mono ?_
    rintro e w' ⟨rfl,rfl⟩
    go_upto_if 75 with fail
    go_cut [5] from 75 to 79 (fun s5 wx=>∃ A n c,s5=.slice A n c∧EncAt w wx g1 g4 (opCells o E cd) (opCells so E2 cd2) A n c (bs2++q2) (0+1+65537+65537+2))
    case first =>
     have hpp:=HPN.out.2.2.1
     cases hfl:a.fd
     ·rw [hfl] at hpp
      go_wp2_with fail
      go_meet
      exact ⟨_,_,_,rfl,HE.out.skip hpp _⟩
     ·rw [hfl] at hpp
      obtain ⟨p0,p1,p2,p3,p4,p5,p6,p7,p8⟩:=op_at HE.out.2.2.1
      rw [HST.out.2.2.2.1 hfl] at p3
      clear p0 p1 p2 p4 p5 p6 p7 p8
      go_wp2_with fail
      refine (short4_any _ A n c bs2 _ wc HE.out.2.2.2.2.2 (by have:=HE.out.2.2.2.2.1;omega)).mono ?_
      rintro e w' hr
      rw [show beI 2 o.fd=q2 from by rw [hpp,if_pos trivial]] at hr
      obtain ⟨A2,n2,c2,rfl,hA⟩:=HE.out.step hr HPL.out.2.2.1
      have HF2:=Lib.hid hA
      clear hA hr
      go_wp2_with fail
      go_meet
      exact ⟨_,_,_,rfl,HF2.out⟩
    case rest =>
     obtain ⟨A,n,c,rfl,hA⟩:=hcut
     clear HE o0
     generalize hb3:bs2++q2=bs3 at *
     have HB3:=Lib.hid hb3
     have HE:=Lib.hid hA
     clear hA hb3
     have o0:=(op_at HE.out.2.1).1
     go_upto_if 82 with fail
     go_cut [5] from 82 to 89 (fun s5 wx=>∃ A n c,s5=.slice A n c∧EncAt w wx g1 g4 (opCells o E cd) (opCells so E2 cd2) A n c (bs3++q3) (0+1+65537+65537+2+4))
     case first =>
      have hpp:=HPN.out.2.2.2.1
      cases hfl:a.part
      ·rw [hfl] at hpp
       have h4:=of_decide_eq_false (HQ.out.trans hfl)
       go_wp2_with fail
       go_meet
       exact ⟨_,_,_,rfl,HE.out.skip hpp _⟩
      ·rw [hfl] at hpp
       have h4:=of_decide_eq_true (HQ.out.trans hfl)
       go_upto_region 16 with fail
       clear h4 o0
       obtain ⟨p0,p1,p2,p3,p4,p5,p6,p7,p8⟩:=op_at HE.out.2.2.1
       rw [(HST.out.2.2.2.2.1 hfl).1] at p4
       rw [(HST.out.2.2.2.2.1 hfl).2] at p5
       clear p0 p1 p2 p3 p6 p7 p8
       have HE2:=Lib.hid (HE.out.new (New.refl wc).drew)
       have r4:∀ W,New wc W→W.cell? ⟨g4,4,none⟩=some (.int .i64 o.at_):=fun W k=>k.cell_some p4 trivial
       have r5:∀ W,New wc W→W.cell? ⟨g4,5,none⟩=some (.int .i64 o.n):=fun W k=>k.cell_some p5 trivial
       clear p4 p5
       refine hold_begin (by kernel_rfl) ?_
       have n0:New wc wc.drew:=(New.refl wc).drew
       replace r4:=fun W (hW:New wc.drew W)=>r4 W (Keep.new n0 hW)
       replace r5:=fun W (hW:New wc.drew W)=>r5 W (Keep.new n0 hW)
       refine take1 0 ?_
       refine take1 1 ?_
       refine take1 2 ?_
       refine take1 4 ?_
       refine take1 5 ?_
       refine hold_step (i:=3) (by kernel_rfl) rfl rfl (fun K hK=>?_)
       go_simp
       refine (short4_any _ A n c bs3 _ _ HE2.out.2.2.2.2.2 (by have:=HE.out.2.2.2.2.1;omega)).mono ?_
       rintro e w6 h6;obtain ⟨A6,n6,c6,rfl,hA6⟩:=HE2.out.step h6 (j:=2) (by rw [beI_length];exact Nat.le_refl _);have k6:=h6.2;have HE6:=Lib.hid hA6;clear hA6 h6
       go_wp2_with fail
       refine hK.out _ _ k6 ?_
       clear hK K
       try simp only [Act.put,ly1,ly2,ly3,ly4,ly5,ly6]
       replace n0:=Keep.new n0 k6
       replace r4:=fun W (hW:New w6 W)=>r4 W (Keep.new k6 hW)
       replace r5:=fun W (hW:New w6 W)=>r5 W (Keep.new k6 hW)
       refine hold_step (i:=6) (by kernel_rfl) rfl rfl (fun K hK=>?_)
       go_simp
       refine (short4_any _ A6 n6 c6 _ _ _ HE6.out.2.2.2.2.2 (by have:=HE6.out.2.2.2.2.1;omega)).mono ?_
       rintro e w7 h7;obtain ⟨A7,n7,c7,rfl,hA7⟩:=HE6.out.step h7 (j:=2) (by rw [beI_length];exact Nat.le_refl _);have k7:=h7.2;have HE7:=Lib.hid hA7;clear hA7 h7
       go_wp2_with fail
       refine hK.out _ _ k7 ?_
       clear hK K
       try simp only [Act.put,ly1,ly2,ly3,ly4,ly5,ly6]
       replace n0:=Keep.new n0 k7
       replace r4:=fun W (hW:New w7 W)=>r4 W (Keep.new k7 hW)
       replace r5:=fun W (hW:New w7 W)=>r5 W (Keep.new k7 hW)
       refine take1 7 ?_
       refine wpAnyH_done (by kernel_rfl) ?_ _
       clear r4 r5 n0
       go_wp2_with fail
       go_meet
       exact ⟨_,_,_,rfl,by have h:=HE7.out;rw [List.append_assoc] at h;rw [hpp,if_pos trivial];exact h⟩
     case rest =>
      obtain ⟨A,n,c,rfl,hA⟩:=hcut
      clear HE o0
      generalize hb4:bs3++q3=bs4 at *
      have HB4:=Lib.hid hb4
      have HE:=Lib.hid hA
      clear hA hb4
      have o0:=(op_at HE.out.2.1).1
      go_wp2_with fail
      refine (HT.out _).mono ?_
      rintro e w' ⟨rfl,rfl⟩
      go_upto_if 92 with fail
      go_cut [5] from 92 to 96 (fun s5 wx=>∃ A n c,s5=.slice A n c∧EncAt w wx g1 g4 (opCells o E cd) (opCells so E2 cd2) A n c (bs4++q4) (0+1+65537+65537+2+4+8))
      case first =>
       have hpp:=HPN.out.2.2.2.2.1
       cases hfl:a.till
       ·rw [hfl] at hpp
        go_wp2_with fail
        go_meet
        exact ⟨_,_,_,rfl,HE.out.skip hpp _⟩
       ·rw [hfl] at hpp
        obtain ⟨p0,p1,p2,p3,p4,p5,p6,p7,p8⟩:=op_at HE.out.2.2.1
        rw [HST.out.2.2.2.2.2.1 hfl] at p6
        clear p0 p1 p2 p3 p4 p5 p7 p8
        go_wp2_with fail
        refine (long4_any _ A n c bs4 _ wc HE.out.2.2.2.2.2 (by have:=HE.out.2.2.2.2.1;omega) HTL.out.1 HTL.out.2).mono ?_
        rintro e w' hr
        rw [show beI 8 o.till=q4 from by rw [hpp,if_pos trivial]] at hr
        obtain ⟨A2,n2,c2,rfl,hA⟩:=HE.out.step hr HPL.out.2.2.2.2.1
        have HF2:=Lib.hid hA
        clear hA hr
        go_wp2_with fail
        go_meet
        exact ⟨_,_,_,rfl,HF2.out⟩
      case rest =>
       obtain ⟨A,n,c,rfl,hA⟩:=hcut
       clear HE o0
       generalize hb5:bs4++q4=bs5 at *
       have HB5:=Lib.hid hb5
       have HE:=Lib.hid hA
       clear hA hb5
       have o0:=(op_at HE.out.2.1).1
       go_wp2_with fail
       refine (HS.out _).mono ?_
       rintro e w' ⟨rfl,rfl⟩
       go_upto_if 99 with fail
       go_cut [5] from 99 to 103 (fun s5 wx=>∃ A n c,s5=.slice A n c∧EncAt w wx g1 g4 (opCells o E cd) (opCells so E2 cd2) A n c (bs5++q5) (0+1+65537+65537+2+4+8+2))
       case first =>
        have hpp:=HPN.out.2.2.2.2.2.1
        cases hfl:a.snap
        ·rw [hfl] at hpp
         go_wp2_with fail
         go_meet
         exact ⟨_,_,_,rfl,HE.out.skip hpp _⟩
        ·rw [hfl] at hpp
         obtain ⟨p0,p1,p2,p3,p4,p5,p6,p7,p8⟩:=op_at HE.out.2.2.1
         rw [HST.out.2.2.2.2.2.2.1 hfl] at p7
         clear p0 p1 p2 p3 p4 p5 p6 p8
         go_wp2_with fail
         refine (short4_any _ A n c bs5 _ wc HE.out.2.2.2.2.2 (by have:=HE.out.2.2.2.2.1;omega)).mono ?_
         rintro e w' hr
         rw [show beI 2 o.snap=q5 from by rw [hpp,if_pos trivial]] at hr
         obtain ⟨A2,n2,c2,rfl,hA⟩:=HE.out.step hr HPL.out.2.2.2.2.2.1
         have HF2:=Lib.hid hA
         clear hA hr
         go_wp2_with fail
         go_meet
         exact ⟨_,_,_,rfl,HF2.out⟩
       case rest =>
        obtain ⟨A,n,c,rfl,hA⟩:=hcut
        clear HE o0
        generalize hb6:bs5++q5=bs6 at *
        have HB6:=Lib.hid hb6
        have HE:=Lib.hid hA
        clear hA hb6
        have o0:=(op_at HE.out.2.1).1
        go_upto_if 106 with fail
        go_cut [5] from 106 to 110 (fun s5 wx=>∃ A n c,s5=.slice A n c∧EncAt w wx g1 g4 (opCells o E cd) (opCells so E2 cd2) A n c (bs6++q6) (0+1+65537+65537+2+4+8+2+65537))
        case first =>
         have hpp:=HPN.out.2.2.2.2.2.2
         cases hfl:a.data
         ·rw [hfl] at hpp
          have h4:=of_decide_eq_false (HD.out.trans hfl)
          go_wp2_with fail
          go_meet
          exact ⟨_,_,_,rfl,HE.out.skip hpp _⟩
         ·rw [hfl] at hpp
          have h4:=of_decide_eq_true (HD.out.trans hfl)
          go_upto_region 22 with fail
          clear h4 o0
          obtain ⟨p0,p1,p2,p3,p4,p5,p6,p7,p8⟩:=op_at HE.out.2.2.1
          rw [HST.out.2.2.2.2.2.2.2.1 hfl] at p8
          clear p0 p1 p2 p3 p4 p5 p6 p7
          have HDB2:Hid (so.data.length≤cd2∧Bs wc D E2 so.data.length so.data):=Lib.hid ⟨HDB.out.1,Row.new HDB.out.2 HE.out.1⟩
          rw [HST.out.2.2.2.2.2.2.2.1 hfl] at HDB2
          go_wp2_with fail
          refine (bytes4_any _ _ A _ n c o.data.length cd2 bs6 o.data wc HE.out.2.2.2.2.2 HDB2.out.2 (by have:=HE.out.2.2.2.2.1;omega) (by have:=HST.out.2.2.2.2.2.2.2.2;rw [HST.out.2.2.2.2.2.2.2.1 hfl] at this;omega) HDB2.out.1).mono ?_
          rintro e w' hr
          rw [show lenBytes o.data=q6 from by rw [hpp,if_pos trivial]] at hr
          obtain ⟨A2,n2,c2,rfl,hA⟩:=HE.out.step hr HPL.out.2.2.2.2.2.2
          have HF2:=Lib.hid hA
          clear hA hr
          go_wp2_with fail
          go_meet
          exact ⟨_,_,_,rfl,HF2.out⟩
        case rest =>
         obtain ⟨A,n,c,rfl,hA⟩:=hcut
         clear HE o0
         have HE:=Lib.hid hA
         clear hA
         go_wp2_with fail
         go_ret2
         exact HOK.out HZ.out _ _ _ _ HE.out.1 HE.out.2.2.2.1 (by rw [HOB.out];have h:=HE.out.2.2.2.2.2;rw [HG1.out] at h;exact h)
theorem oenc_full (o:OpP) (E:Option Addr) (cd:Nat){D:Nat→Prop}(w:World) (hE:Bs w D E o.data.length o.data) (hcd:o.data.length≤cd) (hp:o.path.length≤1099511627776) (hg:o.goal.length≤1099511627776) (hd:o.data.length≤1099511627776) (ht0:0≤o.till) (ht1:o.till≤18446744073709551615):
  Calls Tryz.prog 82 #[opVal o E cd] w fun e w'=>EncRet o w e w':=by
 by_cases hfn:opFine o=true
 ·have hfn2:=hfn
  unfold opFine at hfn
  cases hk:asksOf o.kind with
  | none=>rw [hk] at hfn;cases hfn
  | some a =>
   rw [hk] at hfn
   refine (oenc_any o E cd hk (of_decide_eq_true hfn) w hE hcd hp hg hd ht0 ht1).mono fun e w' h=>?_
   obtain ⟨⟨A,c,rfl,ho⟩,k⟩:=h
   exact ⟨k,Or.inl ⟨hfn2,A,_,c,rfl,own_cap ho,by unfold opEnc;rw [hk];exact Row.of_own ho⟩⟩
 ·have k1:=(New.refl w).alloc (.cells (opCells o E cd) 46)
  have x1:=heap_alloc_new w (.cells (opCells o E cd) 46)
  have HA:=Lib.hid (fun W=>asks_any o.kind W)
  obtain ⟨w1,hw1⟩:∃ w1,w1=w.alloc (.cells (opCells o E cd) 46):=⟨_,rfl⟩
  rw [← hw1] at k1 x1
  have o0:=(op_at x1).1
  have HX1:=Lib.hid (And.intro x1 k1)
  have HB:Hid (∀ e w',New w w'→(∃ z:Int,z≠0∧e=.returned (.tuple #[.slice none 0 0,.int .i64 z]))→EncRet o w e w'):=Lib.hid fun e w' hn h=>⟨hn,Or.inr ⟨by simpa using hfn,h⟩⟩
  have HW1:=Lib.hid hw1
  unfold askVal at HA
  cases hk:asksOf o.kind with
  | none =>
   rw [hk] at HA
   dsimp only [Option.getD,Option.isSome,askNo] at HA
   unfold opVal opCells at *
   clear k1 x1 hk hw1 hfn hE hcd hp hg hd ht0 ht1
   go_enter Tryz.func82,Tryz.ntmps82
   go_upto_region 1 with fail
   rw [← HW1.out]
   go_wp2_with fail
   refine (HA.out w1).mono ?_
   rintro e w2 ⟨rfl,k2⟩
   have kk:=(HX1.out.2.new k2).alloc (.cells #[.bool false,.bool false,.bool false,.bool false,.bool false,.bool false,.bool false] 153)
   have HK:=Lib.hid kk
   clear kk k2
   go_wp2_with fail
   go_ret2
   exact HB.out _ _ HK.out ⟨30,by decide,rfl⟩
  | some a =>
   have hr0:rightOf o a≠0:=fun h=>hfn (by unfold opFine;rw [hk];exact decide_eq_true h)
   have HRT:=Lib.hid (fun W=>oright_any o E cd hk W hp hg hd)
   rw [hk] at HA
   dsimp only [Option.getD,Option.isSome] at HA
   generalize rightOf o a=z at *
   unfold opVal opCells askVal at *
   clear k1 x1 hk hw1 hfn hE hcd hp hg hd ht0 ht1
   go_enter Tryz.func82,Tryz.ntmps82
   go_upto_region 1 with fail
   rw [← HW1.out]
   generalize hg1:w.heap.size=g1 at *
   go_wp2_with fail
   refine (HA.out w1).mono ?_
   rintro e w2 ⟨rfl,k2⟩
   have kk:=k2.alloc (.cells #[.bool a.path,.bool a.goal,.bool a.fd,.bool a.part,.bool a.till,.bool a.snap,.bool a.data] 153)
   have x2:=heap_alloc_new w2 (.cells #[.bool a.path,.bool a.goal,.bool a.fd,.bool a.part,.bool a.till,.bool a.snap,.bool a.data] 153)
   obtain ⟨w3,hw3⟩:∃ w3,w3=w2.alloc (.cells #[.bool a.path,.bool a.goal,.bool a.fd,.bool a.part,.bool a.till,.bool a.snap,.bool a.data] 153):=⟨_,rfl⟩
   rw [← hw3] at kk x2
   have HX3:=Lib.hid (And.intro (kk.blockAt HX1.out.1 trivial) (And.intro x2 (HX1.out.2.new kk)))
   have HW3:=Lib.hid hw3
   clear kk x2 hw3 k2 o0 HA
   go_upto_region 4 with fail
   rw [← HW3.out]
   generalize hg2:w2.heap.size=g2 at *
   go_wp2_with (first|(refine ld_all HX3.out.1 ?_)|(refine ld_all HX3.out.2.1 ?_))
   refine (HRT.out w3).mono ?_
   rintro e w4 ⟨rfl,k4⟩
   have HK:=Lib.hid (HX3.out.2.2.new k4)
   clear k4
   go_wp2_with fail
   go_ret2
   exact HB.out _ _ HK.out ⟨z,hr0,rfl⟩
def rightI (x:WishP):Bool:=if x.kind=1 then opFine x.op else if x.kind=2 then decide (x.keep.length≤255)&&(shortI x.torn&&shortI x.low) else decide (x.kind=3)||decide (x.kind=4)
theorem lshort_any (n:Int) (w:World):Calls Tryz.prog 27 #[.int .i64 n] w fun e w'=>e=.returned (.bool (shortI n))∧w=w':=by
 obtain ⟨v,hv⟩:∃ v,v=shortI n:=⟨_,rfl⟩
 rw [← hv]
 have HV:=Lib.hid hv
 clear hv
 by_cases h0:0≤n <;> by_cases h1:n≤65535
 all_goals
  go_enter Tryz.func27,Tryz.ntmps27
  go_wp2_with fail
  go_ret
  exact ⟨by rw [HV.out];unfold shortI;simp [h0,h1],rfl⟩
theorem wish_data {w:World}{D:Nat→Prop}{x:WishP}{E:Option Addr}{cd:Nat}{K:Option Addr}{ck:Nat}(h:WishIn w D x E cd K ck){w':World}(k:New w w'):Bs w' D E x.op.data.length x.op.data∧x.op.data.length≤cd∧0≤x.op.till∧x.op.till≤18446744073709551615 :=
 ⟨Row.new h.data k,h.dcap.1,h.fine.2.1.2.2.2.2.1.1,h.fine.2.1.2.2.2.2.1.2⟩
theorem wright_any (x:WishP) (E:Option Addr) (cd:Nat) (K:Option Addr) (ck:Nat){D:Nat→Prop}(w:World) (hi:WishIn w D x E cd K ck) (hd:x.op.data.length≤1099511627776):
  Calls Tryz.prog 11 #[.agg (wishArr x E cd K ck)] w fun e w'=>e=.returned (.bool (rightI x))∧New w w':=by
 obtain ⟨w1,hw1⟩:∃ w1,w1=w.alloc (.cells (wishArr x E cd K ck) 49):=⟨_,rfl⟩
 have k1:New w w1:=by rw [hw1];exact (New.refl w).alloc _
 have x1:w1.heap[w.heap.size]?=some (.cells (wishArr x E cd K ck) 49 (0,0)):=by rw [hw1];exact heap_alloc_new w _
 obtain ⟨b1,b2,b3,b4⟩:=wish_data hi k1
 have HE:=Lib.hid (r15enc_any x.op E cd w1 b1 b2 hd b3 b4)
 have HW1:=Lib.hid hw1
 have HK1:=Lib.hid k1
 obtain ⟨r,hr⟩:∃ r,r=rightI x:=⟨_,rfl⟩
 rw [← hr]
 have HR:Hid (r=if x.kind=1 then opFine x.op else if x.kind=2 then decide (x.keep.length≤255)&&(shortI x.torn&&shortI x.low) else decide (x.kind=3)||decide (x.kind=4)):=Lib.hid hr
 have c0:=cellOf x1 (k:=0) (v:=.int .i64 x.kind) rfl
 have c10:=cellOf x1 (k:=10) (v:=.slice K x.keep.length ck) rfl
 have c11:=cellOf x1 (k:=11) (v:=.int .i64 x.torn) rfl
 have c12:=cellOf x1 (k:=12) (v:=.int .i64 x.low) rfl
 have hkc:=hi.kcap
 obtain ⟨kind,op,keep,torn,low⟩:=x
 dsimp only at *
 unfold wishArr opVal at *
 dsimp only at *
 clear hi hd k1 hw1 b1 b2 b3 b4 hr
 go_enter Tryz.func11,Tryz.ntmps11
 go_upto_region 1 with fail
 rw [← HW1.out]
 generalize w.heap.size=g1 at *
 by_cases h1:kind=1
 ·subst h1
  have hR:r=opFine op:=HR.out
  have HR2:=Lib.hid hR
  clear hR HR c10 c11 c12
  go_upto_region 3 with fail
  go_wp2_with (refine ld_mid x1 (sub:=opCells op E cd) rfl ?_)
  refine HE.out.mono ?_
  rintro e w2 ⟨k2,⟨hf,A,n,c,rfl,hc,hB⟩|⟨hf,z,hz,rfl⟩⟩
  ·have HF:=Lib.hid (And.intro hf k2)
   clear hf hc hB k2 HE
   go_wp2_with fail
   go_ret
   exact ⟨by rw [HR2.out,HF.out.1];rfl,HK1.out.new HF.out.2⟩
  ·have HF:=Lib.hid (And.intro hf k2)
   clear hf k2 HE
   go_wp2_with fail
   go_ret
   exact ⟨by rw [HR2.out,HF.out.1];exact congrArg (fun b=>Ending.returned (.bool b)) (show (z==0)=false by simpa using hz),HK1.out.new HF.out.2⟩
 ·have HR2:Hid (r=if kind=2 then decide (keep.length≤255)&&(shortI torn&&shortI low) else decide (kind=3)||decide (kind=4)):=Lib.hid (by rw [HR.out,if_neg h1])
  clear HR HE
  by_cases h2:kind=2
  ·subst h2
   have hR:r=(decide (keep.length≤255)&&(shortI torn&&shortI low)):=HR2.out
   have HR3:=Lib.hid hR
   clear hR HR2
   by_cases h3:keep.length≤255
   ·have h4:(keep.length:Int)≤255:=by omega
    cases ha:shortI torn
    ·go_wp2_with fail
     refine (lshort_any _ _).mono ?_
     rintro e w' ⟨rfl,rfl⟩
     go_wp2_with fail
     go_ret
     exact ⟨by rw [HR3.out,ha];simp,HK1.out⟩
    ·go_wp2_with fail
     refine (lshort_any _ _).mono ?_
     rintro e w' ⟨rfl,rfl⟩
     go_wp2_with fail
     refine (lshort_any _ _).mono ?_
     rintro e w' ⟨rfl,rfl⟩
     go_wp2_with fail
     go_ret
     exact ⟨by rw [HR3.out,ha];simp [h3],HK1.out⟩
   ·have h4:¬ (keep.length:Int)≤255:=by omega
    go_wp2_with fail
    go_ret
    exact ⟨by rw [HR3.out];simp [h3],HK1.out⟩
  ·have HR3:Hid (r=(decide (kind=3)||decide (kind=4))):=Lib.hid (by rw [HR2.out,if_neg h2])
   clear HR2 c10 c11 c12
   by_cases h3:kind=3
   ·go_wp2_with fail
    go_ret
    exact ⟨by rw [HR3.out];simp [h3],HK1.out⟩
   ·by_cases h4:kind=4
    all_goals
     go_wp2_with fail
     go_ret
     exact ⟨by rw [HR3.out];simp [h3,h4],HK1.out⟩
def FineRet (x:WishP) (w:World) (e:Ending) (w':World):Prop :=
 New w w'∧((rightI x=true∧∃ A n c,e=.returned (.tuple #[.slice A n c,.bool true])∧n≤c∧Bs w' (fun b=>w.heap.size≤b) A n (if x.kind=1 then opEnc x.op else []))∨(rightI x=false∧∃ A n c,e=.returned (.tuple #[.slice A n c,.bool false])))
theorem wfine_any (x:WishP) (E:Option Addr) (cd:Nat) (K:Option Addr) (ck:Nat){D:Nat→Prop}(w:World) (hi:WishIn w D x E cd K ck) (hd:x.op.data.length≤1099511627776) (hp:x.op.path.length≤1099511627776) (hg:x.op.goal.length≤1099511627776):
  Calls Tryz.prog 47 #[.agg (wishArr x E cd K ck)] w fun e w'=>FineRet x w e w':=by
 obtain ⟨w1,hw1⟩:∃ w1,w1=w.alloc (.cells (wishArr x E cd K ck) 49):=⟨_,rfl⟩
 have k1:New w w1:=by rw [hw1];exact (New.refl w).alloc _
 have x1:w1.heap[w.heap.size]?=some (.cells (wishArr x E cd K ck) 49 (0,0)):=by rw [hw1];exact heap_alloc_new w _
 obtain ⟨b1,b2,b3,b4⟩:=wish_data hi k1
 have HE:=Lib.hid (oenc_full x.op E cd w1 b1 b2 hp hg hd b3 b4)
 have HW1:=Lib.hid hw1
 have HK1:=Lib.hid k1
 have HOK:Hid (rightI x=true→∀ w' A n c,New w w'→n≤c→Bs w' (fun b=>w.heap.size≤b) A n (if x.kind=1 then opEnc x.op else [])→FineRet x w (.returned (.tuple #[.slice A n c,.bool true])) w'):=Lib.hid fun h w' A n c k hc hb=>⟨k,Or.inl ⟨h,A,n,c,rfl,hc,hb⟩⟩
 have HNO:Hid (rightI x=false→∀ w' A n c,New w w'→FineRet x w (.returned (.tuple #[.slice A n c,.bool false])) w'):=Lib.hid fun h w' A n c k=>⟨k,Or.inr ⟨h,A,n,c,rfl⟩⟩
 have HR:Hid (rightI x=if x.kind=1 then opFine x.op else if x.kind=2 then decide (x.keep.length≤255)&&(shortI x.torn&&shortI x.low) else decide (x.kind=3)||decide (x.kind=4)):=Lib.hid rfl
 have c0:=cellOf x1 (k:=0) (v:=.int .i64 x.kind) rfl
 have y0:∀ m,(w1.drewN m).cell? ⟨w.heap.size,0,none⟩=some (.int .i64 x.kind):=fun m=>cellOf (w:=w1.drewN m) x1 (k:=0) rfl
 have y10:∀ m,(w1.drewN m).cell? ⟨w.heap.size,10,none⟩=some (.slice K x.keep.length ck):=fun m=>cellOf (w:=w1.drewN m) x1 (k:=10) rfl
 have y11:∀ m,(w1.drewN m).cell? ⟨w.heap.size,11,none⟩=some (.int .i64 x.torn):=fun m=>cellOf (w:=w1.drewN m) x1 (k:=11) rfl
 have y12:∀ m,(w1.drewN m).cell? ⟨w.heap.size,12,none⟩=some (.int .i64 x.low):=fun m=>cellOf (w:=w1.drewN m) x1 (k:=12) rfl
 have hkc:=hi.kcap
 generalize rightI x=r at *
 obtain ⟨kind,op,keep,torn,low⟩:=x
 dsimp only at *
 unfold wishArr opVal at *
 dsimp only at *
 clear hi hd hp hg k1 hw1 b1 b2 b3 b4
 go_enter Tryz.func47,Tryz.ntmps47
 go_upto_region 1 with fail
 rw [← HW1.out]
 generalize hg1:w.heap.size=g1 at *
 have HG1:=Lib.hid hg1
 clear hg1
 by_cases h1:kind=1
 ·subst h1
  have hR:r=opFine op:=HR.out
  have HR2:=Lib.hid hR
  clear hR HR y10 y11 y12 y0
  go_upto_region 3 with fail
  go_wp2_with (refine ld_mid x1 (sub:=opCells op E cd) rfl ?_)
  refine HE.out.mono ?_
  rintro e w2 ⟨k2,⟨hf,A,n,c,rfl,hc,hB⟩|⟨hf,z,hz,rfl⟩⟩
  ·have HF:=Lib.hid (And.intro hf (And.intro k2 (And.intro hc hB)))
   clear hf hc hB k2 HE
   go_wp2_with fail
   go_ret2
   exact HOK.out (by rw [HR2.out,HF.out.1]) _ _ _ _ (HK1.out.new HF.out.2.1) HF.out.2.2.1 (by rw [if_pos trivial];exact HF.out.2.2.2.imp fun b _ hb=>by have:=HK1.out.size;have:=HG1.out;omega)
  ·have HF:=Lib.hid (And.intro hf k2)
   clear hf k2 HE
   have hzf:(z==0)=false:=by simpa using hz
   go_wp2_with fail
   go_ret2
   exact HNO.out (by rw [HR2.out,HF.out.1]) _ _ _ _ (HK1.out.new HF.out.2)
 ·have HR2:Hid (r=if kind=2 then decide (keep.length≤255)&&(shortI torn&&shortI low) else decide (kind=3)||decide (kind=4)):=Lib.hid (by rw [HR.out,if_neg h1])
  have HN1:Hid ((if kind=1 then opEnc op else [])=[]):=Lib.hid (if_neg h1)
  clear HR HE
  by_cases h2:kind=2
  ·subst h2
   have hR:r=(decide (keep.length≤255)&&(shortI torn&&shortI low)):=HR2.out
   have HR3:=Lib.hid hR
   have HS:Hid (shortI torn=(decide (0≤torn)&&decide (torn≤65535))∧shortI low=(decide (0≤low)&&decide (low≤65535))):=Lib.hid ⟨rfl,rfl⟩
   clear hR HR2
   go_upto_region 6 with fail
   clear c0 y0
   by_cases p0:keep.length≤255
   rotate_left
   ·have d0:decide ((keep.length:Int)≤255)=false:=decide_eq_false (by omega)
    have e0:decide (keep.length≤255)=false:=decide_eq_false (by omega)
    go_quiet (fail)
    go_wp2_with fail
    go_ret2
    exact HNO.out (by rw [HR3.out,HS.out.1,HS.out.2,e0];rfl) _ _ _ _ (HK1.out.drewN _)
   have d0:decide ((keep.length:Int)≤255)=true:=decide_eq_true (by omega)
   have e0:decide (keep.length≤255)=true:=decide_eq_true (by omega)
   by_cases p1:0≤torn
   rotate_left
   ·have d1:decide (0≤torn)=false:=decide_eq_false (by omega)
    go_quiet (fail)
    go_wp2_with fail
    go_ret2
    exact HNO.out (by rw [HR3.out,HS.out.1,HS.out.2,e0,d1];rfl) _ _ _ _ (HK1.out.drewN _)
   have d1:decide (0≤torn)=true:=decide_eq_true (by omega)
   by_cases p2:torn≤65535
   rotate_left
   ·have d2:decide (torn≤65535)=false:=decide_eq_false (by omega)
    go_quiet (fail)
    go_wp2_with fail
    go_ret2
    exact HNO.out (by rw [HR3.out,HS.out.1,HS.out.2,e0,d1,d2];rfl) _ _ _ _ (HK1.out.drewN _)
   have d2:decide (torn≤65535)=true:=decide_eq_true (by omega)
   by_cases p3:0≤low
   rotate_left
   ·have d3:decide (0≤low)=false:=decide_eq_false (by omega)
    go_quiet (fail)
    go_wp2_with fail
    go_ret2
    exact HNO.out (by rw [HR3.out,HS.out.1,HS.out.2,e0,d1,d2,d3];rfl) _ _ _ _ (HK1.out.drewN _)
   have d3:decide (0≤low)=true:=decide_eq_true (by omega)
   by_cases p4:low≤65535
   rotate_left
   ·have d4:decide (low≤65535)=false:=decide_eq_false (by omega)
    go_quiet (fail)
    go_wp2_with fail
    go_ret2
    exact HNO.out (by rw [HR3.out,HS.out.1,HS.out.2,e0,d1,d2,d3,d4];rfl) _ _ _ _ (HK1.out.drewN _)
   have d4:decide (low≤65535)=true:=decide_eq_true (by omega)
   go_quiet (fail)
   go_wp2_with fail
   go_ret2
   exact HOK.out (by rw [HR3.out,HS.out.1,HS.out.2,e0,d1,d2,d3,d4];rfl) _ _ _ _ (HK1.out.drewN _) (Nat.le_refl _) (by rw [HN1.out];exact Row.nil _ _ _ _)
  ·have HR3:Hid (r=(decide (kind=3)||decide (kind=4))):=Lib.hid (by rw [HR2.out,if_neg h2])
   go_upto_region 7 with fail
   clear HR2 y10 y11 y12 c0
   by_cases h3:kind=3
   ·subst h3
    go_quiet (fail)
    go_wp2_with fail
    go_ret2
    exact HOK.out (by rw [HR3.out];rfl) _ _ _ _ (HK1.out.drewN _) (Nat.le_refl _) (by rw [HN1.out];exact Row.nil _ _ _ _)
   ·have d3:(kind==3)=false:=by simpa using h3
    have e3:decide (kind=3)=false:=decide_eq_false h3
    by_cases h4:kind=4
    ·subst h4
     go_quiet (fail)
     go_wp2_with fail
     go_ret2
     exact HOK.out (by rw [HR3.out];rfl) _ _ _ _ (HK1.out.drewN _) (Nat.le_refl _) (by rw [HN1.out];exact Row.nil _ _ _ _)
    ·have d4:(kind==4)=false:=by simpa using h4
     have e4:decide (kind=4)=false:=decide_eq_false h4
     go_quiet (fail)
     go_wp2_with fail
     go_ret2
     exact HNO.out (by rw [HR3.out,e3,e4];rfl) _ _ _ _ (HK1.out.drewN _)
structure EncIn (w wx:World) (base p:Nat) (S:Nat→Prop) (bs:List UInt8):Prop where
 wr:Wr wx base p bs
 new:New w wx
 far:∀ b,S b→b≠p∧some b≠rowBlk wx p∧b<wx.heap.size
theorem EncIn.step {w wx w':World}{base p:Nat}{S:Nat→Prop}{bs bs':List UInt8}(h:EncIn w wx base p S bs) (hb:w.heap.size≤base) (hW:Wr w' base p bs') (hR:Writ wx w' p):EncIn w w' base p S bs'∧Keep S wx w' :=
 ⟨⟨hW,h.new.trans2 (h.wr.low hR) fun _ hlt _=>Nat.lt_of_lt_of_le hlt hb,fun b hS=>⟨(h.far b hS).1,hR.row b (h.far b hS).2.2 (h.far b hS).2.1,Nat.lt_of_lt_of_le (h.far b hS).2.2 hR.keep.size⟩⟩,
  hR.keep.imp fun b _ hS=>⟨(h.far b hS).1,(h.far b hS).2.1⟩⟩
theorem EncIn.fresh {w wx w':World}{base p:Nat}{S:Nat→Prop}{bs:List UInt8}(h:EncIn w wx base p S bs) (k:New wx w'):EncIn w w' base p (fun b=>wx.heap.size≤b∧b<w'.heap.size) bs :=
 ⟨h.wr.keep k fun _ _=>trivial,h.new.new k,fun b hS=>⟨fun e=>by have:=h.wr.lt;omega,(Writ.of_new k h.wr.lt).row b |> fun _=>fun e=>by
   have h2:rowBlk w' p=rowBlk wx p:=by unfold rowBlk;rw [k.cell (p:=⟨p,0,none⟩) h.wr.lt trivial]
   rw [h2] at e
   have:=(h.wr.rowLt b e.symm).2
   omega,hS.2⟩⟩
theorem EncIn.none {w wx:World}{base p:Nat}{S:Nat→Prop}{bs:List UInt8}(h:EncIn w wx base p S bs):EncIn w wx base p (fun _=>False) bs:=⟨h.wr,h.new,fun _ h=>h.elim⟩
theorem wflagW_any (base p:Nat) (bs:List UInt8) (b:Bool) (w:World) (hW:Wr w base p bs) (hn:bs.length≤1099511627776):
  Calls Tryz.prog 50 #[.pointer (some ⟨p,0,none⟩),.bool b] w fun e w'=>e=.returned (.tuple #[])∧Wr w' base p (bs++flagByte b)∧Writ w w' p:=by
 cases b
 ·have HB:=Lib.hid (wbyteW_any base p bs 0 w hW hn)
  clear hW
  go_enter Tryz.func50,Tryz.ntmps50
  go_wp2_with fail
  refine HB.out.mono ?_
  rintro e w' ⟨rfl,h1,h2⟩
  go_wp2_with fail
  go_end0
  exact ⟨rfl,h1,h2⟩
 ·have HB:=Lib.hid (wbyteW_any base p bs 1 w hW hn)
  clear hW
  go_enter Tryz.func50,Tryz.ntmps50
  go_wp2_with fail
  refine HB.out.mono ?_
  rintro e w' ⟨rfl,h1,h2⟩
  go_wp2_with fail
  first|go_end0|refine bodyPost_ret (results_none rfl _ _ _) rfl ?_
  exact ⟨rfl,h1,h2⟩
theorem opEnc_le (o:OpP):(opEnc o).length≤300000:=by
 unfold opEnc
 split
 ·rename_i a _
  unfold opBytes
  simp only [List.length_append,beI_length]
  have h0:=opPart0_le o a
  have h1:=opPart1_le o a
  have h2:=opPart2_le o a
  have h3:=opPart3_le o a
  have h4:=opPart4_le o a
  have h5:=opPart5_le o a
  have h6:=opPart6_le o a
  omega
 ·exact Nat.zero_le _
def WishP.Small (x:WishP):Prop:=x.keep.length≤40∧x.op.path.length≤1000∧x.op.goal.length≤1000∧x.op.data.length≤1000
def flagsOf (l:List Bool):List UInt8:=l.flatMap flagByte
theorem flagsOf_length (l:List Bool):(flagsOf l).length=l.length:=by
 induction l with
 | nil=>rfl
 | cons b l ih=>unfold flagsOf at *;rw [List.flatMap_cons,List.length_append,ih,List.length_cons];cases b <;> simp [flagByte,beI_length,Nat.add_comm]
theorem flagsOf_succ {l:List Bool}{j:Nat}{v:Bool}(h:l[j]?=some v):flagsOf (l.take (j+1))=flagsOf (l.take j)++flagByte v:=by
 unfold flagsOf
 rw [List.take_add_one,h,List.flatMap_append]
 simp
def wishTail (x:WishP):List UInt8:=if x.kind=1 then lenBytes (opEnc x.op) else if x.kind=2 then ((beI 1 x.keep.length++flagsOf x.keep)++beI 2 x.torn)++beI 2 x.low else []
def wishBytes (x:WishP):List UInt8:=beI 1 x.kind++wishTail x
def wishesBytes (l:List WishP):List UInt8:=l.flatMap wishBytes
theorem wishesBytes_succ {l:List WishP}{i:Nat}{x:WishP}(h:l[i]?=some x):wishesBytes (l.take (i+1))=(wishesBytes (l.take i)++beI 1 x.kind)++wishTail x:=by
 unfold wishesBytes
 rw [List.take_add_one,h,List.flatMap_append,List.append_assoc]
 simp [wishBytes]
theorem wishTail_le {x:WishP}(h:x.Small):(wishTail x).length≤65537:=by
 unfold wishTail
 split
 ·exact lenBytes_le _
 ·split
  ·rw [List.length_append,List.length_append,List.length_append,beI_length,beI_length,beI_length,flagsOf_length]
   have:=h.1
   omega
  ·exact Nat.zero_le _
theorem wishesBytes_le:∀ {l:List WishP},(∀ x∈l,x.Small)→(wishesBytes l).length≤65538*l.length
 | [],_=>Nat.zero_le _
 | x::l,h=>by
  have h1:=wishesBytes_le (l:=l) fun y hy=>h y (List.mem_cons_of_mem _ hy)
  have h2:=wishTail_le (h x (List.mem_cons_self ..))
  unfold wishesBytes at *
  rw [List.flatMap_cons,List.length_append,List.length_cons]
  unfold wishBytes at *
  rw [List.length_append,beI_length]
  omega
theorem all_false {l:List WishP}{i:Nat}{x:WishP}(hx:l[i]?=some x) (hf:rightI x=false):l.all rightI=false:=by
 cases h:l.all rightI
 ·rfl
 ·rw [List.all_eq_true] at h
  have:=h x (List.mem_of_getElem? hx)
  rw [hf] at this
  cases this
def EncsRet (l:List WishP) (w:World) (e:Ending) (w':World):Prop :=
 New w w'∧((l.all rightI=true∧∃ A n c,e=.returned (.tuple #[.slice A n c,.int .i64 0])∧n≤c∧Bs w' (fun b=>w.heap.size≤b) A n (wishesBytes l))∨(l.all rightI=false∧e=.returned (.tuple #[.slice none 0 0,.int .i64 1])))
theorem shenc_any {w:World}{D:Nat→Prop}{A:Option Addr}{n c:Nat}{ls:List WishP}(hl:Sl wishElt w D A n ls) (hn:n≤30) (hs:∀ x∈ls,x.Small):
  Calls Tryz.prog 20 #[.slice A n c] w fun e w'=>EncsRet ls w e w':=by
 have hlen:=hl.len
 have HLE:Hid (∀ i,i≤n→(wishesBytes (ls.take i)).length≤3000000):=Lib.hid fun i hi=>by
  have:=wishesBytes_le (l:=ls.take i) fun x hx=>hs x (List.mem_of_mem_take hx)
  rw [List.length_take] at this
  omega
 have HIN:Hid (∀ i,i<n→∃ b off E cd K ck x,A=some ⟨b,off,none⟩∧ls[i]?=some x∧x.Small∧∀ W,New w W→W.rangeAt b (off+i*13) (wishArr x E cd K ck).toList∧WishIn W D x E cd K ck):=Lib.hid fun i hi=>by
  obtain ⟨b,off,E,cd,K,ck,hA,_,hb,hr,hw⟩:=wish_at hl (k:=i) (by omega)
  exact ⟨b,off,E,cd,K,ck,_,hA,List.getElem?_eq_getElem (by omega),hs _ (List.getElem_mem _),fun W k=>⟨fun j v hj=>k.cell_some (hr j v hj) trivial,hw.keep k fun _ _ _=>trivial⟩⟩
 have HNO:Hid (∀ w' i x,New w w'→ls[i]?=some x→rightI x=false→EncsRet ls w (.returned (.tuple #[.slice none 0 0,.int .i64 1])) w'):=Lib.hid fun w' i x k hx hf=>⟨k,Or.inr ⟨all_false hx hf,rfl⟩⟩
 have HTK:Hid (ls.take n=ls):=Lib.hid (List.take_of_length_le (by omega))
 have HOK:Hid (ls.all rightI=true→∀ w' A n c,New w w'→n≤c→Bs w' (fun b=>w.heap.size≤b) A n (wishesBytes ls)→EncsRet ls w (.returned (.tuple #[.slice A n c,.int .i64 0])) w'):=Lib.hid fun h w' A n c k hc hb=>⟨k,Or.inl ⟨h,A,n,c,rfl,hc,hb⟩⟩
 clear hl hs hlen
 go_enter Tryz.func20,Tryz.ntmps20
 go_wp2_with fail
 refine (newWriter_any w).mono ?_
 rintro e w1 ⟨⟨p,rfl,hW⟩,k1⟩
 have HE:Hid (EncIn w w1 w.heap.size p (fun _=>False) []):=Lib.hid ⟨hW,k1,fun _ h=>h.elim⟩
 clear hW k1
 go_wp2_with fail
 go_loopw [17] (fun s17 wx=>∃ i:Nat,s17=.int .i64 i∧i≤n∧(ls.take i).all rightI=true∧EncIn w wx w.heap.size p (fun _=>False) (wishesBytes (ls.take i))) (fun s _=>n-(intOf s).toNat)
 case atStart=>exact ⟨0,rfl,Nat.zero_le _,rfl,HE.out⟩
 case round =>
  obtain ⟨i,rfl,hi,hall,hE⟩:=hrel
  by_cases hlt:i<n
  ·obtain ⟨b,off,E,cd,K,ck,x,rfl,hx,hsm,hin⟩:=HIN.out i hlt
   obtain ⟨hrg,hwi⟩:=hin wr hE.new
   have hli:(i:Int)<(n:Int):=by omega
   have HRG:Hid (wr.rangeAt b (off+i*13) [.int .i64 x.kind,.int .i64 x.op.kind,.string (strOf x.op.path),.string (strOf x.op.goal),.int .i64 x.op.fd,.int .i64 x.op.at_,.int .i64 x.op.n,.int .u64 x.op.till,.int .i64 x.op.snap,.slice E x.op.data.length cd,.slice K x.keep.length ck,.int .i64 x.torn,.int .i64 x.low]):=Lib.hid hrg
   have HX:=Lib.hid (And.intro hx (And.intro hsm (And.intro hall hin)))
   have HEI:=Lib.hid hE
   have HWI:=Lib.hid hwi
   clear hrg hx hsm hall hin hE hwi
   go_upto_region 7 with (first|(refine wpList_load_mid rfl _ _ rfl b (off+i*13) rfl _ _ HRG.out Tryz.underlying49 rfl (by kernel_rfl) ?_)|(refine st_all (heap_alloc_new wr _) (fun wE hE hKE=>?_)))
   have nE:New wr wE:=((New.refl wr).alloc _).trans2 hKE fun b hb _=>Nat.ne_of_lt hb
   have HF:=Lib.hid (wfine_any x E cd K ck wE (HWI.out.keep nE fun _ _ _=>trivial) (by have:=HX.out.2.1.2.2.2;omega) (by have:=HX.out.2.1.2.1;omega) (by have:=HX.out.2.1.2.2.1;omega))
   unfold wishArr at HF
   have HB:Hid (wE.heap[wr.heap.size]?=some (.cells #[.int .i64 x.kind,.int .i64 x.op.kind,.string (strOf x.op.path),.string (strOf x.op.goal),.int .i64 x.op.fd,.int .i64 x.op.at_,.int .i64 x.op.n,.int .u64 x.op.till,.int .i64 x.op.snap,.slice E x.op.data.length cd,.slice K x.keep.length ck,.int .i64 x.torn,.int .i64 x.low] 49 (0,0))∧New wr wE):=Lib.hid ⟨hE,nE⟩
   have HEX:Hid (∀ W,New wE W→EncIn w W w.heap.size p (fun b=>wr.heap.size≤b∧b<W.heap.size) (wishesBytes (ls.take i))):=Lib.hid fun W k=>HEI.out.fresh (nE.new k)
   have HGE:Hid (∃ g6,g6=wr.heap.size∧g6<wE.heap.size):=Lib.hid ⟨_,rfl,(Array.getElem?_eq_some_iff.1 hE).1⟩
   clear hE hKE nE HRG HWI
   have hb:=HB.out.1
   go_wp2_with (refine ld_all hb ?_)
   refine HF.out.mono ?_
   rintro e w2 ⟨k2,⟨hf,A5,n5,c5,rfl,hc5,hB5⟩|⟨hf,A5,n5,c5,rfl⟩⟩
   rotate_left
   ·have HR:=Lib.hid (And.intro hf (HEI.out.new.new (HB.out.2.new k2)))
    clear hf k2 hb HF
    go_wp2_with fail
    go_ret2
    exact HNO.out _ i x HR.out.2 HX.out.1 HR.out.1
   ·have HC:Hid (∀ W,EncIn w W w.heap.size p (fun b=>wr.heap.size≤b∧b<w2.heap.size) (wishesBytes (ls.take (i+1)))→∃ j:Nat,Value.int .i64 ((i:Int)+1)=.int .i64 j∧j≤n∧(ls.take j).all rightI=true∧EncIn w W w.heap.size p (fun _=>False) (wishesBytes (ls.take j))):=Lib.hid fun W h=>⟨i+1,rfl,hlt,by rw [List.take_add_one,HX.out.1,List.all_append,HX.out.2.2.1];simp [hf],h.none⟩
    have HSU:=Lib.hid (wishesBytes_succ HX.out.1)
    have HW2:Hid (EncIn w w2 w.heap.size p (fun b=>wr.heap.size≤b∧b<w2.heap.size) (wishesBytes (ls.take i))):=Lib.hid (HEX.out _ k2)
    have H2:Hid (w2.heap[wr.heap.size]?=some (.cells #[.int .i64 x.kind,.int .i64 x.op.kind,.string (strOf x.op.path),.string (strOf x.op.goal),.int .i64 x.op.fd,.int .i64 x.op.at_,.int .i64 x.op.n,.int .u64 x.op.till,.int .i64 x.op.snap,.slice E x.op.data.length cd,.slice K x.keep.length ck,.int .i64 x.torn,.int .i64 x.low] 49 (0,0))∧n5≤c5∧Bs w2 (fun b=>wr.heap.size≤b∧b<w2.heap.size) A5 n5 (if x.kind=1 then opEnc x.op else [])∧wr.heap.size<w2.heap.size):=Lib.hid (by
     have hlt:=(Array.getElem?_eq_some_iff.1 hb).1
     exact ⟨k2.blockAt hb trivial,hc5,hB5.imp fun b hb2 hd=>⟨by have:=HB.out.2.size;omega,hb2⟩,Nat.lt_of_lt_of_le hlt k2.size⟩)
    have HLT:=Lib.hid H2.out.2.2.2
    have HLB:=Lib.hid (And.intro (HLE.out i (by omega)) (wishTail_le HX.out.2.1))
    generalize wishesBytes (ls.take i)=bs at *
    generalize wishesBytes (ls.take (i+1))=bsn at *
    clear hf k2 hb HF HEX HGE hc5 hB5 HEI HNO
    have c0:=cellOf H2.out.1 (k:=0) (v:=.int .i64 x.kind) rfl
    go_wp2_with fail
    refine (wbyteW_any w.heap.size p bs x.kind w2 HW2.out.wr (by have:=HLB.out.1;omega)).mono ?_
    rintro e w3 ⟨rfl,hW3,hR3⟩
    obtain ⟨hE3,m3⟩:=HW2.out.step (Nat.le_refl _) hW3 hR3
    have HW3:=Lib.hid hE3
    have H3:=Lib.hid (And.intro (m3.blockAt H2.out.1 ⟨Nat.le_refl _,H2.out.2.2.2⟩) (And.intro H2.out.2.1 (H2.out.2.2.1.keep m3 fun _ _ h=>h)))
    have hl2:(bs++beI 1 x.kind).length≤3000001:=by rw [List.length_append,beI_length];have:=HLB.out.1;omega
    have HTL:Hid (wishTail x=if x.kind=1 then lenBytes (opEnc x.op) else if x.kind=2 then ((beI 1 x.keep.length++flagsOf x.keep)++beI 2 x.torn)++beI 2 x.low else []):=Lib.hid rfl
    generalize hb2:bs++beI 1 x.kind=bs2 at *
    generalize wishTail x=tl at *
    clear hE3 m3 hW3 hR3 c0 H2 HW2 hb2
    have c0:=cellOf H3.out.1 (k:=0) (v:=.int .i64 x.kind) rfl
    by_cases h1:x.kind=1
    ·have ht:tl=lenBytes (opEnc x.op):=by rw [HTL.out,if_pos h1]
     have hB:=H3.out.2.2
     rw [if_pos h1] at hB
     have HB3:=Lib.hid hB
     have HT:=Lib.hid ht
     clear ht hB HTL
     go_upto_region 13 with fail
     clear h1 c0
     go_wp2_with fail
     refine (wbytesW_any w.heap.size p _ A5 n5 c5 bs2 (opEnc x.op) w3 HW3.out.wr HB3.out (fun b hb=>⟨(HW3.out.far b hb).1,(HW3.out.far b hb).2.1⟩) H3.out.2.1 (by have h:=Bs.len HB3.out;have:=opEnc_le x.op;omega) (by omega)).mono ?_
     rintro e w4 ⟨rfl,hW4,hR4⟩
     have HZ:=Lib.hid (HW3.out.step (Nat.le_refl _) hW4 hR4).1
     clear hW4 hR4
     go_wp2_with fail
     go_roundw
     case rel=>exact HC.out _ (by rw [HSU.out,HT.out];exact HZ.out)
     case measure=>simp [intOf];omega
    ·have HTL2:Hid (tl=if x.kind=2 then ((beI 1 x.keep.length++flagsOf x.keep)++beI 2 x.torn)++beI 2 x.low else []):=Lib.hid (by rw [HTL.out,if_neg h1])
     clear HTL
     by_cases h2:x.kind=2
     ·have ht:tl=((beI 1 x.keep.length++flagsOf x.keep)++beI 2 x.torn)++beI 2 x.low:=by rw [HTL2.out,if_pos h2]
      have HT:=Lib.hid ht
      clear ht HTL2
      have HKB:Hid (∀ j,j<x.keep.length→∃ bk ok v,K=some ⟨bk,ok,none⟩∧x.keep[j]?=some v∧∀ W,New w W→W.cell? ⟨bk,ok+j,none⟩=some (.bool v)):=Lib.hid fun j hj=>by
       obtain ⟨bk,ok,us,hK,_,_,hat,_,hc⟩:=(HX.out.2.2.2 w (New.refl w)).2.keeps.at_ hj
       exact ⟨bk,ok,_,hK,List.getElem?_eq_getElem hj,fun W k=>k.cell_some (by have:=hc 0 _ hat;rwa [show boolElt.size=1 from rfl,Nat.mul_one] at this) trivial⟩
      have HFL:Hid (∀ j v,x.keep[j]?=some v→flagsOf (x.keep.take (j+1))=flagsOf (x.keep.take j)++flagByte v):=Lib.hid fun j v h=>flagsOf_succ h
      have HFN:Hid (flagsOf (x.keep.take x.keep.length)=flagsOf x.keep):=Lib.hid (by rw [List.take_length])
      have HFM:Hid (∀ j,(flagsOf (x.keep.take j)).length≤40):=Lib.hid fun j=>by rw [flagsOf_length,List.length_take];have:=HX.out.2.1.1;omega
      have hk40:x.keep.length≤40:=HX.out.2.1.1
      go_upto_region 15 with fail
      clear h1 h2 c0
      generalize hkn:x.keep.length=kn at *
      have c10:=cellOf H3.out.1 (k:=10) (v:=.slice K kn ck) rfl
      clear hkn
      go_wp2_with fail
      refine (wbyteW_any w.heap.size p bs2 (kn:Int) w3 HW3.out.wr (by omega)).mono ?_
      rintro e w4 ⟨rfl,hW4,hR4⟩
      obtain ⟨hE4,m4⟩:=HW3.out.step (Nat.le_refl _) hW4 hR4
      have HW4:=Lib.hid hE4
      have H4:=Lib.hid (m4.blockAt H3.out.1 ⟨Nat.le_refl _,HLT.out⟩)
      have hl3:(bs2++beI 1 (kn:Int)).length≤3000002:=by rw [List.length_append,beI_length];omega
      generalize hb3:bs2++beI 1 (kn:Int)=bs3 at *
      have HB3:=Lib.hid hb3
      clear hE4 m4 hW4 hR4 c10 hb3 H3 HW3
      have c10:=cellOf H4.out (k:=10) (v:=.slice K kn ck) rfl
      generalize wr=w0 at *
      go_wp2_with fail
      clear c10
      go_loopw [49] (fun s49 wx=>∃ j:Nat,s49=.int .i64 j∧j≤kn∧EncIn w wx w.heap.size p (fun b=>w0.heap.size≤b∧b<w2.heap.size) (bs3++flagsOf (x.keep.take j))∧Keep (fun b=>w0.heap.size≤b∧b<w2.heap.size) w4 wx) (fun s _=>kn-(intOf s).toNat)
      case atStart=>exact ⟨0,rfl,Nat.zero_le _,by rw [List.take_zero,show flagsOf []=[] from rfl,List.append_nil];exact HW4.out,Keep.refl _ _⟩
      case round =>
       obtain ⟨j,rfl,hj,hE,hK4⟩:=hrel
       have HEJ:=Lib.hid (And.intro hE hK4)
       clear hE hK4
       by_cases hlj:j<kn
       ·obtain ⟨bk,ok,v,rfl,hv,hcv⟩:=HKB.out j hlj
        have hc:=hcv wr HEJ.out.1.new
        have HV:=Lib.hid hv
        have hlt2:(j:Int)<(kn:Int):=by omega
        clear hv hcv
        go_wp2_with fail
        refine (wflagW_any w.heap.size p _ v wr HEJ.out.1.wr (by rw [List.length_append];have:=HFM.out j;omega)).mono ?_
        rintro e w5 ⟨rfl,hW5,hR5⟩
        have HZ:=Lib.hid (HEJ.out.1.step (Nat.le_refl _) hW5 hR5)
        clear hc hW5 hR5
        go_wp2_with fail
        go_roundw
        case rel=>exact ⟨j+1,rfl,hlj,by rw [HFL.out j v HV.out,← List.append_assoc];exact HZ.out.1,HEJ.out.2.trans HZ.out.2⟩
        case measure=>simp [intOf];omega
       ·obtain rfl:j=kn:=by omega
        have hlt2:¬ (j:Int)<(j:Int):=by omega
        have H5:=Lib.hid (HEJ.out.2.blockAt H4.out ⟨Nat.le_refl _,HLT.out⟩)
        have hE5:=HEJ.out.1
        rw [HFN.out] at hE5
        have HW5:=Lib.hid hE5
        have hl5:(bs3++flagsOf x.keep).length≤3000042:=by rw [List.length_append,← HFN.out];have:=HFM.out j;omega
        generalize hb5:bs3++flagsOf x.keep=bs5 at *
        have HB5:=Lib.hid hb5
        clear hE5 hb5 HEJ H4 HW4
        have c11:=cellOf H5.out (k:=11) (v:=.int .i64 x.torn) rfl
        go_wp2_with fail
        refine (wshortW_any w.heap.size p bs5 x.torn wr HW5.out.wr (by omega)).mono ?_
        rintro e w6 ⟨rfl,hW6,hR6⟩
        obtain ⟨hE6,m6⟩:=HW5.out.step (Nat.le_refl _) hW6 hR6
        have HW6:=Lib.hid hE6
        have c12:=cellOf (m6.blockAt H5.out ⟨Nat.le_refl _,HLT.out⟩) (k:=12) (v:=.int .i64 x.low) rfl
        have hl6:(bs5++beI 2 x.torn).length≤3000044:=by rw [List.length_append,beI_length];omega
        clear hE6 m6 hW6 hR6 c11 H5
        go_wp2_with fail
        refine (wshortW_any w.heap.size p _ x.low w6 HW6.out.wr (by omega)).mono ?_
        rintro e w7 ⟨rfl,hW7,hR7⟩
        have HZ:=Lib.hid (HW6.out.step (Nat.le_refl _) hW7 hR7).1
        clear c12 hW7 hR7
        go_wp2_with fail
        go_roundw
        case rel=>exact HC.out _ (by rw [HSU.out,HT.out,← List.append_assoc,← List.append_assoc,← List.append_assoc,HB3.out,HB5.out];exact HZ.out)
        case measure=>simp [intOf];omega
     ·have ht:tl=[]:=by rw [HTL2.out,if_neg h2]
      have HT:=Lib.hid ht
      clear ht HTL2
      go_wp2_with fail
      go_roundw
      case rel=>exact HC.out _ (by rw [HSU.out,HT.out,List.append_nil];exact HW3.out)
      case measure=>simp [intOf];omega
  ·have hli:¬ (i:Int)<(n:Int):=by omega
   obtain rfl:i=n:=by omega
   have HEI:=Lib.hid hE
   rw [HTK.out] at hall
   have HAL:=Lib.hid hall
   clear hE hall
   rw [HTK.out] at HEI
   have HLX:=Lib.hid (HLE.out i (Nat.le_refl _))
   rw [HTK.out] at HLX
   generalize wishesBytes ls=bsz at *
   go_wp2_with fail
   refine (done_any w.heap.size p bsz wr HEI.out.wr (by have:=HLX.out;omega)).mono ?_
   rintro e w8 ⟨⟨A8,c8,rfl,ho⟩,k8⟩
   have HO8:=Lib.hid (And.intro ho k8)
   clear ho k8
   go_wp2_with fail
   refine bodyPost_ret (v:=.tuple #[.slice A8 bsz.length c8,.int .i64 0]) (by simp [results,Tryz.results20,go_sem]) rfl ?_
   exact HOK.out HAL.out _ _ _ _ (HEI.out.new.new HO8.out.2) (own_cap HO8.out.1) ((Row.of_own HO8.out.1).imp fun b _ hb=>Nat.le_trans HEI.out.new.size hb)
def RowIn (w wx:World) (A:Option Addr) (n c:Nat) (bs:List UInt8):Prop:=New w wx∧n≤c∧Bs wx (fun b=>w.heap.size≤b) A n bs
theorem RowIn.step {w wx w':World}{A:Option Addr}{n c:Nat}{bs bs2:List UInt8}(h:RowIn w wx A n c bs){e:Ending}(hr:BytesRet bs2 wx e w'):∃ A' n' c',e=.returned (.slice A' n' c')∧RowIn w w' A' n' c' bs2:=by
 obtain ⟨h1,h2,h3⟩:=h
 obtain ⟨⟨A',c',rfl,ho⟩,k⟩:=hr
 exact ⟨A',_,c',rfl,h1.new k,own_cap ho,(Row.of_own ho).imp fun b _ hb=>Nat.le_trans h1.size hb⟩
theorem RowIn.new {w wx w':World}{A:Option Addr}{n c:Nat}{bs:List UInt8}(h:RowIn w wx A n c bs) (k:New wx w'):RowIn w w' A n c bs:=⟨h.1.new k,h.2.1,Row.new h.2.2 k⟩
theorem RowIn.len {w wx:World}{A:Option Addr}{n c:Nat}{bs:List UInt8}(h:RowIn w wx A n c bs){m:Nat}(hm:bs.length≤m):n≤m:=by have:=Bs.len h.2.2;omega
theorem lbytes_any {w:World}{D:Nat→Prop}{A:Option Addr}{n c:Nat}{ls:List WishP}(hl:Sl wishElt w D A n ls) (hn:n≤30) (hs:∀ x∈ls,x.Small) (hr:ls.all rightI=true):
  Calls Tryz.prog 13 #[.slice A n c] w fun e w'=>∃ A' m c',e=.returned (.slice A' m c')∧RowIn w w' A' m c' (wishesBytes ls):=by
 have hlen:=hl.len
 have HLE:Hid (∀ i,i≤n→(wishesBytes (ls.take i)).length≤3000000):=Lib.hid fun i hi=>by
  have:=wishesBytes_le (l:=ls.take i) fun x hx=>hs x (List.mem_of_mem_take hx)
  rw [List.length_take] at this
  omega
 have HIN:Hid (∀ i,i<n→∃ b off E cd K ck x,A=some ⟨b,off,none⟩∧ls[i]?=some x∧x.Small∧rightI x=true∧∀ W,New w W→W.rangeAt b (off+i*13) (wishArr x E cd K ck).toList∧WishIn W D x E cd K ck):=Lib.hid fun i hi=>by
  obtain ⟨b,off,E,cd,K,ck,hA,_,hb,hr2,hw⟩:=wish_at hl (k:=i) (by omega)
  exact ⟨b,off,E,cd,K,ck,_,hA,List.getElem?_eq_getElem (by omega),hs _ (List.getElem_mem _),List.all_eq_true.1 hr _ (List.getElem_mem _),fun W k=>⟨fun j v hj=>k.cell_some (hr2 j v hj) trivial,hw.keep k fun _ _ _=>trivial⟩⟩
 have HTK:Hid (ls.take n=ls):=Lib.hid (List.take_of_length_le (by omega))
 clear hl hs hlen hr
 go_enter Tryz.func13,Tryz.ntmps13
 go_wp2_with fail
 go_loopw [3,4] (fun s3 s4 wx=>∃ (i:Nat) (A1:Option Addr) (m1 c1:Nat),s3=.slice A1 m1 c1∧s4=.int .i64 i∧i≤n∧RowIn w wx A1 m1 c1 (wishesBytes (ls.take i))) (fun _ s _=>n-(intOf s).toNat)
 case atStart=>exact ⟨0,none,0,0,rfl,rfl,Nat.zero_le _,New.refl _,Nat.le_refl _,Row.nil _ _ _ _⟩
 case round =>
  obtain ⟨i,A1,m1,c1,rfl,rfl,hi,hR⟩:=hrel
  by_cases hlt:i<n
  ·obtain ⟨b,off,E,cd,K,ck,x,rfl,hx,hsm,hrx,hin⟩:=HIN.out i hlt
   have hli:(i:Int)<(n:Int):=by omega
   have HX:=Lib.hid (And.intro hx (And.intro hsm (And.intro hrx hin)))
   have HM:=Lib.hid (hR.len (HLE.out i hi))
   have HRI:=Lib.hid hR
   have HCE:Hid (∀ W,New w W→W.cell? ⟨b,off+i*13,none⟩=some (.int .i64 x.kind)∧W.cell? ⟨b,off+i*13+2,none⟩=some (.string (strOf x.op.path))∧W.cell? ⟨b,off+i*13+10,none⟩=some (.slice K x.keep.length ck)∧W.cell? ⟨b,off+i*13+11,none⟩=some (.int .i64 x.torn)∧W.cell? ⟨b,off+i*13+12,none⟩=some (.int .i64 x.low)∧W.rangeAt b (off+i*13+1) [.int .i64 x.op.kind,.string (strOf x.op.path),.string (strOf x.op.goal),.int .i64 x.op.fd,.int .i64 x.op.at_,.int .i64 x.op.n,.int .u64 x.op.till,.int .i64 x.op.snap,.slice E x.op.data.length cd]):=Lib.hid fun W k=>by
    have h:=(hin W k).1
    refine ⟨h 0 _ rfl,h 2 _ rfl,h 10 _ rfl,h 11 _ rfl,h 12 _ rfl,fun j v hj=>?_⟩
    have hj9:j<9:=(List.getElem?_eq_some_iff.1 hj).1
    rw [Nat.add_assoc]
    exact h (1+j) v (by
     match j,hj9 with
     | 0,_=>exact hj
     | 1,_=>exact hj
     | 2,_=>exact hj
     | 3,_=>exact hj
     | 4,_=>exact hj
     | 5,_=>exact hj
     | 6,_=>exact hj
     | 7,_=>exact hj
     | 8,_=>exact hj)
   have HSU:=Lib.hid (wishesBytes_succ hx)
   have HTL:Hid (wishTail x=if x.kind=1 then lenBytes (opEnc x.op) else if x.kind=2 then ((beI 1 x.keep.length++flagsOf x.keep)++beI 2 x.torn)++beI 2 x.low else []):=Lib.hid rfl
   have HC:Hid (∀ W A2 m2 c2,RowIn w W A2 m2 c2 (wishesBytes (ls.take (i+1)))→∃ (j:Nat) (A1:Option Addr) (m1 c1:Nat),Value.slice A2 m2 c2=.slice A1 m1 c1∧Value.int .i64 ((i:Int)+1)=.int .i64 j∧j≤n∧RowIn w W A1 m1 c1 (wishesBytes (ls.take j))):=Lib.hid fun W A2 m2 c2 h=>⟨i+1,A2,m2,c2,rfl,rfl,hlt,h⟩
   have hl0:=HLE.out i hi
   generalize wishesBytes (ls.take i)=bs at *
   generalize wishesBytes (ls.take (i+1))=bsn at *
   have c0:=(HCE.out wr hR.1).1
   clear hx hsm hrx hin hR
   go_wp2_with fail
   refine (byte4_any _ A1 m1 c1 bs x.kind wr HRI.out.2.2 (by have:=HM.out;omega)).mono ?_
   rintro e w3 hr
   obtain ⟨A3,m3,c3,rfl,hR3⟩:=HRI.out.step hr
   have hl2:(bs++beI 1 x.kind).length≤3000001:=by rw [List.length_append,beI_length];omega
   have HM3:=Lib.hid (hR3.len hl2)
   have HR3:=Lib.hid hR3
   generalize hb2:bs++beI 1 x.kind=bs2 at *
   generalize wishTail x=tl at *
   clear hr hR3 c0 hb2 HRI HM
   have c0:=(HCE.out w3 HR3.out.1).1
   by_cases h1:x.kind=1
   ·have ht:tl=lenBytes (opEnc x.op):=by rw [HTL.out,if_pos h1]
    have hf:opFine x.op=true:=by have:=HX.out.2.2.1;unfold rightI at this;rwa [if_pos h1] at this
    have HT:=Lib.hid (And.intro ht hf)
    clear ht HTL hf
    obtain ⟨b1,b2,b3,b4⟩:=wish_data (HX.out.2.2.2 w3 HR3.out.1).2 (New.refl w3)
    have HE:=Lib.hid (r15enc_any x.op E cd w3 b1 b2 (by have:=HX.out.2.1.2.2.2;omega) b3 b4)
    unfold opVal opCells at HE
    clear b1 b2 b3 b4
    go_upto_region 8 with fail
    clear h1 c0
    have hrg:=(HCE.out w3 HR3.out.1).2.2.2.2.2
    go_wp2_with (refine wpList_load_mid rfl _ _ rfl b (off+i*13+1) rfl _ _ hrg Tryz.underlying46 rfl (by kernel_rfl) ?_)
    refine HE.out.mono ?_
    rintro e w4 ⟨k4,⟨hf,A4,n4,c4,rfl,hc4,hB4⟩|⟨hf,_⟩⟩
    rotate_left
    ·rw [HT.out.2] at hf
     cases hf
    have HR4:=Lib.hid (HR3.out.new k4)
    have HB4:=Lib.hid (And.intro hc4 hB4)
    clear hf k4 hc4 hB4 hrg HE
    go_wp2_with fail
    refine (bytes4_any _ _ A3 A4 m3 c3 n4 c4 bs2 (opEnc x.op) w4 HR4.out.2.2 HB4.out.2 (by have:=HM3.out;omega) (by have h:=Bs.len HB4.out.2;have:=opEnc_le x.op;omega) HB4.out.1).mono ?_
    rintro e w5 hr
    obtain ⟨A5,m5,c5,rfl,hR5⟩:=HR4.out.step hr
    have HZ:=Lib.hid hR5
    clear hr hR5
    go_wp2_with fail
    go_roundw
    case rel=>exact HC.out _ _ _ _ (by rw [HSU.out,HT.out.1];exact HZ.out)
    case measure=>simp [intOf];omega
   ·have HTL2:Hid (tl=if x.kind=2 then ((beI 1 x.keep.length++flagsOf x.keep)++beI 2 x.torn)++beI 2 x.low else []):=Lib.hid (by rw [HTL.out,if_neg h1])
    clear HTL
    by_cases h2:x.kind=2
    ·have ht:tl=((beI 1 x.keep.length++flagsOf x.keep)++beI 2 x.torn)++beI 2 x.low:=by rw [HTL2.out,if_pos h2]
     have HT:=Lib.hid ht
     clear ht HTL2
     have HKB:Hid (∀ j,j<x.keep.length→∃ bk ok v,K=some ⟨bk,ok,none⟩∧x.keep[j]?=some v∧∀ W,New w W→W.cell? ⟨bk,ok+j,none⟩=some (.bool v)):=Lib.hid fun j hj=>by
      obtain ⟨bk,ok,us,hK,_,_,hat,_,hc⟩:=(HX.out.2.2.2 w (New.refl w)).2.keeps.at_ hj
      exact ⟨bk,ok,_,hK,List.getElem?_eq_getElem hj,fun W k=>k.cell_some (by have:=hc 0 _ hat;rwa [show boolElt.size=1 from rfl,Nat.mul_one] at this) trivial⟩
     have HFL:Hid (∀ j v,x.keep[j]?=some v→flagsOf (x.keep.take (j+1))=flagsOf (x.keep.take j)++flagByte v):=Lib.hid fun j v h=>flagsOf_succ h
     have HFN:Hid (flagsOf (x.keep.take x.keep.length)=flagsOf x.keep):=Lib.hid (by rw [List.take_length])
     have HFM:Hid (∀ j,(flagsOf (x.keep.take j)).length≤40):=Lib.hid fun j=>by rw [flagsOf_length,List.length_take];have:=HX.out.2.1.1;omega
     have hk40:x.keep.length≤40:=HX.out.2.1.1
     have HKC:=Lib.hid (HX.out.2.2.2 w (New.refl w)).2.kcap
     go_upto_region 11 with fail
     clear h1 h2 c0
     generalize hkn:x.keep.length=kn at *
     have c10:=(HCE.out w3 HR3.out.1).2.2.1
     clear hkn
     go_wp2_with fail
     refine (byte4_any _ A3 m3 c3 bs2 (kn:Int) w3 HR3.out.2.2 (by have:=HM3.out;omega)).mono ?_
     rintro e w4 hr
     obtain ⟨A4,m4,c4,rfl,hR4⟩:=HR3.out.step hr
     have hl3:(bs2++beI 1 (kn:Int)).length≤3000002:=by rw [List.length_append,beI_length];omega
     generalize hb3:bs2++beI 1 (kn:Int)=bs3 at *
     have HB3:=Lib.hid hb3
     have HR4:=Lib.hid hR4
     clear hr hR4 c10 hb3 HR3 HM3
     generalize wr=w0 at *
     go_wp2_with fail
     go_loopw [3,7] (fun s3 s7 wx=>∃ (j:Nat) (A1:Option Addr) (m1 c1:Nat),s3=.slice A1 m1 c1∧s7=.int .i64 j∧j≤kn∧RowIn w wx A1 m1 c1 (bs3++flagsOf (x.keep.take j))) (fun _ s _=>kn-(intOf s).toNat)
     case atStart=>exact ⟨0,A4,m4,c4,rfl,rfl,Nat.zero_le _,by rw [List.take_zero,show flagsOf []=[] from rfl,List.append_nil];exact HR4.out⟩
     case round =>
      obtain ⟨j,A5,m5,c5,rfl,rfl,hj,hE⟩:=hrel
      have hl4:(bs3++flagsOf (x.keep.take j)).length≤3000042:=by rw [List.length_append];have:=HFM.out j;omega
      have HM5:=Lib.hid (hE.len hl4)
      have HEJ:=Lib.hid hE
      have c10:=(HCE.out wr hE.1).2.2.1
      clear hE
      by_cases hlj:j<kn
      ·obtain ⟨bk,ok,v,rfl,hv,hcv⟩:=HKB.out j hlj
       have hc:=hcv wr HEJ.out.1
       have HV:=Lib.hid hv
       have hlt2:(j:Int)<(kn:Int):=by omega
       clear hv hcv
       go_wp2_with fail
       refine (flag4_any _ A5 m5 c5 _ v wr HEJ.out.2.2 (by have:=HM5.out;omega)).mono ?_
       rintro e w5 hr
       obtain ⟨A6,m6,c6,rfl,hR6⟩:=HEJ.out.step hr
       have HZ:=Lib.hid hR6
       clear hc hr hR6 c10
       go_wp2_with fail
       go_roundw
       case rel=>exact ⟨j+1,A6,m6,c6,rfl,rfl,hlj,by rw [HFL.out j v HV.out,← List.append_assoc];exact HZ.out⟩
       case measure=>simp [intOf];omega
      ·obtain rfl:j=kn:=by omega
       have hlt2:¬ (j:Int)<(j:Int):=by omega
       have hE5:=HEJ.out
       rw [HFN.out] at hE5 hl4
       have HR5:=Lib.hid hE5
       generalize hb5:bs3++flagsOf x.keep=bs5 at *
       have HB5:=Lib.hid hb5
       clear hE5 hb5 HEJ HR4
       go_upto_region 16 with fail
       clear c10
       have HR6:=Lib.hid (HR5.out.new (New.refl wr).drew)
       have r11:∀ W,New wr W→W.cell? ⟨b,off+i*13+11,none⟩=some (.int .i64 x.torn):=fun W k=>(HCE.out W (HR5.out.1.new k)).2.2.2.1
       have r12:∀ W,New wr W→W.cell? ⟨b,off+i*13+12,none⟩=some (.int .i64 x.low):=fun W k=>(HCE.out W (HR5.out.1.new k)).2.2.2.2.1
       refine hold_begin (by kernel_rfl) ?_
       have n0:New wr wr.drew:=(New.refl wr).drew
       replace r11:=fun W (hW:New wr.drew W)=>r11 W (Keep.new n0 hW)
       replace r12:=fun W (hW:New wr.drew W)=>r12 W (Keep.new n0 hW)
       refine take1 0 ?_
       refine take1 1 ?_
       refine take1 2 ?_
       refine take1 3 ?_
       refine take1 4 ?_
       refine take1 5 ?_
       refine take1 7 ?_
       refine take1 8 ?_
       refine take1 9 ?_
       refine take1 10 ?_
       refine take1 11 ?_
       refine hold_step (i:=6) (by kernel_rfl) rfl rfl (fun K hK=>?_)
       go_simp
       refine (short4_any _ A5 m5 c5 bs5 _ _ HR6.out.2.2 (by have:=HM5.out;omega)).mono ?_
       rintro e w6 h6;obtain ⟨A6,m6,c6,rfl,hR7⟩:=HR6.out.step h6;have k6:=h6.2;have HR7:=Lib.hid hR7;clear hR7 h6
       go_wp2_with fail
       refine hK.out _ _ k6 ?_
       clear hK K
       try simp only [Act.put,ly1,ly2,ly3,ly4,ly5,ly6]
       replace n0:=Keep.new n0 k6
       replace r11:=fun W (hW:New w6 W)=>r11 W (Keep.new k6 hW)
       replace r12:=fun W (hW:New w6 W)=>r12 W (Keep.new k6 hW)
       refine hold_step (i:=12) (by kernel_rfl) rfl rfl (fun K hK=>?_)
       go_simp
       refine (short4_any _ A6 m6 c6 _ _ _ HR7.out.2.2 (HR7.out.len (by rw [List.length_append,beI_length];omega))).mono ?_
       rintro e w7 h7;obtain ⟨A7,m7,c7,rfl,hR8⟩:=HR7.out.step h7;have k7:=h7.2;have HR8:=Lib.hid hR8;clear hR8 h7
       go_wp2_with fail
       refine hK.out _ _ k7 ?_
       clear hK K
       try simp only [Act.put,ly1,ly2,ly3,ly4,ly5,ly6]
       replace n0:=Keep.new n0 k7
       replace r11:=fun W (hW:New w7 W)=>r11 W (Keep.new k7 hW)
       replace r12:=fun W (hW:New w7 W)=>r12 W (Keep.new k7 hW)
       refine take1 13 ?_
       refine wpAnyH_done (by kernel_rfl) ?_ _
       clear r11 r12 n0
       go_wp2_with fail
       go_roundw
       case rel=>exact HC.out _ _ _ _ (by rw [HSU.out,HT.out,← List.append_assoc,← List.append_assoc,← List.append_assoc,HB3.out,HB5.out];exact HR8.out)
       case measure=>simp [intOf];omega
    ·have ht:tl=[]:=by rw [HTL2.out,if_neg h2]
     have HT:=Lib.hid ht
     clear ht HTL2
     go_wp2_with fail
     go_roundw
     case rel=>exact HC.out _ _ _ _ (by rw [HSU.out,HT.out,List.append_nil];exact HR3.out)
     case measure=>simp [intOf];omega
  ·have hli:¬ (i:Int)<(n:Int):=by omega
   obtain rfl:i=n:=by omega
   rw [HTK.out] at hR
   have HRI:=Lib.hid hR
   clear hR
   go_wp2_with fail
   go_ret
   exact ⟨A1,m1,c1,rfl,HRI.out⟩
theorem info13_wish:(Tryz.prog.info? 49).map (fun i=>(i.zero.map fun z=>z.cells.size,i.size,i.bytes))=some (some 13,13,152):=by kernel_rfl
theorem WishIn.cut {w:World}{D:Nat→Prop}{x:WishP}{E:Option Addr}{cd:Nat}{K:Option Addr}{ck:Nat}(h:WishIn w D x E cd K ck):WishIn w D x.cut E cd K ck:=by
 have h1:=h.data.cutTo (hi:=(x.op.data.take 610).length) (by rw [List.length_take];omega)
 have h2:=h.keeps.cutTo (m:=(x.keep.take 40).length) (by rw [List.length_take];omega)
 have e1:x.op.data.take (x.op.data.take 610).length=x.op.data.take 610:=by rw [List.length_take];rcases Nat.le_total 610 x.op.data.length with h|h <;> simp [Nat.min_eq_left,Nat.min_eq_right,h,List.take_of_length_le]
 have e2:x.keep.take (x.keep.take 40).length=x.keep.take 40:=by rw [List.length_take];rcases Nat.le_total 40 x.keep.length with h|h <;> simp [Nat.min_eq_left,Nat.min_eq_right,h,List.take_of_length_le]
 rw [e1] at h1
 rw [e2] at h2
 obtain ⟨f0,⟨f1,f2,f3,f4,f5,f6,f7,f8⟩,f9,f10⟩:=h.fine
 have p1:(x.op.path.take 210).length≤x.op.path.length:=by rw [List.length_take];omega
 have p2:(x.op.goal.take 210).length≤x.op.goal.length:=by rw [List.length_take];omega
 have p3:(x.op.data.take 610).length≤x.op.data.length:=by rw [List.length_take];omega
 have p4:(x.keep.take 40).length≤x.keep.length:=by rw [List.length_take];omega
 exact ⟨h1,⟨Nat.le_trans p3 h.dcap.1,h.dcap.2⟩,h2,⟨Nat.le_trans p4 h.kcap.1,h.kcap.2⟩,f0,⟨f1,f2,f3,f4,f5,f6,Nat.le_trans p1 f7,Nat.le_trans p2 f8⟩,f9,f10⟩
theorem cut_small (x:WishP):x.cut.Small:=by
 unfold WishP.Small WishP.cut OpP.cut
 simp only [List.length_take]
 omega
def someOf (ls:List WishP) (i:Nat):List WishP:=(ls.take i).map WishP.cut
theorem someOf_succ {ls:List WishP}{i:Nat}{x:WishP}(h:ls[i]?=some x):someOf ls (i+1)=someOf ls i++[x.cut]:=by
 unfold someOf
 rw [List.take_add_one,h,List.map_append]
 rfl
theorem someOf_small (ls:List WishP) (i:Nat):∀ x∈someOf ls i,x.Small:=fun x hx=>by
 obtain ⟨y,_,rfl⟩:=List.mem_map.1 hx
 exact cut_small y
theorem shwrites_any {w : World} {D : Nat → Prop} {A : Option Addr} {n c : Nat} {ls : List WishP} (hl : Sl wishElt w D A n ls) (_hn : n ≤ 9223372036854775807) (hMx : MaxLenAt w) (htab : Lib.TabIs Tryz.prog w "internal/strconv.uint64pow10" .u64 Lib.pow10Tab) :
  Calls Tryz.prog 5 #[.slice A n c] w fun e w'=>e=.returned (.bool true)∧New w w':=by
 have hlen:=hl.len
 have HIN:Hid (∀ i,i<n→∃ b off E cd K ck x,A=some ⟨b,off,none⟩∧ls[i]?=some x∧∀ W,New w W→W.rangeAt b (off+i*13) (wishArr x E cd K ck).toList∧WishIn W (fun b=>b<w.heap.size) x E cd K ck):=Lib.hid fun i hi=>by
  obtain ⟨b,off,E,cd,K,ck,hA,_,hb,hr2,hw⟩:=wish_at hl (k:=i) (by omega)
  exact ⟨b,off,E,cd,K,ck,_,hA,List.getElem?_eq_getElem (by omega),fun W k=>⟨fun j v hj=>k.cell_some (hr2 j v hj) trivial,(hw.imp (F:=fun b=>b<w.heap.size) fun b hb _=>hb).keep k fun _ _ _=>trivial⟩⟩
 have HN:=Lib.hid (And.intro hMx htab)
 clear hl hlen hMx htab
 go_enter Tryz.func5,Tryz.ntmps5
 go_wp2_with fail
 go_loopw [3,4,5] (fun s3 s4 s5 wx=>∃ (i:Nat) (A1:Option Addr) (c1:Nat),s3=.slice A1 i c1∧s4=.bool ((someOf ls i).all rightI)∧s5=.int .i64 i∧i≤n∧i≤30∧New w wx∧OwnSl 49 wishElt wx w.heap.size (fun b=>b<w.heap.size) A1 i c1 (someOf ls i)) (fun _ _ s _=>30-(intOf s).toNat)
 case atStart=>exact ⟨0,none,0,rfl,rfl,rfl,Nat.zero_le _,Nat.zero_le _,New.refl _,OwnSl.nil _ _ _ _ _⟩
 case round =>
  obtain ⟨i,A1,c1,rfl,rfl,rfl,hi,hi30,hNr,hO⟩:=hrel
  obtain ⟨ok,hok⟩:∃ ok,ok=(someOf ls i).all rightI:=⟨_,rfl⟩
  rw [← hok]
  have HOK:=Lib.hid hok
  have HNR:=Lib.hid hNr
  have HO:=Lib.hid hO
  clear hok hNr hO
  by_cases h2:i<n∧i<30
  ·obtain ⟨h2,h3⟩:=h2
   have hli:(i:Int)<n:=by omega
   have hl3:(i:Int)<30:=by omega
   obtain ⟨b,off,E,cd,K,ck,x,rfl,hx,hin⟩:=HIN.out i h2
   obtain ⟨hrg,hwi⟩:=hin wr HNR.out
   have HRG:Hid (wr.rangeAt b (off+i*13) [.int .i64 x.kind,.int .i64 x.op.kind,.string (strOf x.op.path),.string (strOf x.op.goal),.int .i64 x.op.fd,.int .i64 x.op.at_,.int .i64 x.op.n,.int .u64 x.op.till,.int .i64 x.op.snap,.slice E x.op.data.length cd,.slice K x.keep.length ck,.int .i64 x.torn,.int .i64 x.low]):=Lib.hid hrg
   have HCT:=Lib.hid (lcut_any x E cd K ck wr hwi)
   have HWI:=Lib.hid hwi.cut
   have HSU:=Lib.hid (someOf_succ hx)
   have HSM:=Lib.hid (cut_small x)
   have HB:=Lib.hid (And.intro h2 h3)
   generalize x.cut=y at *
   unfold wishArr at HCT
   clear hx hin hrg hwi h2 h3 hi hi30
   go_wp2_with (refine wpList_load_mid rfl _ _ rfl b (off+i*13) rfl _ _ HRG.out Tryz.underlying49 rfl (by kernel_rfl) ?_)
   refine HCT.out.mono ?_
   rintro e w2 ⟨rfl,k2⟩
   have HK2:=Lib.hid k2
   clear k2 HRG HCT
   go_upto_region 7 with (refine st_all (heap_alloc_new w2 _) (fun wE hE hKE=>?_))
   have nE:New wr wE:=HK2.out.trans2 (((Keep.refl (fun b=>b≠w2.heap.size) w2).alloc _).trans hKE) fun b hb _=>by have:=HK2.out.size;show b≠w2.heap.size;omega
   have kB:=(New.refl wE).alloc (.cells #[.int .i64 y.kind,.int .i64 y.op.kind,.string (strOf y.op.path),.string (strOf y.op.goal),.int .i64 y.op.fd,.int .i64 y.op.at_,.int .i64 y.op.n,.int .u64 y.op.till,.int .i64 y.op.snap,.slice E y.op.data.length cd,.slice K y.keep.length ck,.int .i64 y.torn,.int .i64 y.low] 49)
   have rB:=Row.made wE 49 #[.int .i64 y.kind,.int .i64 y.op.kind,.string (strOf y.op.path),.string (strOf y.op.goal),.int .i64 y.op.fd,.int .i64 y.op.at_,.int .i64 y.op.n,.int .u64 y.op.till,.int .i64 y.op.snap,.slice E y.op.data.length cd,.slice K y.keep.length ck,.int .i64 y.torn,.int .i64 y.low] 1 13 rfl
   have oB:=HO.out.new (nE.new kB)
   have hbase:w.heap.size≤(wE.alloc (.cells #[.int .i64 y.kind,.int .i64 y.op.kind,.string (strOf y.op.path),.string (strOf y.op.goal),.int .i64 y.op.fd,.int .i64 y.op.at_,.int .i64 y.op.n,.int .u64 y.op.till,.int .i64 y.op.snap,.slice E y.op.data.length cd,.slice K y.keep.length ck,.int .i64 y.torn,.int .i64 y.low] 49)).heap.size:=(HNR.out.new (nE.new kB)).size
   have hA1:∀ k,blk A1=some k→w.heap.size≤k∧k<wr.heap.size:=HO.out.lt
   have hy:wishElt.At (wE.alloc (.cells #[.int .i64 y.kind,.int .i64 y.op.kind,.string (strOf y.op.path),.string (strOf y.op.goal),.int .i64 y.op.fd,.int .i64 y.op.at_,.int .i64 y.op.n,.int .u64 y.op.till,.int .i64 y.op.snap,.slice E y.op.data.length cd,.slice K y.keep.length ck,.int .i64 y.torn,.int .i64 y.low] 49)) (fun b=>b<w.heap.size∧some b≠blk A1) #[.int .i64 y.kind,.int .i64 y.op.kind,.string (strOf y.op.path),.string (strOf y.op.goal),.int .i64 y.op.fd,.int .i64 y.op.at_,.int .i64 y.op.n,.int .u64 y.op.till,.int .i64 y.op.snap,.slice E y.op.data.length cd,.slice K y.keep.length ck,.int .i64 y.torn,.int .i64 y.low].toList 0 y:=⟨E,cd,K,ck,fun k hk=>by rw [Nat.zero_add];exact Array.getElem?_toList (xs:=wishArr y E cd K ck),(HWI.out.keep (nE.new kB) fun _ _ _=>trivial).imp fun b _ hb=>⟨hb,fun e=>by have:=(hA1 b e.symm).1;omega⟩⟩
   obtain ⟨i0,z0,hi0,hz0,hs0,hb0,hzs0⟩:=parts2 info13_wish
   have hi30:i<30:=HB.out.2
   have HP:=Lib.hid (And.intro nE (And.intro kB (And.intro hA1 hE)))
   have hg6:w2.heap.size<wE.heap.size:=(Array.getElem?_eq_some_iff.1 hE).1
   have HG6:=Lib.hid hg6
   clear nE kB hA1 hKE hg6 hli hl3
   go_upto_region 8 with (first|(refine ld_all hE ?_)|(refine wpList_plain rfl fun _ hK=>?_;refine wp_sl (E:=wishElt) _ _ _ 43 49 rfl i0 z0 152 Tryz.underlying43 hi0 hz0 hs0 hb0 hzs0 w.heap.size (fun b=>b<w.heap.size) A1 i c1 _ rfl oB _ _ 1 _ y rfl rB hy (by omega) (by omega) hbase ?_;intro A9 c9 wC o9 kC hbk;refine hK _ _ ?_))
   have hC:=(keep_blk kC).blockAt (HP.out.2.1.blockAt HP.out.2.2.2 trivial) (fun e=>by have:=(HP.out.2.2.1 _ e.symm).2;have:=HK2.out.size;omega)
   have nC:New w wC:=(Keep.trans2 (D:=fun b=>b<w.heap.size) (Keep.of_new (HNR.out.new (HP.out.1.new HP.out.2.1))) (keep_blk kC) (fun b _ hb e=>by have:=(HP.out.2.2.1 b e.symm).1;omega)).toNew (fun b hb=>hb)
   have HWC:Hid (WishIn wC (fun b=>b<w.heap.size) y E cd K ck):=Lib.hid ((HWI.out.keep (HP.out.1.new HP.out.2.1) fun _ _ _=>trivial).keep (keep_blk kC) fun b _ hb e=>by have:=(HP.out.2.2.1 b e.symm).1;omega)
   have HC:=Lib.hid (And.intro nC (And.intro o9 hC))
   have HAL:Hid ((someOf ls (i+1)).all rightI=(ok&&rightI y)):=Lib.hid (by rw [HSU.out,List.all_append,HOK.out];simp)
   have hD:y.op.data.length≤1099511627776:=by have:=HSM.out.2.2.2;omega
   have HR:=Lib.hid (wright_any y E cd K ck wC HWC.out hD)
   unfold wishArr at HR
   have o9s:=HC.out.2.1
   rw [← HSU.out] at o9s
   have HO9:=Lib.hid o9s
   clear kC hbk nC o9 oB rB hy hbase hE o9s hD i0 z0 hi0 hz0 hs0 hb0 hzs0
   cases ok
   ·go_wp2_with fail
    go_roundw
    case rel=>exact ⟨i+1,A9,c9,rfl,by rw [HAL.out];rfl,rfl,HB.out.1,hi30,HC.out.1,HO9.out⟩
    case measure=>simp [intOf];omega
   ·have hC:=hC
    obtain ⟨d0,d1,d2,d3,d4,d5,d6,d7,d8,d9⟩:=cs10 hC
    have d10:=cellOf hC (k:=10) rfl
    have d11:=cellOf hC (k:=11) rfl
    have d12:=cellOf hC (k:=12) rfl
    clear hC
    go_wp2_with fail
    refine HR.out.mono ?_
    rintro e w5 ⟨rfl,k5⟩
    have HK5:=Lib.hid k5
    clear k5 HR d0 d1 d2 d3 d4 d5 d6 d7 d8 d9 d10 d11 d12
    go_wp2_with fail
    go_roundw
    case rel=>exact ⟨i+1,A9,c9,rfl,by rw [HAL.out];rfl,rfl,HB.out.1,hi30,HC.out.1.new HK5.out,HO9.out.new HK5.out⟩
    case measure=>simp [intOf];omega
  ·have HE:=Lib.hid (shenc_any (c:=c1) HO.out.sl hi30 (someOf_small ls i))
   have HXB:Hid (ok=true→∀ W,New wr W→Calls Tryz.prog 13 #[.slice A1 i c1] W fun e w'=>∃ A' m c',e=.returned (.slice A' m c')∧RowIn W w' A' m c' (wishesBytes (someOf ls i))):=Lib.hid fun h W k=>lbytes_any (c:=c1) (HO.out.sl.new k) hi30 (someOf_small ls i) (by rw [← HOK.out,h])
   have HNW:Hid (∀ W,New wr W→Calls Tryz.prog 10 #[] W fun e w'=>e=.returned (.bool true)∧New W w'):=Lib.hid fun W k=>known28_any W (HN.out.1.new (HNR.out.new k)) (tabIs_keep HN.out.2 (Keep.of_new (HNR.out.new k)))
   obtain ⟨bs,hbs⟩:∃ bs,bs=wishesBytes (someOf ls i):=⟨_,rfl⟩
   rw [← hbs] at HXB
   have HBS:=Lib.hid hbs
   clear hbs
   have hcond:((i:Int)<n∧¬ (i:Int)<30)∨¬ (i:Int)<n:=by omega
   rcases hcond with ⟨hli,hl3⟩|hli
   all_goals
    clear h2 hi hi30
    go_wp2_with fail
    clear hli
    try clear hl3
    refine HE.out.mono ?_
    rintro e w5 ⟨k5,⟨ha,A5,n5,c5,rfl,hc5,hB5⟩|⟨ha,rfl⟩⟩
    rotate_left
    ·have HK5:=Lib.hid k5
     obtain rfl:ok=false:=HOK.out.trans ha
     clear ha k5 HE
     go_wp2_with fail
     refine (HNW.out _ HK5.out).mono ?_
     rintro e w6 ⟨rfl,k6⟩
     have HK6:=Lib.hid k6
     clear k6
     go_wp2_with fail
     go_ret
     exact ⟨rfl,(HNR.out.new HK5.out).new HK6.out⟩
    ·have HK5:=Lib.hid k5
     obtain rfl:ok=true:=HOK.out.trans ha
     rw [← HBS.out] at hB5
     have HB5:=Lib.hid hB5
     clear ha k5 hB5 HE hc5
     go_upto_region 12 with fail
     have HB6:=Lib.hid (HXB.out trivial)
     obtain ⟨sb,hsb⟩:∃ sb,sb=strOf bs:=⟨_,rfl⟩
     have yb:∀ W,New w5 W→(convert 24 9 (.slice A5 n5 c5)).run Tryz.prog W=.ok (.string sb) W:=fun W k=>by rw [hsb];exact run_str (Row.new HB5.out k)
     have HSB:Hid (∀ W b A6 m6 c6,RowIn b W A6 m6 c6 bs→∀ W',New W W'→(convert 24 9 (.slice A6 m6 c6)).run Tryz.prog W'=.ok (.string sb) W'):=Lib.hid fun W b A6 m6 c6 h W' k=>by rw [hsb];exact run_str (Row.new h.2.2 k)
     clear hsb
     refine hold_begin (by kernel_rfl) ?_
     have n0:New w5 w5.drew:=(New.refl w5).drew
     replace yb:=fun W (hW:New w5.drew W)=>yb W (Keep.new n0 hW)
     refine take1 0 ?_
     refine take1 1 ?_
     refine take1 2 ?_
     refine take1 3 ?_
     refine take1 4 ?_
     refine take1 5 ?_
     refine hold_step (i:=6) (by kernel_rfl) rfl rfl (fun K hK=>?_)
     go_simp
     refine (HB6.out _ (HK5.out.new n0)).mono ?_
     rintro e w6 ⟨A6,m6,c6,rfl,hR⟩;have k6:=hR.1;have vr:=HSB.out w6 _ A6 m6 c6 hR;clear hR
     go_wp2_with fail
     refine hK.out _ _ k6 ?_
     clear hK K
     try simp only [Act.put,ly1,ly2,ly3,ly4,ly5,ly6]
     replace n0:=Keep.new n0 k6
     replace yb:=fun W (hW:New w6 W)=>yb W (Keep.new k6 hW)
     refine take1 7 ?_
     refine take1 8 ?_
     refine take1 9 ?_
     refine take1 10 ?_
     refine hold_step (i:=11) (by kernel_rfl) rfl rfl (fun K hK=>?_)
     go_simp
     refine (HNW.out _ (HK5.out.new n0)).mono ?_
     rintro e w7 ⟨rfl,k7⟩
     go_wp2_with fail
     refine hK.out _ _ k7 ?_
     clear hK K
     try simp only [Act.put,ly1,ly2,ly3,ly4,ly5,ly6]
     replace n0:=Keep.new n0 k7
     replace yb:=fun W (hW:New w7 W)=>yb W (Keep.new k7 hW)
     replace vr:=fun W (hW:New w7 W)=>vr W (Keep.new k7 hW)
     refine take1 12 ?_
     refine take1 13 ?_
     refine wpAnyH_done (by kernel_rfl) ?_ _
     have HK7:=Lib.hid n0
     clear n0 yb vr
     go_wp2_with fail
     go_ret
     exact ⟨rfl,(HNR.out.new HK5.out).new HK7.out⟩
end Go.Proofs.YtdodbdednpnddaaGreatDoor
namespace Go.Proofs.YtdodbdednpnddaaGreatDoor
open Go.ChangeShapes Go.WideShapes Go.ChangeAt Go.RowKit
def tab8 (l:List Int):Array Value:=(l.map (Value.int .u8)).toArray
def tab32:Array Value:=tab8 [0,1,28,2,29,14,24,3,30,22,20,15,25,17,4,8,31,27,13,23,21,19,16,7,26,12,18,6,11,5,10,9]
def tab64:Array Value:=tab8 [0,1,56,2,57,49,28,3,61,58,42,50,38,29,17,4,62,47,59,36,45,43,51,22,53,39,33,30,24,18,12,5,63,55,48,27,60,41,37,16,46,35,44,21,52,32,23,11,54,26,40,15,34,20,31,10,25,14,19,9,13,8,7,6]
def tabPow:Array Value:=(Lib.pow10Tab.map (Value.int .u64)).toArray
noncomputable def laidWorld28 (os:Os):World :=
 { World.holding Tryz.prog os ⟨#[],#[],[]⟩ with heap:=(((((World.holding Tryz.prog os ⟨#[],#[],[]⟩).heap.modify 3 (withCells firstCells)).modify 4 (withCells rangeCells)).modify 1 (withCells tab32)).modify 2 (withCells tab64)).modify 0 (withCells tabPow) }
end Go.Proofs.YtdodbdednpnddaaGreatDoor
