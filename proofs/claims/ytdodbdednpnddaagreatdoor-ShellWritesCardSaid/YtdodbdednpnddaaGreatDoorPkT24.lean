/-
  PROVED HERE: texts that belong together, one behind the other; what each proves, and under which conditions, its own opening remark says: LogMem, Log, LogLaw, LogLaw2, LogSeal, CloneRecs, LogOpenD, Image21, Ord22, MapIs22, Tree22, Fresh22, Rules22, TreeInv22, TreeOps22, Shelf22.
-/
import Derived.Maps.Keyed
import Derived.StringKeys
import Derived.Sort.KeysCollected
import Derived.Lib.SlKeysI
import Derived.Shelf.SlIterI.Nil
import Derived.Shelf.SlIter.Nil
import Derived.Shelf.SortM.Plain
import Derived.Shelf.SortM.SortNone
import Derived.Shelf.SlMaps.Clone
import Derived.Shelf.SlMaps.DeleteFunc
import Derived.Test.YtdodbdednpnddaaGreatDoorPkT17
import Derived.Test.YtdodbdednpnddaaGreatDoorPkT23
set_option maxRecDepth 100000
namespace Go.Proofs.YtdodbdednpnddaaGreatDoor
open Go.RowKit
def DiskOf (q:DiskB):Nat→Prop:=fun b=>b≠q.bd∧b≠q.bs∧b≠q.bm
def Clean (w:World) (q:DiskB) (S:List UInt8):Prop:=∃ wr,DiskAt w (DiskOf q) q S Dirt.no 0 wr
theorem diskOf_not {q:DiskB}{b:Nat}(h:b=q.bd∨b=q.bs∨b=q.bm):¬ DiskOf q b:=fun hd=>by
 rcases h with rfl|rfl|rfl
 ·exact hd.1 rfl
 ·exact hd.2.1 rfl
 ·exact hd.2.2 rfl
section
variable {w w':World}{F:Nat→Prop}{q:DiskB}{S:List UInt8}
theorem Clean.keep (h:Clean w q S) (hk:Keep F w w') (hq:∀ b,b=q.bd∨b=q.bs∨b=q.bm→F b):Clean w' q S:=by
 obtain ⟨wr,h⟩:=h
 exact ⟨wr,((h.swap (F:=fun _=>False) (fun _ _ h=>h)).keep hk hq (fun _ _ h=>h.elim)).swap fun b hb=>diskOf_not hb⟩
theorem Clean.new (h:Clean w q S) (hk:New w w'):Clean w' q S:=h.keep hk fun _ _=>trivial
theorem Clean.of {D:Nat→Prop}{wr:Int}(h:DiskAt w D q S Dirt.no 0 wr):Clean w q S:=⟨wr,h.swap fun _b hb=>diskOf_not hb⟩
theorem Clean.lt (h:Clean w q S):∀ b,b=q.bd∨b=q.bs∨b=q.bm→b<w.heap.size:=by obtain ⟨wr,h⟩:=h;exact h.lt
theorem Clean.beyond (h:Clean w q S):∀ b,w.heap.size≤b→DiskOf q b:=fun b hb=>by
 have h1:=h.lt q.bd (.inl rfl)
 have h2:=h.lt q.bs (.inr (.inl rfl))
 have h3:=h.lt q.bm (.inr (.inr rfl))
 exact ⟨by omega,by omega,by omega⟩
theorem Clean.size (h:Clean w q S):∃ k,S.length=k*128∧64≤k∧k≤4096:=by obtain ⟨wr,h⟩:=h;exact h.size
end
def placeAt (p i:Nat):Nat:=(1+2*p+i*8)*128
def placeOf (S:List UInt8) (p i:Nat):List UInt8:=(S.drop (placeAt p i)).take 1024
theorem sector_no (S:List UInt8) (i:Nat):sectorOf S Dirt.no i=(S.drop (i*128)).take 128:=rfl
theorem take_sector (S:List UInt8) (f j:Nat):(S.drop (f*128)).take (j*128)++sectorOf S Dirt.no (f+j)=(S.drop (f*128)).take ((j+1)*128):=by
 rw [sector_no,show (j+1)*128=j*128+128 from by omega,List.take_add,List.drop_drop,show f*128+j*128=(f+j)*128 from by omega]
structure LogV where
 s:Nat
 p:Nat
 g:Nat
 sealed:Nat
 next:Int
 head:List UInt8
 waits:List RecP
structure LogAt (w:World) (D:Nat→Prop) (base bl bd:Nat) (v:LogV) (A:Option Addr) (c:Nat):Prop where
 cells:∃ H hc,w.heap[bl]?=some (.cells #[.pointer (some ⟨bd,0,none⟩),.int .i64 v.s,.int .i64 v.p,.int .i64 v.g,.int .i64 v.sealed,.slice H 32 hc,.int .u64 v.next,.slice A v.waits.length c] 197 (0,0))∧32≤hc∧Bs w (fun b=>D b∧some b≠blk A) H 32 v.head
 waits:OwnSl 188 recElt w base D A v.waits.length c v.waits
 next0:0≤v.next
 next1:v.next≤1099511627776+65536*(v.sealed:Int)
 few:v.waits.length≤100∧v.sealed≤v.g∧v.g≤1000
 out:¬ D bl
 apart:blk A≠some bl
section
variable {w w':World}{D F:Nat→Prop}{base bl bd:Nat}{v:LogV}{A:Option Addr}{c:Nat}
theorem LogAt.keep (h:LogAt w D base bl bd v A c) (hk:Keep F w w') (hl:F bl) (hA:∀ k,blk A=some k→F k) (hD:∀ b,D b→F b):LogAt w' D base bl bd v A c:=by
 obtain ⟨H,hc,h1,h2,h3⟩:=h.cells
 exact ⟨⟨H,hc,(hk.block bl (Array.getElem?_eq_some_iff.1 h1).1 hl).trans h1,h2,h3.keep hk fun b _ hb=>hD b hb.1⟩,h.waits.keepE hk hA hD,h.next0,h.next1,h.few,h.out,h.apart⟩
theorem LogAt.new (h:LogAt w D base bl bd v A c) (hk:New w w'):LogAt w' D base bl bd v A c:=h.keep hk trivial (fun _ _=>trivial) (fun _ _=>trivial)
theorem LogAt.lt (h:LogAt w D base bl bd v A c):bl<w.heap.size:=by obtain ⟨H,hc,h1,_⟩:=h.cells;exact (Array.getElem?_eq_some_iff.1 h1).1
theorem LogAt.rowLt (h:LogAt w D base bl bd v A c):∀ k,blk A=some k→base≤k∧k<w.heap.size:=h.waits.lt
theorem LogAt.imp (h:LogAt w D base bl bd v A c) (hF:∀ b,b<w.heap.size→D b→F b) (hl:¬ F bl):LogAt w F base bl bd v A c:=by
 obtain ⟨H,hc,h1,h2,h3⟩:=h.cells
 obtain ⟨vs,r1,r2,r3⟩:=h.waits
 exact ⟨⟨H,hc,h1,h2,h3.imp fun b hb hd=>⟨hF b hb hd.1,hd.2⟩⟩,⟨vs,r1,r2,fun k hk=>recElt.imp (r3 k hk) fun b hb hd=>⟨hF b hb hd.1,hd.2⟩⟩,h.next0,h.next1,h.few,hl,h.apart⟩
end
section
variable {w:World}{D:Nat→Prop}{base bl bd:Nat}{v:LogV}{A:Option Addr}{c:Nat}
theorem next21_any (h:LogAt w D base bl bd v A c):Calls Tryz.prog 131 #[.pointer (some ⟨bl,0,none⟩)] w fun e w'=>e=.returned (.int .u64 (v.next+v.waits.length))∧New w w':=by
 obtain ⟨H,hc,hb,_⟩:=h.cells
 have c6:w.cell? ⟨bl,6,none⟩=some (.int .u64 v.next):=cellOf hb rfl
 have c7:w.cell? ⟨bl,7,none⟩=some (.slice A v.waits.length c):=cellOf hb rfl
 have h0:=h.next0
 have h1:=h.next1
 obtain ⟨hf,hf1,hf2⟩:=h.few
 generalize v.next=nx at *
 generalize v.waits.length=n at *
 clear h hb
 have hw:IntKind.u64.wrap (n:Int)=(n:Int):=by rw [IntKind.wrap_u64];omega
 have hw2:IntKind.u64.wrap (nx+(n:Int))=nx+(n:Int):=by rw [IntKind.wrap_u64];omega
 go_enter Tryz.func131,Tryz.ntmps131
 go_upto_region 1 with fail
 go_quiet (fail)
 rename_i nq
 go_wp2_with fail
 go_ret
 exact ⟨rfl,(New.refl _).drewN _⟩
theorem sealed21_any (h:LogAt w D base bl bd v A c):Calls Tryz.prog 163 #[.pointer (some ⟨bl,0,none⟩)] w fun e w'=>e=.returned (.int .i64 v.sealed)∧New w w':=by
 obtain ⟨H,hc,hb,_⟩:=h.cells
 have c4:w.cell? ⟨bl,4,none⟩=some (.int .i64 v.sealed):=cellOf hb rfl
 clear h hb
 go_enter Tryz.func163,Tryz.ntmps163
 go_wp2_with fail
 go_ret
 exact ⟨rfl,New.refl _⟩
theorem head21_any (h:LogAt w D base bl bd v A c):Calls Tryz.prog 101 #[.pointer (some ⟨bl,0,none⟩)] w fun e w'=>(∃ A' c',e=.returned (.slice A' 32 c')∧OwnB w' w.heap.size 5 A' 32 c' v.head)∧New w w':=by
 obtain ⟨H,hc,hb,_,hB⟩:=h.cells
 have c5:w.cell? ⟨bl,5,none⟩=some (.slice H 32 hc):=cellOf hb rfl
 have HC:=Lib.hid (clone_bytes _ H 32 hc v.head w hB (by decide))
 clear h hb hB
 go_enter Tryz.func101,Tryz.ntmps101
 go_wp2_with fail
 refine HC.out.mono ?_
 rintro e w' ⟨⟨A',c',rfl,ho⟩,hk⟩
 go_wp2_with fail
 go_ret
 exact ⟨⟨A',c',rfl,ho⟩,hk⟩
theorem room21_any (h:LogAt w D base bl bd v A c):Calls Tryz.prog 192 #[.pointer (some ⟨bl,0,none⟩)] w fun e w'=>e=.returned (.int .i64 ((v.g:Int)-(v.sealed:Int)))∧New w w':=by
 obtain ⟨H,hc,hb,_⟩:=h.cells
 have c3:w.cell? ⟨bl,3,none⟩=some (.int .i64 v.g):=cellOf hb rfl
 have c4:w.cell? ⟨bl,4,none⟩=some (.int .i64 v.sealed):=cellOf hb rfl
 obtain ⟨_,hf1,hf2⟩:=h.few
 have hw:IntKind.i64.wrap ((v.g:Int)-(v.sealed:Int))=(v.g:Int)-(v.sealed:Int):=IntWalk.i64_in _ (by omega)
 clear h hb
 go_enter Tryz.func192,Tryz.ntmps192
 go_upto_region 1 with fail
 go_quiet (fail)
 rename_i nq
 go_wp2_with fail
 go_ret
 exact ⟨rfl,(New.refl _).drewN _⟩
theorem did_any (h:LogAt w D base bl bd v A c) (hd:HeadP) (P R:Option Addr) (pc rc:Nat){D2 D3:Nat→Prop}(hP:Bs w D2 P hd.prev.length hd.prev) (hpc:hd.prev.length≤pc) (hR:Bs w D3 R hd.root.length hd.root) (hrc:hd.root.length≤rc)
  (hD2:∀ b,D2 b→b≠bl) (hD3:∀ b,D3 b→b≠bl) (hf0:hd.first=v.next) (hc0:0≤hd.count) (hc1:hd.count≤65535) (hs:v.sealed<v.g):
  Calls Tryz.prog 195 #[.pointer (some ⟨bl,0,none⟩),.agg #[.int .i64 hd.index,.int .u64 hd.first,.int .i64 hd.count,.int .i64 hd.bytes,.slice P hd.prev.length pc,.slice R hd.root.length rc]] w fun e w' =>
   e=.returned (.tuple #[])∧Keep (fun j=>j≠bl) w w'∧LogAt w' (fun b=>D b∨w.heap.size≤b) base bl bd ⟨v.s,v.p,v.g,v.sealed+1,hd.first+hd.count,sealOf hd,v.waits⟩ A c:=by
 have HH:=Lib.hid h
 obtain ⟨H,hc,hb,h32,hB⟩:=h.cells
 have hnx0:=h.next0
 have hnx1:=h.next1
 obtain ⟨_,hfe1,hfe2⟩:=h.few
 have hblt:=h.lt
 have hw1:IntKind.i64.wrap ((v.sealed:Int)+1)=(v.sealed:Int)+1:=IntWalk.i64_in _ (by omega)
 have hw2:IntKind.u64.wrap hd.count=hd.count:=by rw [IntKind.wrap_u64];omega
 have hw3:IntKind.u64.wrap (hd.first+hd.count)=hd.first+hd.count:=by rw [IntKind.wrap_u64];omega
 have HSE:=fun W (hW:Keep (fun j=>j≠bl) w W)=>Lib.hid (seal_any D2 D3 P R _ pc _ rc hd W (hP.keep hW fun b _ hb=>hD2 b hb) hpc (hR.keep hW fun b _ hb=>hD3 b hb) hrc (by omega) (by omega))
 obtain ⟨n,hn⟩:∃ n,n=v.waits.length:=⟨_,rfl⟩
 rw [← hn] at hb
 replace hn:=Lib.hid hn
 have k1:New w (w.alloc (.cells #[.int .i64 hd.index,.int .u64 hd.first,.int .i64 hd.count,.int .i64 hd.bytes,.slice P hd.prev.length pc,.slice R hd.root.length rc] 264)):=(New.refl w).alloc _
 have x1:=heap_alloc_new w (.cells #[.int .i64 hd.index,.int .u64 hd.first,.int .i64 hd.count,.int .i64 hd.bytes,.slice P hd.prev.length pc,.slice R hd.root.length rc] 264)
 have hb1:=k1.blockAt hb trivial
 replace hf0:=Lib.hid hf0
 have hfl:hd.first≤1099511627776+65536*(v.sealed:Int):=by have:=hf0.out;omega
 have hfg:0≤hd.first:=by have:=hf0.out;omega
 clear h hP hR hB hD2 hD3
 go_enter Tryz.func195,Tryz.ntmps195
 go_upto_region 1 with fail
 generalize w.alloc (.cells #[.int .i64 hd.index,.int .u64 hd.first,.int .i64 hd.count,.int .i64 hd.bytes,.slice P hd.prev.length pc,.slice R hd.root.length rc] 264)=w1 at *
 have c4:w1.cell? ⟨bl,4,none⟩=some (.int .i64 v.sealed):=cellOf hb1 rfl
 have f4:=frozenOf hb1 4
 go_upto_region 2 with fail
 have hb2:=setCell_block hb1 4 (.int .i64 ((v.sealed:Int)+1))
 have q2:Keep (fun j=>j≠bl) w1 (w1.setCell ⟨bl,4,none⟩ (.int .i64 ((v.sealed:Int)+1))):=(Keep.refl _ w1).setCell (p:=⟨bl,4,none⟩) (fun hd=>absurd rfl hd) _
 have hgb:w.heap.size≠bl:=by omega
 have x2:=q2.blockAt x1 hgb
 have q2:Keep (fun j=>j≠bl) w _:=(Keep.of_new k1).trans q2
 clear c4 f4 hb1 x1 k1
 generalize w1.setCell ⟨bl,4,none⟩ (.int .i64 ((v.sealed:Int)+1))=w2 at *
 generalize hgz:w.heap.size=gb at *
 obtain ⟨y0,y1,y2,y3,y4,y5⟩:=cs6 x2
 go_wp2_with fail
 refine (HSE w2 q2).out.mono ?_
 rintro e w3 ⟨⟨A',c',rfl,o3⟩,k3⟩
 clear y0 y1 y2 y3 y4 y5 HSE
 have hb3:=k3.blockAt hb2 trivial
 have x3:=k3.blockAt x2 trivial
 have f5:=frozenOf hb3 5
 have c5:=cellOf hb3 (k:=5) rfl
 go_upto_region 3 with fail
 have hb4:=setCell_block hb3 5 (.slice A' 32 c')
 have q4:Keep (fun j=>j≠bl) w3 (w3.setCell ⟨bl,5,none⟩ (.slice A' 32 c')):=(Keep.refl _ w3).setCell (p:=⟨bl,5,none⟩) (fun hd=>absurd rfl hd) _
 have x4:=q4.blockAt x3 hgb
 have hz2:gb<w2.heap.size:=(Array.getElem?_eq_some_iff.1 x2).1
 have hb4':Bs _ (fun b=>w2.heap.size≤b) A' 32 (sealOf hd):=(Row.of_own o3).keep q4 (fun b _ hb=>by omega)
 have hc32:=own_cap o3
 have q4:=(q2.new k3).trans q4
 clear f5 c5 hb3 x3 x2 hb2 q2 k3 o3
 generalize w3.setCell ⟨bl,5,none⟩ (.slice A' 32 c')=w4 at *
 have y1:=cellOf x4 (k:=1) rfl
 have y2:=cellOf x4 (k:=2) rfl
 have f6:=frozenOf hb4 6
 have c6:=cellOf hb4 (k:=6) rfl
 go_wp2_with fail
 go_end0
 have hb6:=setCell_block hb4 6 (.int .u64 (hd.first+hd.count))
 have q6:Keep (fun j=>j≠bl) w4 (w4.setCell ⟨bl,6,none⟩ (.int .u64 (hd.first+hd.count))):=(Keep.refl _ w4).setCell (p:=⟨bl,6,none⟩) (fun hd=>absurd rfl hd) _
 have q7:=q4.trans q6
 have h:=HH.out
 have hlo:=h.rowLt
 refine ⟨rfl,q7,⟨A',c',?_,hc32,?_⟩,?_,?_,?_,?_,?_,h.apart⟩
 ·rw [hn.out] at hb6
  exact hb6
 ·exact (hb4'.keep q6 (fun b _ hb=>by omega)).imp fun b _ hb=>⟨.inr (by omega),fun e=>by have:=(hlo b e.symm).2;omega⟩
 ·exact (h.waits.keepE q7 (fun k hk e=>h.apart (by rw [hk,e])) (fun b hb e=>h.out (e▸hb))).imp fun b _ hb=>.inl hb
 ·dsimp only;omega
 ·dsimp only;omega
 ·exact ⟨h.few.1,hs,h.few.2.2⟩
 ·exact fun hd=>hd.elim h.out (fun h=>by omega)
end
theorem place_any {w:World}{q:DiskB}{S:List UInt8}{k p g i:Nat}(h:Clean w q S) (hk:S.length=k*128) (hp:planRight k p g=true) (hi:i<g):
  Calls Tryz.prog 167 #[.pointer (some ⟨q.bd,0,none⟩),.agg #[.int .i64 k,.int .i64 p,.int .i64 g],.int .i64 i] w fun e w'=>(∃ A' c',e=.returned (.slice A' 1024 c')∧OwnB w' w.heap.size 5 A' 1024 c' (placeOf S p i))∧New w w':=by
 have hfit:=layPlan hp hi
 have HSG:=fun W=>Lib.hid (segment21_any k p g i (by omega) W)
 rw [laySeg hp hi] at HSG
 dsimp only at HSG
 have HO:Hid (placeOf S p i=(S.drop ((1+2*p+i*8)*128)).take (8*128)):=Lib.hid rfl
 generalize placeOf S p i=out at *
 generalize hfe:1+2*p+i*8=f at *
 clear hfe hp hi
 obtain ⟨wr0,hd⟩:=h
 have HD:=fun W (hW:New w W) (j:Nat) (hj:j<8)=>Lib.hid (dread_any (hd.new hW) hk (f+j) (by omega))
 have kA:New w (w.alloc (.cells #[.int .i64 k,.int .i64 p,.int .i64 g] 33)):=(New.refl w).alloc _
 obtain ⟨x0,x1,x2⟩:=cs3 (heap_alloc_new w (.cells #[.int .i64 k,.int .i64 p,.int .i64 g] 33))
 clear hd hk
 go_enter Tryz.func167,Tryz.ntmps167
 go_wp2_with fail
 refine (HSG _).out.mono ?_
 rintro e w1 ⟨rfl,k1⟩
 have K1:=kA.new k1
 clear x0 x1 x2 kA k1 HSG
 go_wp2_with fail
 go_loopw [9,10] (fun o i wx=>∃ (j m:Nat) (A':Option Addr) (c':Nat),j≤8∧m=j*128∧o=.slice A' m c'∧i=.int .i64 (j:Int)∧OwnB wx w.heap.size 5 A' m c' ((S.drop (f*128)).take (j*128))∧New w wx) (fun _ i _=>8-(intOf i).toNat)
 case atStart=>exact ⟨0,0,none,0,Nat.zero_le _,rfl,rfl,rfl,Own.nil _ _ _ _,K1⟩
 case round =>
  obtain ⟨j,m,A',c',hj8,hm,rfl,rfl,ho,hK⟩:=hrel
  have HOW:=Lib.hid ho
  have HK:=Lib.hid hK
  have HM:=Lib.hid hm
  clear ho hK hm
  by_cases hlt:j<8
  ·have hjl:(j:Int)<8:=by omega
   have HR:=HD wr HK.out j hlt
   have hw:IntKind.i64.wrap ((f:Int)+(j:Int))=(f:Int)+(j:Int):=IntWalk.i64_in _ (by omega)
   have hw2:IntKind.i64.wrap ((j:Int)+1)=(j:Int)+1:=IntWalk.i64_in _ (by omega)
   go_wp2_with fail
   refine HR.out.mono ?_
   rintro e w2 ⟨⟨A2,c2,rfl,o2⟩,k2⟩
   have ho:=own_keep HOW.out k2 (fun _ _=>trivial)
   have hr:=Row.of_own o2
   have hb:m+128≤140737488355328:=by have:=HM.out;omega
   have hz:w.heap.size≤w2.heap.size:=(HK.out.new k2).size
   clear o2
   go_wp2_with (at_builtin;refine app_bytes _ rfl _ _ rfl w.heap.size A' m c' _ rfl ho _ A2 128 c2 _ rfl hr hb hz ?_;intro A4 c4 w4 o4 hg4 hbk4)
   rw [take_sector] at o4
   go_roundw
   case rel=>exact ⟨j+1,m+128,A4,c4,by omega,by have:=HM.out;omega,by go_num,by go_num,o4,(HK.out.new k2).grown hg4 (fun b hb _=>(own_lt ho b hb).1)⟩
   case measure=>simp [intOf];omega
  ·obtain rfl:j=8:=by omega
   obtain rfl:m=1024:=HM.out
   go_wp2_with fail
   go_ret
   rw [HO.out]
   exact ⟨⟨A',c',rfl,HOW.out⟩,HK.out⟩
theorem no_nought (b:List UInt8) (h:b.take 16=List.replicate 16 0):(segRead b).2.2≠0:=by
 unfold segRead
 split
 ·decide
 rename_i hl
 split
 ·simp
 have hh:(headOf b).count=0:=by
  have e:b=List.replicate 16 0++b.drop 16:=by rw [← h,List.take_append_drop]
  rw [e]
  rfl
 rw [if_pos (.inl hh)]
 simp
structure LogS where
 segs:List (List RecP)
 waits:List RecP
def waitBytes (rs:List RecP):Nat:=(leavesOf rs).flatten.length
theorem wait_many:∀ {rs:List RecP},(∀ r∈rs,recRight r=true∧0≤r.seq)→15*rs.length≤waitBytes rs
 | [],_=>Nat.zero_le _
 | r::rs,h=>by
  have h1:=(h r (by simp)).1
  have:=wait_many (rs:=rs) fun x hx=>h x (by simp [hx])
  unfold waitBytes at *
  rw [leavesOf_cons h1,List.flatten_cons,List.length_append,recEnc_len h1,List.length_cons]
  omega
theorem waitBytes_snoc (rs:List RecP){r:RecP}(h:recRight r=true):waitBytes (rs++[r])=waitBytes rs+recSize r:=by
 unfold waitBytes leavesOf
 rw [List.map_append,List.flatten_append,List.length_append]
 simp [h,recEnc_size r h]
theorem splice_length {S b:List UInt8}{off:Nat}(h:off+b.length≤S.length):(splice S off b).length=S.length:=by
 unfold splice
 rw [List.length_append,List.length_append,List.length_take,List.length_drop]
 omega
def foundIn (S:List UInt8) (p:Nat):Nat→Nat→Int→List UInt8→List (HeadP×List RecP)
 | 0,_,_,_=>[]
 | n+1,i,next,head =>
  if (segRead (placeOf S p i)).2.2=0∧(segRead (placeOf S p i)).1.index=i∧(segRead (placeOf S p i)).1.first=next∧(segRead (placeOf S p i)).1.prev=head then
   ((segRead (placeOf S p i)).1,(segRead (placeOf S p i)).2.1)::foundIn S p n (i+1) ((segRead (placeOf S p i)).1.first+(segRead (placeOf S p i)).1.count) (sealOf (segRead (placeOf S p i)).1)
  else []
theorem SegFine.build {index first:Int}{prev:List UInt8}{rs:List RecP}(h:SegFine index first prev rs):buildOf index first prev rs=(segBytes index first prev rs,0):=by
 have h1:buildArgs index first prev.length rs=true:=decide_eq_true ⟨h.i0,h.i1,h.f1,h.prev,h.any,fits_right (fun r hr=>(h.right r hr).1) h.room⟩
 have h2:seqsFrom first rs=true:=(seqsFrom_iff _ _).2 h.seqs
 unfold buildOf
 rw [h1,h2,if_neg (by simp),if_neg (by simp)]
structure LogOn (w:World) (D:Nat→Prop) (base bl:Nat) (q:DiskB) (v:LogV) (A:Option Addr) (c:Nat) (S:List UInt8):Prop where
 log:LogAt w D base bl q.bd v A c
 disk:Clean w q S
 size:S.length=v.s*128
 plan:planRight v.s v.p v.g=true
 apart:DiskOf q bl
 row:∀ k,blk A=some k→DiskOf q k
 data:∀ b,D b→DiskOf q b
section
variable {w w':World}{D F:Nat→Prop}{base bl:Nat}{q:DiskB}{v:LogV}{A:Option Addr}{c:Nat}{S:List UInt8}
theorem LogOn.new (h:LogOn w D base bl q v A c S) (hk:New w w'):LogOn w' D base bl q v A c S:=⟨h.log.new hk,h.disk.new hk,h.size,h.plan,h.apart,h.row,h.data⟩
theorem LogOn.keep (h:LogOn w D base bl q v A c S) (hk:Keep F w w') (hl:F bl) (hA:∀ k,blk A=some k→F k) (hD:∀ b,D b→F b) (hq:∀ b,b=q.bd∨b=q.bs∨b=q.bm→F b):LogOn w' D base bl q v A c S :=
 ⟨h.log.keep hk hl hA hD,h.disk.keep hk hq,h.size,h.plan,h.apart,h.row,h.data⟩
end
def LogV.shut (v:LogV):LogV:=if v.waits.length=0 then v else ⟨v.s,v.p,v.g,v.sealed+1,v.next+(v.waits.length:Int),sealOf (chainHead v.sealed v.next v.head v.waits),[]⟩
def LogV.disk (v:LogV) (S:List UInt8):List UInt8:=if v.waits.length=0 then S else splice S (placeAt v.p v.sealed) (segBytes v.sealed v.next v.head v.waits)
theorem lseal_any {w:World}{D:Nat→Prop}{base bl:Nat}{q:DiskB}{v:LogV}{A:Option Addr}{c:Nat}{S:List UInt8}(h:LogOn w D base bl q v A c S)
  (hfine:v.waits.length≠0→SegFine v.sealed v.next v.head v.waits∧v.sealed<v.g):
  Calls Tryz.prog 134 #[.pointer (some ⟨bl,0,none⟩)] w fun e w'=>e=.returned (.int .i64 0)∧Keep (fun j=>j≠bl∧DiskOf q j) w w' ∧
   ∃ A' c',LogOn w' (fun b=>D b∨w.heap.size≤b) base bl q v.shut A' c' (v.disk S)∧(A'=A∨A'=none):=by
 have HH:=Lib.hid h
 have hlb:=h.log.lt
 obtain ⟨H,hc,hb,h32,hB⟩:=h.log.cells
 by_cases hz:v.waits.length=0
 ·have c7:w.cell? ⟨bl,7,none⟩=some (.slice A v.waits.length c):=cellOf hb rfl
  rw [hz] at c7
  have hvs:Hid (v.shut=v∧v.disk S=S):=Lib.hid ⟨if_pos hz,if_pos hz⟩
  clear h hb hB hfine hz
  go_enter Tryz.func134,Tryz.ntmps134
  go_wp2_with fail
  go_ret
  refine ⟨rfl,Keep.refl _ _,A,c,?_,.inl rfl⟩
  rw [hvs.out.1,hvs.out.2]
  exact ⟨HH.out.log.imp (fun b _ hd=>.inl hd) (fun hd=>hd.elim HH.out.log.out (fun h=>by omega)),HH.out.disk,HH.out.size,HH.out.plan,HH.out.apart,HH.out.row,fun b hb=>hb.elim (HH.out.data b) (HH.out.disk.beyond b)⟩
 ·obtain ⟨hf,hsg⟩:=hfine hz
  have hvs:Hid (v.shut=⟨v.s,v.p,v.g,v.sealed+1,v.next+(v.waits.length:Int),sealOf (chainHead v.sealed v.next v.head v.waits),[]⟩∧v.disk S=splice S (placeAt v.p v.sealed) (segBytes v.sealed v.next v.head v.waits)):=Lib.hid ⟨if_neg hz,if_neg hz⟩
  generalize v.shut=vz at *
  generalize v.disk S=Sz at *
  have hBD:=fun W (hW:New w W)=>build_any (fun b=>D b∧some b≠blk A) (fun b=>base≤b∨D b) (v.sealed:Int) v.next H A hc v.waits.length c v.head v.waits W (by rw [hf.prev];exact hB.new hW) (by rw [hf.prev];exact h32) (recs_sl.2 (h.log.waits.sl.new hW)) (by have:=h.log.few.1;omega) h.log.next0
  rw [hf.build,hf.prev] at hBD
  have HBD:=Lib.hid hBD
  have hbl0:=segBytes_length v.sealed v.next v.head v.waits hf.prev hf.room
  have hrd:segRead (segBytes v.sealed v.next v.head v.waits)=(chainHead v.sealed v.next v.head v.waits,v.waits,0):=hf.read
  have hchf:(chainHead v.sealed v.next v.head v.waits).first=v.next:=rfl
  have hchc:(chainHead v.sealed v.next v.head v.waits).count=(v.waits.length:Int):=rfl
  have HF:=Lib.hid hf
  obtain ⟨n,hn⟩:∃ n,n=v.waits.length:=⟨_,rfl⟩
  have hn100:n≤100:=by rw [hn];exact h.log.few.1
  rw [← hn] at hb hz hBD HBD
  have hz':((n:Int)==0)=false:=by simp;omega
  have y:∀ W,Keep (DiskOf q) w W→W.heap[bl]?=some (.cells #[.pointer (some ⟨q.bd,0,none⟩),.int .i64 v.s,.int .i64 v.p,.int .i64 v.g,.int .i64 v.sealed,.slice H 32 hc,.int .u64 v.next,.slice A n c] 197 (0,0)):=fun W hW=>(hW.block bl hlb h.apart).trans hb
  have y0:=fun W hW=>cellOf (k:=0) (y W hW) rfl
  have y1:=fun W hW=>cellOf (k:=1) (y W hW) rfl
  have y2:=fun W hW=>cellOf (k:=2) (y W hW) rfl
  have y3:=fun W hW=>cellOf (k:=3) (y W hW) rfl
  have y4:=fun W hW=>cellOf (k:=4) (y W hW) rfl
  have y5:=fun W hW=>cellOf (k:=5) (y W hW) rfl
  have y6:=fun W hW=>cellOf (k:=6) (y W hW) rfl
  have y7:=fun W hW=>cellOf (k:=7) (y W hW) rfl
  have c7:=y7 w (Keep.refl _ _)
  have z4:=fun W (hW:New w W)=>y4 W (Keep.of_new hW)
  have z5:=fun W (hW:New w W)=>y5 W (Keep.of_new hW)
  have z6:=fun W (hW:New w W)=>y6 W (Keep.of_new hW)
  have z7:=fun W (hW:New w W)=>y7 W (Keep.of_new hW)
  have HY:=Lib.hid (And.intro y (And.intro y0 (And.intro y1 (And.intro y2 (And.intro y3 y4)))))
  generalize segBytes (v.sealed:Int) v.next v.head v.waits=bb at *
  generalize chainHead v.sealed v.next v.head v.waits=ch at *
  rw [← hn] at hchc
  have HCH:=Lib.hid (And.intro hchf hchc)
  clear hchf hchc
  have HFIT:=Lib.hid (layPlan h.plan hsg)
  replace hn:=Lib.hid hn
  clear h hb hB hfine hz y y0 y1 y2 y3 y4 y5 y6 y7 hBD hf
  go_enter Tryz.func134,Tryz.ntmps134
  go_upto_region 3 with fail
  clear c7
  refine hold_begin (by kernel_rfl) ?_
  have n0:New w w.drew:=(New.refl w).drew
  replace z4:=fun W (hW:New w.drew W)=>z4 W (Keep.new n0 hW)
  replace z5:=fun W (hW:New w.drew W)=>z5 W (Keep.new n0 hW)
  replace z6:=fun W (hW:New w.drew W)=>z6 W (Keep.new n0 hW)
  replace z7:=fun W (hW:New w.drew W)=>z7 W (Keep.new n0 hW)
  refine take1 0 ?_
  refine take1 1 ?_
  refine take1 2 ?_
  refine take1 3 ?_
  refine take1 4 ?_
  refine take1 5 ?_
  refine take1 6 ?_
  refine take1 7 ?_
  refine take1 8 ?_
  refine take1 9 ?_
  refine take1 10 ?_
  refine take1 11 ?_
  refine take1 12 ?_
  refine take1 13 ?_
  refine take1 14 ?_
  refine take1 15 ?_
  refine hold_step (i:=16) (by kernel_rfl) rfl rfl (fun K hK=>?_)
  go_simp
  refine (HBD.out _ n0).mono ?_
  rintro e w2 ⟨⟨A2,c2,rfl,o2⟩,k2⟩;dsimp only at o2 ⊢;rw [hbl0] at o2 ⊢
  go_wp2_with fail
  refine hK.out _ _ k2 ?_
  clear hK K
  try simp only [Act.put,ly1,ly2,ly3,ly4,ly5,ly6]
  replace n0:=Keep.new n0 k2
  replace z4:=fun W (hW:New w2 W)=>z4 W (Keep.new k2 hW)
  replace z5:=fun W (hW:New w2 W)=>z5 W (Keep.new k2 hW)
  replace z6:=fun W (hW:New w2 W)=>z6 W (Keep.new k2 hW)
  replace z7:=fun W (hW:New w2 W)=>z7 W (Keep.new k2 hW)
  refine take1 17 ?_
  refine take1 18 ?_
  refine take1 19 ?_
  refine take1 20 ?_
  refine take1 21 ?_
  refine wpAnyH_done (by kernel_rfl) ?_ _
  clear z4 z5 z6 z7
  have K2:New w w2:=n0
  have hfrm:=o2.form (by decide)
  obtain ⟨g2,cg2,hA2,hg2,hg2l⟩:=hfrm
  have hA3:A2=some ⟨g2,0,none⟩:=by injection hA2
  clear hA2
  subst hA3
  have hB2:Bs w2 (fun b=>w.heap.size≤b) (some ⟨g2,0,none⟩) 1024 bb:=Row.of_own o2
  have hc2:1024≤c2∧c2≤9223372036854775807:=⟨own_cap o2,own_capMax o2⟩
  have HBE:Hid (∀ j,w.heap.size≤j→j≠q.bd∧j≠q.bs∧j≠q.bm):=Lib.hid fun j hj=>HH.out.disk.beyond j hj
  have HLY:Hid (Calls Tryz.prog 169 #[.pointer (some ⟨q.bd,0,none⟩),.agg #[.int .i64 v.s,.int .i64 v.p,.int .i64 v.g],.int .i64 v.sealed,.slice (some ⟨g2,0,none⟩) 1024 c2] w2.drew fun e w'=>e=.returned (.tuple #[])∧Keep (DiskOf q) w2.drew w'∧Clean w' q (splice S (placeAt v.p v.sealed) bb)):=Lib.hid (by
   obtain ⟨wr0,hd⟩:=HH.out.disk.new K2.drew
   refine (lay_any hd HH.out.size (fun b hb=>HBE.out b (Nat.le_trans K2.size hb)) HH.out.plan hsg ⟨g2,0,none⟩ c2 bb hB2.drew hc2.1 hc2.2 HBE.out).mono ?_
   rintro e w' ⟨he,hk,wr',hd'⟩
   exact ⟨he,hk,Clean.of hd'⟩)
  obtain ⟨-,y0,y1,y2,y3,y4⟩:=HY.out
  have r0:=fun W (hW:Keep (DiskOf q) w2.drew W)=>y0 W ((Keep.of_new K2).drew.trans hW)
  have r1:=fun W (hW:Keep (DiskOf q) w2.drew W)=>y1 W ((Keep.of_new K2).drew.trans hW)
  have r2:=fun W (hW:Keep (DiskOf q) w2.drew W)=>y2 W ((Keep.of_new K2).drew.trans hW)
  have r3:=fun W (hW:Keep (DiskOf q) w2.drew W)=>y3 W ((Keep.of_new K2).drew.trans hW)
  have r4:=fun W (hW:Keep (DiskOf q) w2.drew W)=>y4 W ((Keep.of_new K2).drew.trans hW)
  have HB2:=Lib.hid hB2
  clear k2 o2 hg2 hg2l y0 y1 y2 y3 y4 n0 HBD hB2
  go_upto_region 6 with fail
  refine hold_beginS (Keep (DiskOf q) w2.drew) (by kernel_rfl) ?_
  have n0:Keep (DiskOf q) w2.drew w2.drew:=Keep.refl _ _
  refine take0 0 n0 ?_
  refine take0 1 n0 ?_
  refine take0 2 n0 ?_
  refine take0 3 n0 ?_
  refine take0 4 n0 ?_
  refine take0 5 n0 ?_
  refine take0 6 n0 ?_
  refine take0 7 n0 ?_
  refine take0 8 n0 ?_
  refine take0 9 n0 ?_
  refine take0 10 n0 ?_
  refine take0 11 n0 ?_
  refine take0 12 n0 ?_
  refine hold_step0 (i:=13) (by kernel_rfl) rfl rfl (fun K hK=>?_)
  (go_simp;refine HLY.out.mono ?_)
  (rintro e w3 ⟨rfl,k3,hd3⟩;go_wp2_with fail)
  have n1:=k3
  refine hK.out _ _ n1 ?_
  clear hK K
  try simp only [Act.put,ly1,ly2,ly3,ly4,ly5,ly6]
  replace n0:=n1
  clear n1
  refine wpAnyH_done (by kernel_rfl) ?_ _
  have K3:Keep (DiskOf q) w w3:=(Keep.of_new K2).drew.trans n0
  have hB3:Bs w3 (fun b=>w.heap.size≤b) (some ⟨g2,0,none⟩) 1024 bb:=Row.keep (E:=DiskOf q) (Row.drew HB2.out) n0 (fun b _ hb=>HBE.out b hb)
  have HRD:=read_any (fun b=>w.heap.size≤b) (some ⟨g2,0,none⟩) 1024 c2 bb w3 hB3 hc2.1 hc2.2
  rw [hrd] at HRD
  replace HRD:=Lib.hid HRD
  have HD3:=Lib.hid hd3
  have HK3:=Lib.hid K3
  clear r0 r1 r2 r3 r4 n0 hd3 K3 hB3 HLY HB2 K2
  go_wp2_with fail
  refine HRD.out.mono ?_
  rintro e w4 ⟨⟨P1,p1,P2,p2,A3,c3,rfl,hp1,hp2,hb1,hb2,-⟩,k4⟩
  dsimp only at hp1 hp2 hb1 hb2 ⊢
  clear HRD hrd
  have hx5:=heap_alloc_new w4 (.cells #[.int .i64 ch.index,.int .u64 ch.first,.int .i64 ch.count,.int .i64 ch.bytes,.slice P1 ch.prev.length p1,.slice P2 ch.root.length p2] 264)
  have k5:=k4.alloc (.cells #[.int .i64 ch.index,.int .u64 ch.first,.int .i64 ch.count,.int .i64 ch.bytes,.slice P1 ch.prev.length p1,.slice P2 ch.root.length p2] 264)
  have hb1:=hb1.alloc (.cells #[.int .i64 ch.index,.int .u64 ch.first,.int .i64 ch.count,.int .i64 ch.bytes,.slice P1 ch.prev.length p1,.slice P2 ch.root.length p2] 264)
  have hb2:=hb2.alloc (.cells #[.int .i64 ch.index,.int .u64 ch.first,.int .i64 ch.count,.int .i64 ch.bytes,.slice P1 ch.prev.length p1,.slice P2 ch.root.length p2] 264)
  go_upto_region 8 with fail
  generalize w4.alloc (.cells #[.int .i64 ch.index,.int .u64 ch.first,.int .i64 ch.count,.int .i64 ch.bytes,.slice P1 ch.prev.length p1,.slice P2 ch.root.length p2] 264)=w5 at *
  generalize w4.heap.size=g5 at *
  have hz3:=HK3.out.size
  have hl5:LogAt w5 D base bl q.bd v A c:=HH.out.log.keep (HK3.out.new k5) HH.out.apart HH.out.row HH.out.data
  have HDD:=Lib.hid (did_any hl5 ch P1 P2 p1 p2 hb1 hp1 hb2 hp2 (fun b hb=>by omega) (fun b hb=>by omega) HCH.out.1 (by have:=HCH.out.2;omega) (by have:=HCH.out.2;omega) hsg)
  have hz5:w.heap.size≤w5.heap.size:=Nat.le_trans hz3 k5.size
  obtain ⟨x0,x1,x2,x3,x4,x5⟩:=cs6 hx5
  clear hb1 hb2 hl5 hp1 hp2 k4
  go_wp2_with fail
  clear x0 x1 x2 x3 x4 x5 hx5
  refine HDD.out.mono ?_
  rintro e w6 ⟨rfl,k6,hl6⟩
  obtain ⟨H6,hc6,hb6,h326,hB6⟩:=hl6.cells
  have HL6:=Lib.hid hl6
  have HB6:=Lib.hid hB6
  have c7:=cellOf hb6 (k:=7) rfl
  have f7:=frozenOf hb6 7
  have HK6:=Lib.hid (And.intro k5 k6)
  clear HDD hl6 hB6 k5 k6
  go_wp2_with fail
  go_ret
  have hb7:=setCell_block hb6 7 (.slice none 0 0)
  have q7:Keep (fun j=>j≠bl) w6 (w6.setCell ⟨bl,7,none⟩ (.slice none 0 0)):=(Keep.refl _ w6).setCell (p:=⟨bl,7,none⟩) (fun hd=>absurd rfl hd) _
  have h:=HH.out
  obtain ⟨k5,k6⟩:=HK6.out
  have hl6:=HL6.out
  have hqb:∀ b,b=q.bd∨b=q.bs∨b=q.bm→b≠bl:=fun b hb e=>diskOf_not hb (e▸h.apart)
  have hcl:=((HD3.out.new k5).keep k6 hqb).keep q7 hqb
  have hkk:=(((HK3.out.new k5).imp (E:=fun j=>j≠bl∧DiskOf q j) fun _ _ hj=>hj.2).trans2 k6 fun _ _ hj=>hj.1).trans2 q7 fun _ _ hj=>hj.1
  refine ⟨rfl,hkk,none,0,?_,.inr rfl⟩
  rw [hvs.out.1,hvs.out.2]
  have hval:ch.first+ch.count=v.next+(v.waits.length:Int):=by rw [HCH.out.1,HCH.out.2,hn.out]
  refine ⟨⟨⟨H6,hc6,?_,h326,?_⟩,OwnSl.nil _ _ _ _ _,?_,?_,⟨Nat.zero_le _,hl6.few.2⟩,fun hd=>hd.elim h.log.out (fun h=>by omega),by simp [blk]⟩,hcl,?_,h.plan,h.apart,fun k hk=>(by cases hk),fun b hb=>hb.elim (h.data b) (fun hb=>HBE.out b hb)⟩
  ·rw [hval] at hb7
   exact hb7
  ·exact (HB6.out.keep q7 (fun b _ hb e=>hl6.out (e▸hb.1))).imp fun b _ hb=>⟨hb.1.imp id (fun h=>Nat.le_trans hz5 h),by simp [blk]⟩
  ·have:=hl6.next0
   dsimp only at this ⊢
   omega
  ·have:=hl6.next1
   dsimp only at this ⊢
   omega
  ·rw [splice_length (by rw [hbl0,h.size];have:=HFIT.out.1;unfold placeAt;omega),h.size]
theorem clonerecs_any (D:Nat→Prop) (A:Option Addr) (n c:Nat) (rs:List RecP) (w:World) (hH:Sl recElt w D A n rs) (hn:n≤1000000):
  Calls Tryz.prog 191 #[.slice A n c] w fun e w'=>(∃ A' c',e=.returned (.slice A' n c')∧OwnSl 188 recElt w' w.heap.size (fun b=>b<w.heap.size) A' n c' rs)∧New w w':=by
 have hq:=fun w'=>Lib.run_eql_slice_nil (P:=Tryz.prog) w' 195 188 A n c 0 0 Tryz.underlying195
 rcases A with _|ad
 ·have h0:n=0:=by
   rcases Nat.eq_zero_or_pos n with h|h
   ·exact h
   ·obtain ⟨vs,h1,_⟩:=hH
    obtain ⟨_,_,e,_⟩:=h1.2 h
    cases e
  subst h0
  obtain rfl:rs=[]:=List.eq_nil_of_length_eq_zero hH.len
  go_enter Tryz.func191,Tryz.ntmps191
  go_wp2_with fail
  go_ret
  exact ⟨⟨none,0,rfl,OwnSl.nil _ _ _ _ _⟩,New.refl _⟩
 ·obtain ⟨us,h1,h2,h3⟩:=hH
  have kA:New w (w.alloc (.cells #[] 188)):=(New.refl w).alloc _
  have hr:=h1.new kA
  have h0:OwnSl 188 recElt (w.alloc (.cells #[] 188)) w.heap.size (fun b=>b<w.heap.size) (some ⟨w.heap.size,0,none⟩) 0 0 []:=⟨[],World.ownsRow_made w #[] 0 (Nat.le_refl _) (by decide) rfl,rfl,fun k hk=>absurd hk (by simp)⟩
  have hy:∀ k (h:k<rs.length),recElt.At (w.alloc (.cells #[] 188)) (fun b=>b<w.heap.size∧some b≠blk (some (Addr.mk w.heap.size 0 none))) us (k*recElt.size) rs[k]:=fun k hk=>recElt.keep (recElt.imp (h3 k hk) (E:=fun b=>b<w.heap.size∧some b≠blk (some (Addr.mk w.heap.size 0 none))) fun b hb _=>⟨hb,fun e=>by (have e1:b=w.heap.size:=by injection e);omega⟩) kA (fun _ _ _=>trivial)
  have hbd:0+n≤9223372036854775807:=by omega
  have hbd2:(0+n)*40≤140737488355328:=by omega
  have hsz:w.heap.size≤(w.alloc (.cells #[] 188)).heap.size:=kA.size
  obtain ⟨q0,hq0,hqz,hqs,hqb⟩:=info_parts info_record
  clear h1 h3
  go_enter Tryz.func191,Tryz.ntmps191
  go_wp2_with (at_builtin;refine app_slM (E:=recElt) _ rfl _ _ 195 188 rfl q0 (.agg #[.int .i64 0,.int .u64 0,.slice none 0 0]) 40 Tryz.underlying195 hq0 hqz hqs hqb rfl w.heap.size (fun b=>b<w.heap.size) (some ⟨w.heap.size,0,none⟩) 0 0 [] rfl h0 _ (some ad) n c us rs rfl hr h2 hy hbd hbd2 hsz ?_;intro A3 c3 w3 o3 hg3 hbk3)
  rw [Nat.zero_add,List.nil_append] at o3
  have hN:New w w3:=kA.grown hg3 (fun j hj _=>(h0.lt j hj).1)
  go_ret
  exact ⟨⟨A3,c3,rfl,o3⟩,hN⟩
theorem info_recsl:(Tryz.prog.info? 195).map (fun i=>(i.zero,i.size,i.bytes))=some (some (.slice none 0 0),1,24):=by kernel_rfl
theorem New.of_eq {w w':World}(h:w=w'):New w w':=h▸New.refl w
def foundEnd:Int→List UInt8→List (HeadP×List RecP)→Int×List UInt8
 | nx,hd,[]=>(nx,hd)
 | _,_,x::r=>foundEnd (x.1.first+x.1.count) (sealOf x.1) r
theorem foundEnd_snoc:∀ (nx:Int) (hd:List UInt8) (l:List (HeadP×List RecP)) (x:HeadP×List RecP),foundEnd nx hd (l++[x])=(x.1.first+x.1.count,sealOf x.1)
 | _,_,[],_=>rfl
 | _,_,_y::l,x=>foundEnd_snoc _ _ l x
theorem six_cells {w:World}{g:Nat}{c0 c1 c2 c3 c4 c5:Value}{t:TypeId}(h:w.heap[g]?=some (.cells #[c0,c1,c2,c3,c4,c5] t (0,0))) (x0 x1 x2 x3 x4 x5:Value):
  ((((((w.setCell ⟨g,0,none⟩ x0).setCell ⟨g,1,none⟩ x1).setCell ⟨g,2,none⟩ x2).setCell ⟨g,3,none⟩ x3).setCell ⟨g,4,none⟩ x4).setCell ⟨g,5,none⟩ x5).heap[g]?=some (.cells #[x0,x1,x2,x3,x4,x5] t (0,0)) ∧
  Keep (fun b=>b≠g) w ((((((w.setCell ⟨g,0,none⟩ x0).setCell ⟨g,1,none⟩ x1).setCell ⟨g,2,none⟩ x2).setCell ⟨g,3,none⟩ x3).setCell ⟨g,4,none⟩ x4).setCell ⟨g,5,none⟩ x5):=by
 have no:∀ (W:World) (k:Nat) (u:Value),Keep (fun b=>b≠g) w W→Keep (fun b=>b≠g) w (W.setCell ⟨g,k,none⟩ u):=fun W k u hW=>hW.setCell (p:=⟨g,k,none⟩) (fun hd=>absurd rfl hd) u
 exact ⟨setCell_block (setCell_block (setCell_block (setCell_block (setCell_block (setCell_block h 0 x0) 1 x1) 2 x2) 3 x3) 4 x4) 5 x5,no _ _ _ (no _ _ _ (no _ _ _ (no _ _ _ (no _ _ _ (no _ _ _ (Keep.refl _ w))))))⟩
theorem own_not {w:World}{base:Nat}{t t':TypeId}{size n c:Nat}{A:Option Addr}{xs:List Value}(h:Own w base t size A n c xs){g:Nat}{cs:Array Value}{fr:Nat×Nat}(hg:w.heap[g]?=some (.cells cs t' fr)) (ht:t≠t'):blk A≠some g:=by
 intro e
 rcases h.2 with ⟨hv,_⟩|⟨g2,cap2,cur2,hv,_,hg2,_⟩
 ·injection hv with hA;subst hA;cases e
 ·injection hv with hA;subst hA
  have:g2=g:=by injection e
  subst this
  rw [hg] at hg2
  injection hg2 with hg2
  injection hg2 with _ h2
  exact ht h2.symm
def openNext (fr:Nat) (next:Int):Int:=if fr=0 then 1 else next
def openHead (fr:Nat) (id hb:List UInt8):List UInt8:=if fr=0 then genesisOf id else hb
def OpenRet (w:World) (q:DiskB) (S:List UInt8) (s p g fr:Nat) (nx:Int) (hd:List UInt8) (e:Ending) (w':World):Prop:=New w w'∧∃ bl Ao co fd,fd=foundIn S p (g-fr) fr nx hd ∧
 e=.returned (.tuple #[.pointer (some ⟨bl,0,none⟩),.slice Ao fd.length co,.int .i64 0])∧w.heap.size≤bl ∧
 LogOn w' (fun b=>w.heap.size≤b∧b≠bl) w.heap.size bl q ⟨s,p,g,fr+fd.length,(foundEnd nx hd fd).1,(foundEnd nx hd fd).2,[]⟩ none 0 S ∧
 OwnSl 195 (slElt recElt) w' w.heap.size (fun b=>w.heap.size≤b∧b≠bl) Ao fd.length co (fd.map Prod.snd)
theorem head_count (bs:List UInt8):0≤(segRead bs).1.count∧(segRead bs).1.count≤65535:=by
 have hf:0≤(headOf bs).count∧(headOf bs).count≤65535:=by
  have h:=num_lt (((RdS.mk bs 0).num 2).2.num 8).2 2
  refine ⟨Int.natCast_nonneg _,?_⟩
  unfold headOf
  dsimp only
  omega
 have h0:(0:Int)≤noHead.count∧noHead.count≤65535:=by decide
 unfold segRead
 split
 ·exact h0
 split
 ·exact h0
 split
 ·exact h0
 split
 ·exact h0
 split
 ·exact h0
 split
 ·exact h0
 ·exact hf
end Go.Proofs.YtdodbdednpnddaaGreatDoor
namespace Go.Proofs.YtdodbdednpnddaaGreatDoor
open Go.RowKit
open Go.Maps (Keyed)
theorem image_any {w:World}{q:DiskB}{S:List UInt8}(h:Clean w q S):
  Calls Tryz.prog 62 #[.pointer (some ⟨q.bd,0,none⟩)] w fun e w'=>(∃ A' c',e=.returned (.slice A' S.length c')∧Bs w' (fun b=>w.heap.size≤b) A' S.length S∧S.length≤c'∧c'≤9223372036854775807)∧New w w':=by
 obtain ⟨wr0,hd⟩:=h
 obtain ⟨k,hk,hk0,hk1⟩:=hd.size
 have hdisk:=hd.disk
 have hlt:=hd.lt
 obtain ⟨n,hn⟩:∃ n,n=S.length:=⟨_,rfl⟩
 have hbs:=hd.row
 rw [← hn] at hdisk hbs ⊢
 have hn9:n≤1000000:=by omega
 have c0:w.cell? ⟨q.bd,0,none⟩=some (.slice (some ⟨q.bs,0,none⟩) n n):=by rw [cell_of_row _ _ _ _ _ (0,0) hdisk];rfl
 have HC:=Lib.hid (clone_bytes _ (some ⟨q.bs,0,none⟩) n n S w hbs (by omega))
 obtain ⟨E,hown,hs⟩:=hd.dirty
 have HS:Hid (∀ x:Int,Maps.has E (.int .i64 x)=false):=Lib.hid fun x=>(hs x).1 rfl
 have HD:=Lib.hid hdisk
 have HO:=Lib.hid hown
 have hbm:=hlt q.bm (.inr (.inr rfl))
 clear hd hk hk0 hk1 hn hlt hbs hown hs hdisk
 go_enter Tryz.func62,Tryz.ntmps62
 go_wp2_with fail
 refine HC.out.mono ?_
 rintro e w1 ⟨⟨A',c',rfl,ho⟩,k1⟩
 have hown1:=ownsMap_keep (F:=fun _=>True) HO.out k1 trivial
 have c1:w1.cell? ⟨q.bd,1,none⟩=some (.map (some q.bm)):=cellOf (k1.blockAt HD.out trivial) (k:=1) rfl
 have hB:=Row.of_own ho
 have hcp:=own_cap ho
 have hcm:=own_capMax ho
 clear c0 ho HC
 go_wp2_with (first
  | (at_range;refine wpList_range_own _ rfl _ 131 rfl 3 24 keyI Tryz.underlying131 _ q.bm 0 _ rfl hown1 ?_;intro w0 hrg0 hg0 hs0)
  | fail)
 go_frame
 clear c1
 go_loopw [4] (fun _ wr=>∃ (left:Lit→Bool) (cnt:Nat),wr.ranges Tryz.prog 3 heldR q.bm w1.heap.size 0 E left cnt∧(∀ kl,left kl=true→Maps.has E kl=true)∧Keep (fun b=>b<w1.heap.size) w1 wr)
  (fun _ wr=>wr.rangeLeft q.bm w1.heap.size)
 case atStart=>exact ⟨_,_,hrg0,fun _ h=>h,⟨hg0.os,hg0.tape,hg0.output,hg0.size,fun j hj _=>hg0.block j hj (by simp)⟩⟩
 case round =>
  obtain ⟨left,cnt,hrg,hle,hK⟩:=hrel
  go_wp2_with (first
   | (at_next;refine wpList_next_ranges _ rfl _ rfl 3 keyI heldR (Value.int .i64) (fun c:Value=>c) (fun key kl hkey=>by obtain ⟨x,rfl,_⟩:=Maps.keyOf_int_inv Tryz.underlying3 hkey;exact ⟨x,rfl⟩) (fun v y hv=>⟨v,rfl⟩) q.bm w1.heap.size 0 _ _ _ rfl hrg ?_ ?_)
   | fail)
  ·intro _ hl0
   go_wp2_with fail
   go_ret
   have kf:New w1 wr:=hK.toNew fun j hj=>hj
   exact ⟨⟨A',c',rfl,hB.new kf,hcp,hcm⟩,k1.new kf⟩
  ·intro x c kl y ps w2 cnt1 hkey hlk hR hat hrg1 hlt1 hg1 hs1 hen
   exfalso
   obtain ⟨x',ex,rfl,hwx⟩:=Maps.keyOf_int_inv Tryz.underlying3 hkey
   have h1:=hle _ hlk
   rw [HS.out] at h1
   cases h1
end Go.Proofs.YtdodbdednpnddaaGreatDoor
namespace Go.Proofs.YtdodbdednpnddaaGreatDoor
class Ord2 (κ:Type) extends LT κ where
 dec:(a b:κ)→Decidable (a<b)
 deq:DecidableEq κ
 irr:∀ a:κ,¬ a<a
 tra:∀ {a b c:κ},a<b→b<c→a<c
 tri:∀ a b:κ,a<b∨a=b∨b<a
instance {κ:Type} [Ord2 κ] (a b:κ):Decidable (a<b):=Ord2.dec a b
instance (priority:=low) {κ:Type} [Ord2 κ]:DecidableEq κ:=Ord2.deq
instance:Ord2 Int where
 dec:=fun a b=>inferInstance
 deq:=inferInstance
 irr:=Int.lt_irrefl
 tra:=Int.lt_trans
 tri:=fun a b=>by omega
instance:Ord2 (List UInt8) where
 dec:=fun a b=>inferInstance
 deq:=inferInstance
 irr:=List.lt_irrefl
 tra:=List.lt_trans
 tri:=fun a b=>by
  by_cases h1:a<b
  ·exact .inl h1
  ·by_cases h2:b<a
   ·exact .inr (.inr h2)
   ·exact .inr (.inl (List.le_antisymm (List.not_lt.1 h2) (List.not_lt.1 h1)))
def Rising {κ α:Type} [Ord2 κ] (l:List (κ×α)):Prop:=l.Pairwise fun x y=>x.1<y.1
def getK {κ α:Type} [Ord2 κ] (l:List (κ×α)) (k:κ):Option α:=match l with
 | []=>none
 | (a,x)::r=>if a=k then some x else getK r k
def putK {κ α:Type} [Ord2 κ] (k:κ) (v:α):List (κ×α)→List (κ×α)
 | []=>[(k,v)]
 | (a,x)::r=>if k<a then (k,v)::(a,x)::r else if a=k then (k,v)::r else (a,x)::putK k v r
def delK {κ α:Type} [Ord2 κ] (k:κ) (l:List (κ×α)):List (κ×α):=l.filter fun p=>decide (p.1≠k)
section
variable {κ α:Type} [Ord2 κ] {l:List (κ×α)}{k j:κ}{v:α}
theorem getK_put:getK (putK k v l) j=if j=k then some v else getK l j:=by
 induction l with
 | nil=>simp only [putK,getK];by_cases h:k=j <;> simp [h,eq_comm]
 | cons p r ih =>
  obtain ⟨a,x⟩:=p
  unfold putK
  split
  ·by_cases h:k=j
   ·subst h;simp [getK]
   ·rw [if_neg (fun e=>h e.symm)];simp [getK,h]
  ·split
   ·rename_i h;subst h
    by_cases h:a=j
    ·subst h;simp [getK]
    ·rw [if_neg (fun e=>h e.symm)];simp [getK,h]
   ·rename_i h1 h2
    simp only [getK,ih]
    by_cases h:a=j
    ·subst h;rw [if_pos rfl,if_neg h2,if_pos rfl]
    ·rw [if_neg h,if_neg h]
theorem getK_del:getK (delK k l) j=if j=k then none else getK l j:=by
 induction l with
 | nil=>simp [delK,getK]
 | cons p r ih =>
  obtain ⟨a,x⟩:=p
  unfold delK at ih ⊢
  rw [List.filter_cons]
  by_cases h:a=k
  ·subst h
   simp only [ne_eq,not_true_eq_false,decide_false,Bool.false_eq_true,if_false]
   rw [ih]
   by_cases h2:j=a
   ·rw [if_pos h2,if_pos h2]
   ·rw [if_neg h2,if_neg h2];show _=if a=j then some x else getK r j;rw [if_neg (fun e=>h2 e.symm)]
  ·have:decide (a≠k)=true:=by simp [h]
   simp only [this,if_true]
   simp only [getK,ih]
   by_cases h2:a=j
   ·subst h2;rw [if_pos rfl,if_neg h,if_pos rfl]
   ·rw [if_neg h2,if_neg h2]
theorem mem_putK {p:κ×α}(h:p∈putK k v l):p=(k,v)∨p∈l:=by
 induction l with
 | nil=>simpa [putK] using h
 | cons q r ih =>
  obtain ⟨a,x⟩:=q
  unfold putK at h
  split at h
  ·simpa using h
  ·split at h
   ·rcases List.mem_cons.1 h with h|h
    ·exact .inl h
    ·exact .inr (List.mem_cons_of_mem _ h)
   ·rcases List.mem_cons.1 h with h|h
    ·exact .inr (by rw [h];exact List.mem_cons_self ..)
    ·exact (ih h).imp id (List.mem_cons_of_mem _)
theorem Rising.put (h:Rising l):Rising (putK k v l):=by
 induction l with
 | nil=>simp [putK,Rising]
 | cons q r ih =>
  obtain ⟨a,x⟩:=q
  have h1:=List.pairwise_cons.1 h
  unfold putK
  split
  ·rename_i hk
   refine List.pairwise_cons.2 ⟨fun p hp=>?_,h⟩
   rcases List.mem_cons.1 hp with rfl|hp
   ·exact hk
   ·exact Ord2.tra hk (h1.1 p hp)
  ·split
   ·rename_i hk;subst hk
    exact List.pairwise_cons.2 ⟨h1.1,h1.2⟩
   ·rename_i h2 h3
    refine List.pairwise_cons.2 ⟨fun p hp=>?_,ih h1.2⟩
    rcases mem_putK hp with rfl|hp
    ·exact ((Ord2.tri a k).resolve_right (fun q=>q.elim h3 h2))
    ·exact h1.1 p hp
theorem Rising.del (h:Rising l):Rising (delK k l):=List.Pairwise.filter _ h
theorem getK_mem {x:α}(h:getK l k=some x):(k,x)∈l:=by
 induction l with
 | nil=>cases h
 | cons q r ih =>
  obtain ⟨a,y⟩:=q
  unfold getK at h
  split at h
  ·rename_i e;subst e;injection h with h;subst h;exact List.mem_cons_self ..
  ·exact List.mem_cons_of_mem _ (ih h)
theorem Rising.get (h:Rising l){x:α}(hm:(k,x)∈l):getK l k=some x:=by
 induction l with
 | nil=>cases hm
 | cons q r ih =>
  obtain ⟨a,y⟩:=q
  have h1:=List.pairwise_cons.1 h
  unfold getK
  rcases List.mem_cons.1 hm with e|hm
  ·injection e with e1 e2;subst e1;subst e2;rw [if_pos rfl]
  ·have:=h1.1 _ hm
   rw [if_neg (by intro e;subst e;exact Ord2.irr _ this)]
   exact ih h1.2 hm
theorem Rising.ext {l':List (κ×α)}(h:Rising l) (h':Rising l') (he:∀ k,getK l k=getK l' k):l=l':=by
 induction l generalizing l' with
 | nil =>
  cases l' with
  | nil=>rfl
  | cons q r=>obtain ⟨a,y⟩:=q;have:=he a;simp [getK] at this
 | cons p r ih =>
  obtain ⟨a,x⟩:=p
  cases l' with
  | nil=>have:=he a;simp [getK] at this
  | cons q r' =>
   obtain ⟨b,y⟩:=q
   have h1:=List.pairwise_cons.1 h
   have h1':=List.pairwise_cons.1 h'
   have hab:a=b:=by
    have ha:=he a
    have hb:=he b
    simp only [getK,if_true] at ha hb
    by_cases e:b=a
    ·exact e.symm
    ·rw [if_neg e] at ha
     have e1:¬ a=b:=fun q=>e q.symm
     rw [if_neg e1] at hb
     have g1:b<a:=h1'.1 _ (getK_mem ha.symm)
     have g2:a<b:=h1.1 _ (getK_mem hb)
     exact absurd (Ord2.tra g1 g2) (Ord2.irr _)
   subst hab
   have hxy:x=y:=by have:=he a;simpa [getK] using this
   subst hxy
   congr 1
   refine ih h1.2 h1'.2 fun k=>?_
   by_cases e:a=k
   ·subst e
    have n1:getK r a=none:=by
     cases hg:getK r a with
     | none=>rfl
     | some z=>exact absurd (h1.1 _ (getK_mem hg)) (Ord2.irr _)
    have n2:getK r' a=none:=by
     cases hg:getK r' a with
     | none=>rfl
     | some z=>exact absurd (h1'.1 _ (getK_mem hg)) (Ord2.irr _)
    rw [n1,n2]
   ·have:=he k
    simpa [getK,e] using this
theorem getK_filter {P:κ→Bool}:getK (l.filter fun p=>P p.1) j=if P j then getK l j else none:=by
 induction l with
 | nil=>simp [getK]
 | cons p r ih =>
  obtain ⟨a,x⟩:=p
  rw [List.filter_cons]
  by_cases h:P a
  ·rw [if_pos h]
   show (if a=j then some x else getK (r.filter fun p=>P p.1) j)=if P j then (if a=j then some x else getK r j) else none
   rw [ih]
   by_cases e:a=j
   ·subst e;rw [if_pos rfl,if_pos rfl,if_pos h]
   ·rw [if_neg e,if_neg e]
  ·rw [if_neg h,ih]
   show _=if P j then (if a=j then some x else getK r j) else none
   by_cases e:a=j
   ·subst e;rw [if_neg h,if_neg h]
   ·rw [if_neg e]
theorem Rising.filter (h:Rising l) (P:κ×α→Bool):Rising (l.filter P):=List.Pairwise.filter _ h
theorem Rising.len_le {l':List (κ×α)}(h:Rising l) (h':Rising l'){P:κ→Bool}(he:∀ k,getK l' k=if P k then getK l k else none):l'.length≤l.length:=by
 have:l'=l.filter fun p=>P p.1:=h'.ext (h.filter _) fun k=>by rw [he k,getK_filter]
 rw [this]
 exact List.length_filter_le _ _
end
end Go.Proofs.YtdodbdednpnddaaGreatDoor
namespace Go.Proofs.YtdodbdednpnddaaGreatDoor
open Go.RowKit
open Go.Maps (Keyed)
open Go.WideMaps (keyOf_string_mk)
class KeyL (κ:Type) extends Ord2 κ where
 lit:κ→Lit
 val:κ→Value
 wf:κ→Prop
 kt:TypeId
 same:∀ x:κ,(lit x).sameKey (lit x)=true
 inj:∀ {a b:κ},lit a=lit b→a=b
 keyed:Keyed Tryz.prog kt
 lits:∀ {v:Value} {kl:Lit},keyOf Tryz.prog kt v=some kl→∃ x,kl=lit x
 key:∀ {x:κ},wf x→keyOf Tryz.prog kt (val x)=some (lit x)
instance:KeyL Int where
 lit:=.int .i64
 val:=.int .i64
 wf:=fun k=>(Lit.int .i64 k).wf=true
 kt:=3
 same:=fun x=>by simp [Lit.sameKey]
 inj:=fun h=>by injection h
 keyed:=keyI
 lits:=fun h=>by obtain ⟨x,_,h2,_⟩:=Maps.keyOf_i64 Tryz.underlying3 h;exact ⟨x,h2⟩
 key:=fun h=>keyOfI h
theorem keyS:Keyed Tryz.prog 9:=Maps.string_keyed Tryz.underlying9
theorem keyOfS {nm:List UInt8}(h:nm.length≤9223372036854775807):keyOf Tryz.prog 9 (.string (strOf nm))=some (.string nm) :=
 keyOf_string_mk (P:=Tryz.prog) Tryz.underlying9 (s:=strOf nm) (by show nm.toArray.size≤maxLen;rw [List.size_toArray];exact h)
instance:KeyL (List UInt8) where
 lit:=.string
 val:=fun nm=>.string (strOf nm)
 wf:=fun nm=>nm.length≤9223372036854775807
 kt:=9
 same:=fun x=>by simp [Lit.sameKey]
 inj:=fun h=>by injection h
 keyed:=keyS
 lits:=fun h=>by obtain ⟨x,_,h2,_⟩:=Maps.keyOf_str Tryz.underlying9 h;exact ⟨x,h2⟩
 key:=fun h=>keyOfS h
section
variable {κ α:Type} [KeyL κ] {w w':World}{bm:Nat}{f:κ→α→Value}{l:List (κ×α)}{F:Nat→Prop}{E:DataW Value}
def ShowsK (E:DataW Value) (f:κ→α→Value) (l:List (κ×α)):Prop :=
 ∀ k,(getK l k=none→Maps.has E (KeyL.lit k)=false)∧∀ x,getK l k=some x→Maps.has E (KeyL.lit k)=true∧∀ zd,E.atKey (KeyL.lit k) zd=.held (f k x)
def MapIs (w:World) (bm:Nat) (f:κ→α→Value) (l:List (κ×α)):Prop:=Rising l∧∃ E:DataW Value,w.ownsMap Tryz.prog (KeyL.kt κ) heldR bm l.length E∧ShowsK E f l
theorem MapIs.lt (h:MapIs w bm f l):bm<w.heap.size:=by obtain ⟨_,E,h1,_⟩:=h;exact h1.lt
theorem MapIs.keep (h:MapIs w bm f l) (hk:Keep F w w') (hF:F bm):MapIs w' bm f l:=by
 obtain ⟨h0,E,h1,h2⟩:=h
 refine ⟨h0,E,?_,h2⟩
 have hlt:=h1.lt
 obtain ⟨es,clock,hb,rest⟩:=h1
 exact ⟨es,clock,(hk.block bm hlt hF).trans hb,rest⟩
theorem MapIs.new (h:MapIs w bm f l) (hk:New w w'):MapIs w' bm f l:=h.keep hk trivial
theorem MapIs.made (w:World) (f:κ→α→Value):MapIs (w.alloc (.map #[] 0)) w.heap.size f []:=⟨List.Pairwise.nil,.map [],World.ownsMap_made w _ _ _,fun k=>⟨fun _=>rfl,fun x hx=>by cases hx⟩⟩
theorem MapIs.fn {g:κ→α→Value}(h:MapIs w bm f l) (hg:∀ k x,getK l k=some x→f k x=g k x):MapIs w bm g l:=by
 obtain ⟨h0,E,h1,h2⟩:=h
 exact ⟨h0,E,h1,fun k=>⟨(h2 k).1,fun x hx=>⟨((h2 k).2 x hx).1,fun zd=>by rw [((h2 k).2 x hx).2 zd,hg k x hx]⟩⟩⟩
theorem own_exact {P:Program}{k:TypeId}{n:Nat}(h:w.ownsMap P k heldR bm n E):w.ownsMap P k heldR bm (Maps.size E) E:=by
 obtain ⟨es,clock,hb,hf,hs,rfl⟩:=h
 refine ⟨es,clock,hb,hf,?_,rfl⟩
 show es.size≤List.length _
 rw [length_sorted]
 simp
theorem shows_size {n:Nat}(hown:w.ownsMap Tryz.prog (KeyL.kt κ) heldR bm n E) (hs:ShowsK E f l) (hr:Rising l):Maps.size E=l.length:=by
 obtain ⟨es,hD,hpw,_⟩:=hown.entries KeyL.keyed
 obtain ⟨es',hD',hko⟩:=hown.keysOf
 obtain rfl:es=es':=by rw [hD] at hD';simpa using hD'
 subst hD
 have n1:(es.map (·.1)).Nodup:=List.pairwise_map.2 (hpw.imp fun h=>h)
 have n2:(l.map fun p=>KeyL.lit p.1).Nodup:=List.pairwise_map.2 (hr.imp fun {a b} h e=>by have:=KeyL.inj e;rw [this] at h;exact Ord2.irr _ h)
 have hp:(es.map (·.1)).Perm (l.map fun p=>KeyL.lit p.1):=(List.perm_ext_iff_of_nodup n1 n2).2 fun y=>by
  constructor
  ·intro hy
   obtain ⟨p,hp,rfl⟩:=List.mem_map.1 hy
   obtain ⟨v,hv⟩:=hko p hp
   obtain ⟨x,hx⟩:=KeyL.lits hv
   have hh:Maps.has (.map es) (KeyL.lit x)=true:=by rw [Maps.has_eq,List.any_eq_true];exact ⟨p,hp,by rw [hx];exact KeyL.same x⟩
   cases hg:getK l x with
   | none=>rw [(hs x).1 hg] at hh;cases hh
   | some z=>exact List.mem_map.2 ⟨(x,z),getK_mem hg,hx.symm⟩
  ·intro hy
   obtain ⟨p,hp,rfl⟩:=List.mem_map.1 hy
   have hh:=((hs p.1).2 p.2 (hr.get hp)).1
   rw [Maps.has_eq,List.any_eq_true] at hh
   obtain ⟨z,hz,hzz⟩:=hh
   exact List.mem_map.2 ⟨z,hz,WideAt.sameKey_eq hzz⟩
 have:=hp.length_eq
 rw [List.length_map,List.length_map] at this
 exact this
theorem heldR_inj {v d:Value}{ps:List MemPlace}(h:heldR v=some (.held d,ps)):v=d:=by
 simp only [heldR,Option.some.injEq,Prod.mk.injEq,DataW.held.injEq] at h
 exact h.1
theorem own_shows {n:Nat}(hown:w.ownsMap Tryz.prog (KeyL.kt κ) heldR bm n E) (hs:ShowsK E f l) (hr:Rising l):MapIs w bm f l:=by
 have:=own_exact hown
 rw [shows_size hown hs hr] at this
 exact ⟨hr,E,this,hs⟩
variable {t e:TypeId}
theorem MapIs.look (h:MapIs w bm f l) (ht:Tryz.prog.underlying t=some (.map (KeyL.kt κ) e)){z:Value}(hz:(zeroValue e).run Tryz.prog w=.ok z w){k:κ}(hk:KeyL.wf k):
  (Instr.lookup t (.map (some bm)) (KeyL.val k) true).run Tryz.prog w=.ok (.tuple #[(getK l k).elim z (f k),.bool (getK l k).isSome]) w ∧
  (Instr.lookup t (.map (some bm)) (KeyL.val k) false).run Tryz.prog w=.ok ((getK l k).elim z (f k)) w:=by
 obtain ⟨h0,E,h1,h2⟩:=h
 obtain ⟨v,ps,hrun,hv⟩:=h1.look_ok KeyL.keyed ht hz (zd:=.held z) (zp:=[]) rfl (KeyL.key hk)
 obtain ⟨v',ps',hrun',hv'⟩:=h1.lookup KeyL.keyed ht hz (zd:=.held z) (zp:=[]) rfl (KeyL.key hk)
 rw [hrun,hrun']
 cases hg:getK l k with
 | none =>
  have g:=(h2 k).1 hg
  rw [g]
  rw [Maps.atKey_of_not_has g] at hv hv'
  have e1:v=z:=heldR_inj hv
  have e2:v'=z:=heldR_inj hv'
  rw [e1,e2]
  exact ⟨rfl,rfl⟩
 | some x =>
  obtain ⟨g,ga⟩:=(h2 k).2 x hg
  rw [g]
  rw [ga] at hv hv'
  have e1:v=f k x:=heldR_inj hv
  have e2:v'=f k x:=heldR_inj hv'
  rw [e1,e2]
  exact ⟨rfl,rfl⟩
theorem MapIs.len (h:MapIs w bm f l) (ht:Tryz.prog.underlying t=some (.map (KeyL.kt κ) e)) (ty:TypeId):(Builtin.len_ #[t] ty #[.map (some bm)]).run Tryz.prog w=.ok (.int .i64 l.length) w:=by
 obtain ⟨h0,E,h1,h2⟩:=h
 rw [← shows_size h1 h2 h0]
 exact h1.len ht ty
theorem keep_turned {b:Nat}(h:w.mapTurned w' b):Keep (fun i=>i≠b) w w'∧w'.heap.size=w.heap.size:=by
 have hg:=h.grown
 refine ⟨⟨hg.os,hg.tape,hg.output,hg.size,fun j hj hd=>hg.block j hj (fun e=>hd (by injection e))⟩,?_⟩
 obtain ⟨es,clock,es',clock',_,rfl⟩:=h
 simp [ChangeMaps.setBlock]
theorem MapIs.store (h:MapIs w bm f l) (ht:Tryz.prog.underlying t=some (.map (KeyL.kt κ) e)) (hn:l.length<1000000){k:κ}(hk:KeyL.wf k) (x:α):
  ∃ w',(Instr.mapUpdate t (.map (some bm)) (KeyL.val k) (f k x)).run Tryz.prog w=.ok () w'∧MapIs w' bm f (putK k x l)∧Keep (fun i=>i≠bm) w w'∧w'.heap.size=w.heap.size:=by
 obtain ⟨h0,E,h1,h2⟩:=h
 obtain ⟨w',hrun,hown,ht2⟩:=h1.store KeyL.keyed ht (by unfold maxLen;omega) (KeyL.key hk) (val:=f k x) rfl
 obtain ⟨g1,g2⟩:=keep_turned ht2
 refine ⟨w',hrun,own_shows hown ?_ h0.put,g1,g2⟩
 ·intro j
  have hkey:WideAt.IsKeyLit (KeyL.lit k):=KeyL.keyed.key (KeyL.key hk)
  rw [getK_put]
  by_cases e:j=k
  ·subst e
   rw [if_pos rfl]
   refine ⟨fun h=>(by cases h),fun y hy=>?_⟩
   injection hy with hy
   subst hy
   exact ⟨Maps.has_put_same h1.isMap hkey _,fun zd=>Maps.atKey_put_same h1.isMap hkey _ zd⟩
  ·rw [if_neg e]
   have hne:(KeyL.lit j:Lit)≠KeyL.lit k:=fun q=>e (KeyL.inj q)
   refine ⟨fun hg=>by rw [Maps.has_put_other hne];exact (h2 j).1 hg,fun y hy=>?_⟩
   obtain ⟨g3,g4⟩:=(h2 j).2 y hy
   exact ⟨by rw [Maps.has_put_other hne];exact g3,fun zd=>by rw [Maps.atKey_put_other hne];exact g4 zd⟩
theorem MapIs.drop (h:MapIs w bm f l) (ht:Tryz.prog.underlying t=some (.map (KeyL.kt κ) e)){k:κ}(hk:KeyL.wf k):
  ∃ w',(∀ ty,(Builtin.delete_ #[t,KeyL.kt κ] ty #[.map (some bm),KeyL.val k]).run Tryz.prog w=.ok (.tuple #[]) w')∧MapIs w' bm f (delK k l)∧Keep (fun i=>i≠bm) w w'∧w'.heap.size=w.heap.size:=by
 obtain ⟨h0,E,h1,h2⟩:=h
 obtain ⟨w',hrun,hown,ht2⟩:=h1.drop KeyL.keyed ht (KeyL.key hk) 0
 obtain ⟨g1,g2⟩:=keep_turned ht2
 refine ⟨w',fun ty=>hrun,own_shows hown ?_ h0.del,g1,g2⟩
 intro j
 rw [getK_del]
 by_cases e:j=k
 ·subst e
  rw [if_pos rfl]
  exact ⟨fun _=>Maps.has_del_same,fun y hy=>by cases hy⟩
 ·rw [if_neg e]
  have hne:(KeyL.lit j:Lit)≠KeyL.lit k:=fun q=>e (KeyL.inj q)
  refine ⟨fun hg=>by rw [Maps.has_del_other hne];exact (h2 j).1 hg,fun y hy=>?_⟩
  obtain ⟨g3,g4⟩:=(h2 j).2 y hy
  exact ⟨by rw [Maps.has_del_other hne];exact g3,fun zd=>by rw [Maps.atKey_del_other hne];exact g4 zd⟩
end
end Go.Proofs.YtdodbdednpnddaaGreatDoor
namespace Go.Proofs.YtdodbdednpnddaaGreatDoor
open Go.RowKit
structure NodeP where
 kind:Int
 links:Int
 size:Int
 till:Int
 shut:Bool
structure ItemP where
 n:NodeP
 b:List UInt8
 names:List (List UInt8×Int)
abbrev TreeP:=List (Int×ItemP)
abbrev Col:=Nat→Nat
def Ext (w:World) (c c':Col):Prop:=∀ b,b<w.heap.size→c' b=c b
section
variable {w w' w2:World}{c c' c2:Col}{i:Nat}
theorem Ext.refl (w:World) (c:Col):Ext w c c:=fun _ _=>rfl
theorem Ext.trans (h:Ext w c c') (h':Ext w' c' c2) (hz:w.heap.size≤w'.heap.size):Ext w c c2:=fun b hb=>(h' b (Nat.lt_of_lt_of_le hb hz)).trans (h b hb)
def Col.on (c:Col) (n:Nat) (f:Col):Col:=fun b=>if b<n then c b else f b
theorem Col.on_ext (c:Col) (w:World) (f:Col):Ext w c (c.on w.heap.size f):=fun b hb=>by unfold Col.on;rw [if_pos hb]
theorem Col.on_new (c:Col){n:Nat}(f:Col){b:Nat}(hb:n≤b):c.on n f b=f b:=by unfold Col.on;rw [if_neg (by omega)]
theorem Col.on_old (c:Col){n:Nat}(f:Col){b:Nat}(hb:b<n):c.on n f b=c b:=by unfold Col.on;rw [if_pos hb]
end
abbrev NamesAt (w:World) (nb:Nat) (l:List (List UInt8×Int)):Prop:=MapIs w nb (fun _ (id:Int)=>.int .i64 id) l
structure ItemAt (w:World) (c:Col) (i:Nat) (bi nb:Nat) (id:Int) (it:ItemP):Prop where
 col:c bi=i
 cells:∃ A cp,w.heap[bi]?=some (.cells #[.int .i64 id,.int .i64 it.n.kind,.int .i64 it.n.links,.int .i64 it.n.size,.int .u64 it.n.till,.bool it.n.shut,.slice A it.b.length cp,.map (if it.n.kind=2 then some nb else none)] 221 (0,0)) ∧
  it.b.length≤cp∧cp≤9223372036854775807∧Bs w (fun b=>c b=0) A it.b.length it.b
 names:it.n.kind=2→c nb=i∧NamesAt w nb it.names
 bare:it.n.kind≠2→it.names=[]
structure TreeB where
 bm:Nat
 β:Int→Nat
 γ:Int→Nat
structure TreeAt (w:World) (c:Col) (i:Nat) (bt:Nat) (q:TreeB) (T:TreeP):Prop where
 tree:w.heap[bt]?=some (.cells #[.map (some q.bm)] 213 (0,0))
 own:MapIs w q.bm (fun (k:Int) (_:ItemP)=>.pointer (some ⟨q.β k,0,none⟩)) T
 item:∀ k it,getK T k=some it→ItemAt w c i (q.β k) (q.γ k) k it
 col:c bt=i∧c q.bm=i
 inj:∀ k k' it it',getK T k=some it→getK T k'=some it'→k≠k'→q.β k≠q.β k'∧(it.n.kind=2→it'.n.kind=2→q.γ k≠q.γ k')
 far:∀ k it,getK T k=some it→it.n.kind=2→q.γ k≠q.bm
section
variable {w w':World}{c c':Col}{i bt bi nb:Nat}{q:TreeB}{T:TreeP}{l:List (List UInt8×Int)}{id:Int}{it:ItemP}{F:Nat→Prop}
theorem ItemAt.lt (h:ItemAt w c i bi nb id it):bi<w.heap.size:=by obtain ⟨A,cp,h1,_⟩:=h.cells;exact (Array.getElem?_eq_some_iff.1 h1).1
theorem ItemAt.keepB (h:ItemAt w c i bi nb id it) (hk:Keep F w w') (hx:Ext w c c') (hbi:F bi) (hnb:it.n.kind=2→F nb) (h0:∀ b,b<w.heap.size→c b=0→F b):ItemAt w' c' i bi nb id it:=by
 have hlt:=h.lt
 obtain ⟨A,cp,h1,h2,h3,h4⟩:=h.cells
 refine ⟨(hx _ hlt).trans h.col,⟨A,cp,(hk.block bi hlt hbi).trans h1,h2,h3,(h4.imp (E:=fun b=>c b=0∧c' b=0) fun b hb hd=>⟨hd,(hx b hb).trans hd⟩).keep hk (fun b hb hd=>h0 b hb hd.1) |>.imp fun b _ hd=>hd.2⟩,fun hd=>?_,h.bare⟩
 obtain ⟨g1,g2⟩:=h.names hd
 exact ⟨(hx _ g2.lt).trans g1,g2.keep hk (hnb hd)⟩
theorem ItemAt.keep (h:ItemAt w c i bi nb id it) (hk:Keep F w w') (hx:Ext w c c') (hF:∀ b,b<w.heap.size→c b=i∨c b=0→F b):ItemAt w' c' i bi nb id it:=by
 exact h.keepB hk hx (hF _ h.lt (.inl h.col)) (fun hd=>hF _ (h.names hd).2.lt (.inl (h.names hd).1)) fun b hb hc=>hF b hb (.inr hc)
theorem ItemAt.notMap (h:ItemAt w c i bi nb id it){α κ:Type} [KeyL κ] {b:Nat}{f:κ→α→Value}{L:List (κ×α)}(hm:MapIs w b f L):bi≠b:=by
 obtain ⟨A,cp,h1,_⟩:=h.cells
 obtain ⟨_,E,⟨es,clock,h2,_⟩,_⟩:=hm
 intro e
 rw [e,h2] at h1
 injection h1 with h1
 cases h1
theorem TreeAt.ltT (h:TreeAt w c i bt q T):bt<w.heap.size:=(Array.getElem?_eq_some_iff.1 h.tree).1
theorem TreeAt.ltM (h:TreeAt w c i bt q T):q.bm<w.heap.size:=h.own.lt
theorem TreeAt.keep (h:TreeAt w c i bt q T) (hk:Keep F w w') (hx:Ext w c c') (hF:∀ b,b<w.heap.size→c b=i∨c b=0→F b):TreeAt w' c' i bt q T:=by
 exact ⟨(hk.block bt h.ltT (hF _ h.ltT (.inl h.col.1))).trans h.tree,h.own.keep hk (hF _ h.ltM (.inl h.col.2)),fun k it hg=>(h.item k it hg).keep hk hx hF,⟨(hx _ h.ltT).trans h.col.1,(hx _ h.ltM).trans h.col.2⟩,h.inj,h.far⟩
theorem TreeAt.new (h:TreeAt w c i bt q T) (hk:New w w'):TreeAt w' c i bt q T:=h.keep hk (Ext.refl _ _) fun _ _ _=>trivial
end
def freshItem (kind:Int):ItemP:=⟨⟨kind,1,0,0,decide (kind=2)⟩,[],[]⟩
theorem names_made (w:World):NamesAt (w.alloc (.map #[] 0)) w.heap.size []:=MapIs.made w _
theorem fresh_any (c:Col) (i:Nat) (id kind:Int) (hk:kind=1∨kind=2) (w:World):
  Calls Tryz.prog 152 #[.int .i64 id,.int .i64 kind] w fun e w'=>∃ (bi nb:Nat) (c':Col),e=.returned (.pointer (some ⟨bi,0,none⟩))∧New w w'∧w.heap.size≤bi∧w.heap.size≤nb∧Ext w c c'∧ItemAt w' c' i bi nb id (freshItem kind):=by
 rcases hk with rfl|rfl
 ·go_enter Tryz.func152,Tryz.ntmps152
  go_wp2_with fail
  go_ret
  refine ⟨w.heap.size,w.heap.size,c.on w.heap.size fun _=>i,rfl,(New.refl w).alloc _,Nat.le_refl _,Nat.le_refl _,Col.on_ext c w _,?_⟩
  exact ⟨Col.on_new c _ (Nat.le_refl _),⟨none,0,heap_alloc_new w _,Nat.le_refl _,by decide,Row.nil _ _ _ _⟩,fun h=>(by cases h),fun _=>rfl⟩
 ·have hmm:=@run_makeMap Tryz.prog
  go_enter Tryz.func152,Tryz.ntmps152
  go_wp2_with fail
  go_ret
  have h1:=heap_alloc_new w (.cells #[.int .i64 id,.int .i64 2,.int .i64 1,.int .i64 0,.int .u64 0,.bool true,.slice none 0 0,.map (some (w.heap.size+1))] 221)
  have k1:=(New.refl w).alloc (.cells #[.int .i64 id,.int .i64 2,.int .i64 1,.int .i64 0,.int .u64 0,.bool true,.slice none 0 0,.map (some (w.heap.size+1))] 221)
  have z1:(w.alloc (.cells #[.int .i64 id,.int .i64 2,.int .i64 1,.int .i64 0,.int .u64 0,.bool true,.slice none 0 0,.map (some (w.heap.size+1))] 221)).heap.size=w.heap.size+1:=by simp
  generalize w.alloc (.cells #[.int .i64 id,.int .i64 2,.int .i64 1,.int .i64 0,.int .u64 0,.bool true,.slice none 0 0,.map (some (w.heap.size+1))] 221)=w1 at *
  have h2:=names_made w1
  have k2:=(New.refl w1).alloc (.map #[] 0)
  refine ⟨w.heap.size,w.heap.size+1,c.on w.heap.size fun _=>i,rfl,k1.new k2,Nat.le_refl _,Nat.le_succ _,Col.on_ext c w _,?_⟩
  refine ⟨Col.on_new c _ (Nat.le_refl _),⟨none,0,k2.blockAt h1 trivial,Nat.le_refl _,by decide,Row.nil _ _ _ _⟩,fun _=>⟨Col.on_new c _ (Nat.le_succ _),?_⟩,fun _=>rfl⟩
  rw [← z1]
  exact h2
theorem wf0 {k:Int}(h0 : -9223372036854775808≤k) (h1:k≤9223372036854775807):KeyL.wf (κ:=Int) k:=by
 show (Lit.int .i64 k).wf=true
 simp [Lit.wf,IntKind.min,IntKind.max,IntKind.signed,IntKind.bits]
 omega
theorem tnew_any (c:Col) (i:Nat) (hi:i≠0) (w:World):
  Calls Tryz.prog 118 #[] w fun e w'=>∃ (bt:Nat) (q:TreeB) (c':Col),e=.returned (.pointer (some ⟨bt,0,none⟩))∧New w w'∧w.heap.size≤bt∧Ext w c c'∧TreeAt w' c' i bt q [(0,freshItem 2)]:=by
 have hmm:=@run_makeMap Tryz.prog
 have HF:=Lib.hid (fun W=>fresh_any (c.on w.heap.size fun _=>i) i 0 2 (.inr rfl) W)
 go_enter Tryz.func118,Tryz.ntmps118
 go_wp2_with fail
 have m1:=MapIs.made (κ:=Int) (α:=ItemP) w (fun _ _=>.pointer none)
 have k1:=(New.refl w).alloc (.map #[] 0)
 have z1:(w.alloc (.map #[] 0)).heap.size=w.heap.size+1:=by simp
 refine (HF.out _).mono ?_
 rintro e w2 ⟨bi,nb,c1,rfl,k2,hbi,hnb,hx1,hit⟩
 rw [z1] at hbi hnb
 have m2:=(m1.new k2).fn (g:=fun _ _=>.pointer (some ⟨bi,0,none⟩)) (fun k x hx=>by cases hx)
 obtain ⟨w3,hrun,m3,k3,z3⟩:=m2.store Tryz.underlying211 (by decide) (wf0 (k:=0) (by decide) (by decide)) (freshItem 2)
 have hrun':(Instr.mapUpdate 211 (.map (some w.heap.size)) (.int .i64 0) (.pointer (some ⟨bi,0,none⟩))).run Tryz.prog w2=.ok () w3:=hrun
 have HH:=Lib.hid (And.intro k1 (And.intro k2 (And.intro hx1 (And.intro hit (And.intro m3 (And.intro k3 z3))))))
 clear m1 k1 k2 hx1 hit m2 hrun m3 k3 z3 HF
 go_wp2_with fail
 go_ret
 obtain ⟨k1,k2,hx1,hit,m3,k3,z3⟩:=HH.out
 have hz2:=k2.size
 rw [z1] at hz2
 have h4:=heap_alloc_new w3 (.cells #[.map (some w.heap.size)] 213)
 have k4:=(New.refl w3).alloc (.cells #[.map (some w.heap.size)] 213)
 generalize w3.alloc (.cells #[.map (some w.heap.size)] 213)=w4 at *
 have hnew:New w w4:=by
  refine Keep.toNew (D:=fun b=>b<w.heap.size) ((Keep.trans2 (D:=fun b=>b<w.heap.size) (Keep.of_new (k1.new k2)) k3 fun b hb _=>by omega).new k4) fun b hb=>hb
 refine ⟨w3.heap.size,⟨w.heap.size,fun _=>bi,fun _=>nb⟩,c1.on w3.heap.size fun _=>i,rfl,hnew,by omega,?_,?_⟩
 ·intro b hb
  rw [Col.on_old _ _ (by omega),hx1 b (by rw [z1];omega),Col.on_old _ _ hb]
 ·have hbm:c1 w.heap.size=i:=by rw [hx1 _ (by rw [z1];omega),Col.on_new _ _ (Nat.le_refl _)]
  have hit3:ItemAt w4 (c1.on w3.heap.size fun _=>i) i bi nb 0 (freshItem 2):=(hit.keepB (c':=c1) k3 (Ext.refl _ _) (by omega) (fun _=>by omega) (fun b hb hc e=>by rw [e,hbm] at hc;exact hi hc)).keep (c':=c1.on w3.heap.size fun _=>i) k4 (Col.on_ext _ _ _) (fun _ _ _=>trivial)
  refine ⟨h4,m3.new k4,fun k it hg=>?_,⟨Col.on_new _ _ (Nat.le_refl _),by show (c1.on _ _) w.heap.size=i;rw [Col.on_old _ _ (by omega)];exact hbm⟩,fun k k' it it' h1 h2 hne=>?_,fun _ _ _ _=>by show nb≠w.heap.size;omega⟩
  ·have hk:k=0∧it=freshItem 2:=by
    unfold getK getK at hg
    split at hg
    ·rename_i e;injection hg with hg;exact ⟨e.symm,hg.symm⟩
    ·cases hg
   rw [hk.1,hk.2]
   exact hit3
  ·exfalso
   unfold getK getK at h1 h2
   split at h1
   ·split at h2
    ·omega
    ·cases h2
   ·cases h1
end Go.Proofs.YtdodbdednpnddaaGreatDoor
namespace Go.Proofs.YtdodbdednpnddaaGreatDoor
abbrev PathP:=List (List UInt8)
def goodByte (b:UInt8):Bool:=(decide (97≤b.toNat)&&decide (b.toNat≤122))||(decide (48≤b.toNat)&&decide (b.toNat≤57))||decide (b.toNat=46)||decide (b.toNat=45)||decide (b.toNat=95)
def goodName (s:List UInt8):Bool:=s.all goodByte&&decide (s≠[])&&decide (s.length≤16)&&decide (s≠[46])&&decide (s≠[46,46])
def finePath (p:PathP):Int:=if p.all goodName=true then (if 8<p.length then 3 else 0) else 12
def dirOf (T:TreeP) (id:Int):Option (List (List UInt8×Int)):=match getK T id with
 | some it=>if it.n.kind=2 then some it.names else none
 | none=>none
def walkT (T:TreeP):Int→PathP→Int×Int
 | id,[]=>(id,0)
 | id,nm::r=>match dirOf T id with
  | none=>(0,23)
  | some l=>match getK l nm with
   | none=>(0,20)
   | some k=>walkT T k r
def placeT (T:TreeP) (p:PathP):Int×List UInt8×Int :=
 if p=[] then (0,[],1)
 else if (walkT T 0 p.dropLast).2≠0 then (0,[],(walkT T 0 p.dropLast).2)
 else match dirOf T (walkT T 0 p.dropLast).1 with
  | none=>(0,[],23)
  | some _=>((walkT T 0 p.dropLast).1,p.getLastD [],0)
def namesT (T:TreeP) (id:Int):List (List UInt8×Int):=(dirOf T id).getD []
def setNames (T:TreeP) (id:Int) (l:List (List UInt8×Int)):TreeP:=match getK T id with
 | some it=>putK id { it with names:=l } T
 | none=>T
def freeFrom (T:TreeP):Nat→Int→Int
 | 0,k=>k
 | n+1,k=>if (getK T k).isSome then freeFrom T n (k+1) else k
def freeT (T:TreeP):Int:=freeFrom T T.length 1
def makeT (T:TreeP) (p:PathP) (kind:Int):Int×Int×TreeP :=
 if finePath p≠0 then (0,finePath p,T)
 else if kind≠1∧kind≠2 then (0,30,T)
 else if (placeT T p).2.2≠0 then (0,(placeT T p).2.2,T)
 else if (getK (namesT T (placeT T p).1) (placeT T p).2.1).isSome then (0,21,T)
 else if 64≤T.length then (0,4,T)
 else (freeT T,0,setNames (putK (freeT T) (freshItem kind) T) (placeT T p).1 (putK (placeT T p).2.1 (freeT T) (namesT T (placeT T p).1)))
def kindT (T:TreeP) (id:Int):Int:=match getK T id with
 | some it=>it.n.kind
 | none=>0
end Go.Proofs.YtdodbdednpnddaaGreatDoor
namespace Go.Proofs.YtdodbdednpnddaaGreatDoor
def entsT (T:TreeP):List (Int×List UInt8×Int):=T.flatMap fun p=>p.2.names.map fun x=>(p.1,x.1,x.2)
def countT (T:TreeP) (k:Int):Nat:=(entsT T).countP fun e=>decide (e.2.2=k)
structure NodeInv (it:ItemP):Prop where
 kind:it.n.kind=1∨it.n.kind=2
 bare:it.n.kind=1→it.names=[]
 dir:it.n.kind=2→it.b=[]∧it.n.till=0∧it.n.shut=true∧it.n.links=1
 size:it.n.size=it.b.length∧it.b.length≤4096
 till:0≤it.n.till∧it.n.till≤1099511627776
structure TreeInv (T:TreeP):Prop where
 rising:Rising T
 names:∀ k it,getK T k=some it→Rising it.names
 few:T.length≤64
 ids:∀ k it,getK T k=some it→0≤k∧k≤63
 root:kindT T 0=2
 node:∀ k it,getK T k=some it→NodeInv it
 leads:∀ d it nm k,getK T d=some it→getK it.names nm=some k→k≠0∧goodName nm=true∧(getK T k).isSome
 count:∀ k it,getK T k=some it→k≠0→it.n.links=(countT T k:Nat)
 alive:∀ k it,getK T k=some it→it.n.links=0→it.n.shut=false
 depth:∃ dep:Int→Nat,dep 0=0∧∀ d it nm k,getK T d=some it→getK it.names nm=some k→dep d<8∧(kindT T k=2→dep k=dep d+1)
section
variable {κ α:Type} [Ord2 κ] {l:List (κ×α)}{k:κ}{v:α}
end
theorem dirOf_some {T:TreeP}{k:Int}{l:List (List UInt8×Int)}(h:dirOf T k=some l):∃ it,getK T k=some it∧it.n.kind=2∧it.names=l:=by
 unfold dirOf at h
 split at h
 ·rename_i it e
  split at h
  ·rename_i hk
   injection h with h
   exact ⟨it,e,hk,h⟩
  ·cases h
 ·cases h
theorem dirOf_of {T:TreeP}{k:Int}{it:ItemP}(h:getK T k=some it) (hk:it.n.kind=2):dirOf T k=some it.names:=by unfold dirOf;rw [h];dsimp only;rw [if_pos hk]
theorem namesT_of {T:TreeP}{k:Int}{it:ItemP}(h:getK T k=some it) (hk:it.n.kind=2):namesT T k=it.names:=by unfold namesT;rw [dirOf_of h hk];rfl
theorem setNames_of {T:TreeP}{k:Int}{it:ItemP}(l:List (List UInt8×Int)) (h:getK T k=some it):setNames T k l=putK k { it with names:=l } T:=by unfold setNames;rw [h]
end Go.Proofs.YtdodbdednpnddaaGreatDoor
namespace Go.Proofs.YtdodbdednpnddaaGreatDoor
theorem walk_some {T:TreeP}(h:TreeInv T):∀ (p:PathP) (id:Int),(getK T id).isSome→∀ k,walkT T id p=(k,0)→(getK T k).isSome
 | [],id,h0,k,e=>by unfold walkT at e;injection e with e;rw [← e];exact h0
 | nm::r,id,h0,k,e=>by
  unfold walkT at e
  split at e
  ·cases e
  rename_i l hl
  split at e
  ·cases e
  rename_i j hj
  obtain ⟨it,hg,hk,rfl⟩:=dirOf_some hl
  exact walk_some h r j (h.leads id it nm j hg hj).2.2 k e
theorem place_ok {T:TreeP}{p:PathP}(he:(placeT T p).2.2=0):p≠[]∧walkT T 0 p.dropLast=((placeT T p).1,0)∧(∃ it,getK T (placeT T p).1=some it∧it.n.kind=2∧namesT T (placeT T p).1=it.names)∧(placeT T p).2.1=p.getLastD []:=by
 by_cases hp:p=[]
 ·unfold placeT at he
  rw [if_pos hp] at he
  cases he
 by_cases h1:(walkT T 0 p.dropLast).2=0
 ·cases hl:dirOf T (walkT T 0 p.dropLast).1 with
  | none =>
   unfold placeT at he
   rw [if_neg hp,if_neg (fun hh=>hh h1),hl] at he
   cases he
  | some l =>
   have e:placeT T p=((walkT T 0 p.dropLast).1,p.getLastD [],0):=by unfold placeT;rw [if_neg hp,if_neg (fun hh=>hh h1),hl]
   obtain ⟨it,hg,hk,rfl⟩:=dirOf_some hl
   rw [e]
   exact ⟨hp,Prod.ext rfl h1,⟨it,hg,hk,namesT_of hg hk⟩,rfl⟩
 ·unfold placeT at he
  rw [if_neg hp,if_pos h1] at he
  exact absurd he h1
theorem good_last {p:PathP}(h:finePath p=0) (hp:p≠[]):goodName (p.getLastD [])=true:=by
 unfold finePath at h
 split at h
 ·rename_i ha
  rw [List.getLastD_eq_getLast?,List.getLast?_eq_some_getLast hp]
  exact (List.all_eq_true.1 ha) _ (List.getLast_mem hp)
 ·cases h
theorem fine_len {p:PathP}(h:finePath p=0):p.length≤8:=by
 unfold finePath at h
 split at h
 ·split at h
  ·cases h
  ·omega
 ·cases h
theorem freeFrom_spec {T:TreeP}:∀ (n:Nat) (k:Int),k≤freeFrom T n k∧freeFrom T n k≤k+n∧(∀ j,k≤j→j<freeFrom T n k→(getK T j).isSome)
 | 0,k=>⟨Int.le_refl _,by unfold freeFrom;omega,fun j h1 h2=>by unfold freeFrom at h2;omega⟩
 | n+1,k=>by
  unfold freeFrom
  split
  ·rename_i hs
   obtain ⟨h1,h2,h3⟩:=freeFrom_spec (T:=T) n (k+1)
   refine ⟨by omega,by omega,fun j hj1 hj2=>?_⟩
   by_cases e:j=k
   ·rw [e];exact hs
   ·exact h3 j (by omega) hj2
  ·exact ⟨Int.le_refl _,by omega,fun j h1 h2=>by omega⟩
theorem rising_many {T:TreeP}(hr:Rising T):∀ (n:Nat) (a:Int),(∀ j,a≤j→j<a+n→(getK T j).isSome)→n≤(T.filter fun p=>decide (a≤p.1)).length
 | 0,_,_=>Nat.zero_le _
 | n+1,a,h=>by
  have h1:=rising_many hr n (a+1) (fun j h1 h2=>h j (by omega) (by omega))
  have h2:=h a (Int.le_refl _) (by omega)
  obtain ⟨it,hg⟩:=Option.isSome_iff_exists.1 h2
  have hm:=getK_mem hg
  have:(T.filter fun p=>decide (a+1≤p.1)).length+1≤(T.filter fun p=>decide (a≤p.1)).length:=by
   clear h1 h2 hg h
   induction T with
   | nil=>cases hm
   | cons q r ih =>
    have hr1:=List.pairwise_cons.1 hr
    rcases List.mem_cons.1 hm with e|hm
    ·have e1:q.1=a:=by rw [← e]
     rw [List.filter_cons,List.filter_cons,if_neg (by simp [e1];omega),if_pos (by simp [e1]),List.length_cons]
     refine Nat.succ_le_succ ?_
     rw [← List.countP_eq_length_filter,← List.countP_eq_length_filter]
     refine List.countP_mono_left fun x _ hx=>?_
     simp at hx ⊢
     omega
    ·have:=ih hr1.2 hm
     have hq:q.1<a:=hr1.1 _ hm
     rw [List.filter_cons,List.filter_cons,if_neg (by simp;omega),if_neg (by simp;omega)]
     exact this
  omega
theorem free_ok {T:TreeP}(h:TreeInv T) (hl:T.length<64):getK T (freeT T)=none∧1≤freeT T∧freeT T≤63∧∀ j,1≤j→j<freeT T→(getK T j).isSome:=by
 unfold freeT
 obtain ⟨h1,h2,h3⟩:=freeFrom_spec (T:=T) T.length 1
 obtain ⟨f,hf⟩:∃ f,f=freeFrom T T.length 1:=⟨_,rfl⟩
 have h0:(getK T 0).isSome:=by
  have:=h.root
  unfold kindT at this
  cases e:getK T 0 with
  | none=>rw [e] at this;exact absurd this (by decide)
  | some x=>rfl
 have hcount:f.toNat≤T.length:=by
  have:=rising_many h.rising f.toNat 0 (fun j hj1 hj2=>by
   by_cases e:j=0
   ·rw [e];exact h0
   ·exact h3 j (by omega) (by omega))
  exact Nat.le_trans this (List.length_filter_le _ _)
 refine ⟨?_,h1,by omega,h3⟩
 cases e:getK T (freeFrom T T.length 1) with
 | none=>rfl
 | some x =>
  exfalso
  have hfin:freeFrom T T.length 1=1+T.length:=by
   clear hcount hf h0 h3 h2 h1 hl h
   have key:∀ (n:Nat) (k:Int),(getK T (freeFrom T n k)).isSome→freeFrom T n k=k+n:=by
    intro n
    induction n with
    | zero=>intro k _;unfold freeFrom;omega
    | succ n ih =>
     intro k hk
     unfold freeFrom at hk ⊢
     split
     ·rename_i hs
      rw [if_pos hs] at hk
      rw [ih _ hk];omega
     ·rename_i hs
      rw [if_neg hs] at hk
      exact absurd hk hs
   exact key _ _ (by rw [e];rfl)
  omega
theorem some_of_not {α β:Type} [Ord2 α] {l:List (α×β)}{k:α}(h:¬ (getK l k).isSome):getK l k=none:=by
 cases e:getK l k with
 | none=>rfl
 | some x=>rw [e] at h;exact absurd rfl h
end Go.Proofs.YtdodbdednpnddaaGreatDoor
namespace Go.Proofs.YtdodbdednpnddaaGreatDoor
open Go.Shelf
def keysT_ren:Go.Shelf.Ren:=⟨fun|7=>212|10=>274|n=>n,fun|23=>211|26=>3|3=>209|28=>270|0=>0|27=>269|33=>76|4=>4|n=>n,fun|n=>n⟩
theorem keysT:Go.Proofs.SlLaysZI.n7 Tryz.prog keysT_ren:={
 mixed:=by kernel_rfl
 f7:=⟨Tryz.f212.name,by decide,Tryz.func212.trans (congrArg some (by kernel_rfl))⟩
 f10:=⟨Tryz.f274.name,by decide,Tryz.func274.trans (congrArg some (by kernel_rfl))⟩
 t0:=Tryz.underlying0
 a0:=Tryz.isAgg0
 z0:=Tryz.sizeOf0
 v0:=Tryz.zeroValue0
 t4:=Tryz.underlying4
 a4:=Tryz.isAgg4
 z4:=Tryz.sizeOf4
 v4:=Tryz.zeroValue4
 t23:=Tryz.underlying211
 a23:=Tryz.isAgg211
 z23:=Tryz.sizeOf211
 v23:=Tryz.zeroValue211
 t26:=Tryz.underlying3
 a26:=Tryz.isAgg3
 z26:=Tryz.sizeOf3
 v26:=Tryz.zeroValue3
 t27:=Tryz.underlying269
 a27:=Tryz.isAgg269
 z27:=Tryz.sizeOf269
 v27:=Tryz.zeroValue269
 t28:=Tryz.underlying270
 a28:=Tryz.isAgg270
 z28:=Tryz.sizeOf270
 v28:=Tryz.zeroValue270
 t33:=Tryz.underlying76
 a33:=Tryz.isAgg76
 z33:=Tryz.sizeOf76
 v33:=Tryz.zeroValue76 }
def sortedI_ren:Go.Shelf.Ren:=⟨fun|6=>197|8=>263|9=>264|11=>302|13=>277|12=>303|23=>317|24=>140|14=>328|15=>329|16=>330|17=>331|18=>332|19=>333|20=>334|21=>335|22=>336|25=>351|26=>341|27=>342|28=>352|29=>353|30=>354|31=>362|n=>n,fun|26=>3|28=>270|24=>65|0=>0|3=>3|37=>114|48=>163|50=>26|4=>4|40=>394|39=>393|45=>301|5=>5|9=>9|51=>411|55=>414|57=>428|58=>429|33=>76|n=>n,fun|n=>n⟩
theorem sortedI:Go.Proofs.SlLaysZI.n6 Tryz.prog sortedI_ren:={
 mixed:=by kernel_rfl
 f6:=⟨Tryz.f197.name,by decide,Tryz.func197.trans (congrArg some (by kernel_rfl))⟩
 f8:=⟨Tryz.f263.name,by decide,Tryz.func263.trans (congrArg some (by kernel_rfl))⟩
 f11:=⟨Tryz.f302.name,by decide,Tryz.func302.trans (congrArg some (by kernel_rfl))⟩
 t0:=Tryz.underlying0
 a0:=Tryz.isAgg0
 z0:=Tryz.sizeOf0
 v0:=Tryz.zeroValue0
 t24:=Tryz.underlying65
 a24:=Tryz.isAgg65
 z24:=Tryz.sizeOf65
 v24:=Tryz.zeroValue65
 t26:=Tryz.underlying3
 a26:=Tryz.isAgg3
 z26:=Tryz.sizeOf3
 v26:=Tryz.zeroValue3
 t28:=Tryz.underlying270
 a28:=Tryz.isAgg270
 z28:=Tryz.sizeOf270
 v28:=Tryz.zeroValue270
 i26:=by kernel_rfl }
def sortI_ren:Go.Shelf.Ren:=⟨fun|5=>264|8=>277|7=>303|19=>317|20=>140|10=>328|11=>329|12=>330|13=>331|14=>332|15=>333|16=>334|17=>335|18=>336|30=>351|31=>341|32=>342|33=>352|34=>353|35=>354|40=>362|n=>n,fun|23=>65|25=>3|3=>3|32=>114|22=>65|0=>0|44=>163|46=>26|4=>4|36=>394|35=>393|41=>301|5=>5|9=>9|53=>411|57=>414|63=>428|64=>429|n=>n,fun|n=>n⟩
theorem sortI:Go.Proofs.SlLaysM.n5 Tryz.prog sortI_ren:={
 mixed:=by kernel_rfl
 f5:=⟨Tryz.f264.name,by decide,Tryz.func264.trans (congrArg some (by kernel_rfl))⟩
 f7:=⟨Tryz.f303.name,by decide,Tryz.func303.trans (congrArg some (by kernel_rfl))⟩
 f8:=Tryz.func277.trans (congrArg some (by kernel_rfl))
 f10:=⟨Tryz.f328.name,by decide,Tryz.func328.trans (congrArg some (by kernel_rfl))⟩
 f11:=⟨Tryz.f329.name,by decide,Tryz.func329.trans (congrArg some (by kernel_rfl))⟩
 f12:=⟨Tryz.f330.name,by decide,Tryz.func330.trans (congrArg some (by kernel_rfl))⟩
 f13:=⟨Tryz.f331.name,by decide,Tryz.func331.trans (congrArg some (by kernel_rfl))⟩
 f14:=⟨Tryz.f332.name,by decide,Tryz.func332.trans (congrArg some (by kernel_rfl))⟩
 f15:=⟨Tryz.f333.name,by decide,Tryz.func333.trans (congrArg some (by kernel_rfl))⟩
 f16:=⟨Tryz.f334.name,by decide,Tryz.func334.trans (congrArg some (by kernel_rfl))⟩
 f17:=⟨Tryz.f335.name,by decide,Tryz.func335.trans (congrArg some (by kernel_rfl))⟩
 f18:=⟨Tryz.f336.name,by decide,Tryz.func336.trans (congrArg some (by kernel_rfl))⟩
 f19:=Tryz.func317.trans (congrArg some (by kernel_rfl))
 f20:=Tryz.func140.trans (congrArg some (by kernel_rfl))
 f30:=⟨Tryz.f351.name,by decide,Tryz.func351.trans (congrArg some (by kernel_rfl))⟩
 f31:=Tryz.func341.trans (congrArg some (by kernel_rfl))
 f32:=Tryz.func342.trans (congrArg some (by kernel_rfl))
 f33:=⟨Tryz.f352.name,by decide,Tryz.func352.trans (congrArg some (by kernel_rfl))⟩
 f34:=⟨Tryz.f353.name,by decide,Tryz.func353.trans (congrArg some (by kernel_rfl))⟩
 f35:=⟨Tryz.f354.name,by decide,Tryz.func354.trans (congrArg some (by kernel_rfl))⟩
 f40:=⟨Tryz.f362.name,by decide,Tryz.func362.trans (congrArg some (by kernel_rfl))⟩
 t0:=Tryz.underlying0
 a0:=Tryz.isAgg0
 z0:=Tryz.sizeOf0
 v0:=Tryz.zeroValue0
 t3:=Tryz.underlying3
 a3:=Tryz.isAgg3
 z3:=Tryz.sizeOf3
 v3:=Tryz.zeroValue3
 t4:=Tryz.underlying4
 a4:=Tryz.isAgg4
 z4:=Tryz.sizeOf4
 v4:=Tryz.zeroValue4
 t5:=Tryz.underlying5
 a5:=Tryz.isAgg5
 z5:=Tryz.sizeOf5
 v5:=Tryz.zeroValue5
 t9:=Tryz.underlying9
 a9:=Tryz.isAgg9
 z9:=Tryz.sizeOf9
 v9:=Tryz.zeroValue9
 t22:=Tryz.underlying65
 a22:=Tryz.isAgg65
 z22:=Tryz.sizeOf65
 v22:=Tryz.zeroValue65
 t23:=Tryz.underlying65
 a23:=Tryz.isAgg65
 z23:=Tryz.sizeOf65
 v23:=Tryz.zeroValue65
 t25:=Tryz.underlying3
 a25:=Tryz.isAgg3
 z25:=Tryz.sizeOf3
 v25:=Tryz.zeroValue3
 t32:=Tryz.underlying114
 a32:=Tryz.isAgg114
 z32:=Tryz.sizeOf114
 v32:=Tryz.zeroValue114
 t35:=Tryz.underlying393
 a35:=Tryz.isAgg393
 z35:=Tryz.sizeOf393
 v35:=Tryz.zeroValue393
 t36:=Tryz.underlying394
 a36:=Tryz.isAgg394
 z36:=Tryz.sizeOf394
 v36:=Tryz.zeroValue394
 t41:=Tryz.underlying301
 a41:=Tryz.isAgg301
 z41:=Tryz.sizeOf301
 v41:=Tryz.zeroValue301
 t44:=Tryz.underlying163
 a44:=Tryz.isAgg163
 z44:=Tryz.sizeOf163
 v44:=Tryz.zeroValue163
 t46:=Tryz.underlying26
 a46:=Tryz.isAgg26
 z46:=Tryz.sizeOf26
 v46:=Tryz.zeroValue26
 t53:=Tryz.underlying411
 a53:=Tryz.isAgg411
 z53:=Tryz.sizeOf411
 v53:=Tryz.zeroValue411
 t57:=Tryz.underlying414
 a57:=Tryz.isAgg414
 z57:=Tryz.sizeOf414
 v57:=Tryz.zeroValue414
 t63:=Tryz.underlying428
 a63:=Tryz.isAgg428
 z63:=Tryz.sizeOf428
 v63:=Tryz.zeroValue428
 t64:=Tryz.underlying429
 a64:=Tryz.isAgg429
 z64:=Tryz.sizeOf429
 v64:=Tryz.zeroValue429 }
def keysN_ren:Go.Shelf.Ren:=⟨fun|7=>158|10=>219|n=>n,fun|23=>219|26=>9|3=>3|28=>224|0=>0|27=>223|33=>297|4=>4|n=>n,fun|n=>n⟩
theorem keysN:Go.Proofs.SlLaysZ.n7 Tryz.prog keysN_ren:={
 mixed:=by kernel_rfl
 f7:=⟨Tryz.f158.name,by decide,Tryz.func158.trans (congrArg some (by kernel_rfl))⟩
 f10:=⟨Tryz.f219.name,by decide,Tryz.func219.trans (congrArg some (by kernel_rfl))⟩
 t0:=Tryz.underlying0
 a0:=Tryz.isAgg0
 z0:=Tryz.sizeOf0
 v0:=Tryz.zeroValue0
 t4:=Tryz.underlying4
 a4:=Tryz.isAgg4
 z4:=Tryz.sizeOf4
 v4:=Tryz.zeroValue4
 t23:=Tryz.underlying219
 a23:=Tryz.isAgg219
 z23:=Tryz.sizeOf219
 v23:=Tryz.zeroValue219
 t26:=Tryz.underlying9
 a26:=Tryz.isAgg9
 z26:=Tryz.sizeOf9
 v26:=Tryz.zeroValue9
 t27:=Tryz.underlying223
 a27:=Tryz.isAgg223
 z27:=Tryz.sizeOf223
 v27:=Tryz.zeroValue223
 t28:=Tryz.underlying224
 a28:=Tryz.isAgg224
 z28:=Tryz.sizeOf224
 v28:=Tryz.zeroValue224
 t33:=Tryz.underlying297
 a33:=Tryz.isAgg297
 z33:=Tryz.sizeOf297
 v33:=Tryz.zeroValue297 }
def sortedN_ren:Go.Shelf.Ren:=⟨fun|6=>157|8=>217|9=>218|11=>275|13=>277|12=>276|23=>317|24=>140|14=>308|15=>309|16=>310|17=>311|18=>312|19=>313|20=>314|21=>315|22=>316|25=>340|26=>341|27=>342|28=>343|29=>344|30=>345|31=>357|n=>n,fun|26=>9|28=>224|24=>25|0=>0|3=>3|37=>114|48=>163|50=>26|4=>4|40=>394|39=>393|45=>301|5=>5|9=>9|51=>411|55=>414|57=>428|58=>429|33=>297|n=>n,fun|n=>n⟩
theorem sortedN:Go.Proofs.SlLaysZ.n6 Tryz.prog sortedN_ren:={
 mixed:=by kernel_rfl
 f6:=⟨Tryz.f157.name,by decide,Tryz.func157.trans (congrArg some (by kernel_rfl))⟩
 f8:=⟨Tryz.f217.name,by decide,Tryz.func217.trans (congrArg some (by kernel_rfl))⟩
 f11:=⟨Tryz.f275.name,by decide,Tryz.func275.trans (congrArg some (by kernel_rfl))⟩
 t0:=Tryz.underlying0
 a0:=Tryz.isAgg0
 z0:=Tryz.sizeOf0
 v0:=Tryz.zeroValue0
 t24:=Tryz.underlying25
 a24:=Tryz.isAgg25
 z24:=Tryz.sizeOf25
 v24:=Tryz.zeroValue25
 t26:=Tryz.underlying9
 a26:=Tryz.isAgg9
 z26:=Tryz.sizeOf9
 v26:=Tryz.zeroValue9
 t28:=Tryz.underlying224
 a28:=Tryz.isAgg224
 z28:=Tryz.sizeOf224
 v28:=Tryz.zeroValue224
 i26:=by kernel_rfl }
def sortN_ren:Go.Shelf.Ren:=⟨fun|6=>218|8=>277|9=>276|19=>317|20=>140|21=>308|22=>309|23=>310|24=>311|25=>312|26=>313|27=>314|28=>315|29=>316|36=>340|31=>341|32=>342|37=>343|38=>344|39=>345|41=>357|n=>n,fun|27=>25|29=>9|3=>3|32=>114|26=>25|0=>0|44=>163|46=>26|4=>4|36=>394|35=>393|41=>301|5=>5|9=>9|53=>411|57=>414|63=>428|64=>429|n=>n,fun|n=>n⟩
theorem sortN:Go.Proofs.SlLaysM.n6 Tryz.prog sortN_ren:={
 mixed:=by kernel_rfl
 f6:=⟨Tryz.f218.name,by decide,Tryz.func218.trans (congrArg some (by kernel_rfl))⟩
 f8:=Tryz.func277.trans (congrArg some (by kernel_rfl))
 f9:=⟨Tryz.f276.name,by decide,Tryz.func276.trans (congrArg some (by kernel_rfl))⟩
 f19:=Tryz.func317.trans (congrArg some (by kernel_rfl))
 f20:=Tryz.func140.trans (congrArg some (by kernel_rfl))
 f21:=⟨Tryz.f308.name,by decide,Tryz.func308.trans (congrArg some (by kernel_rfl))⟩
 f22:=⟨Tryz.f309.name,by decide,Tryz.func309.trans (congrArg some (by kernel_rfl))⟩
 f23:=⟨Tryz.f310.name,by decide,Tryz.func310.trans (congrArg some (by kernel_rfl))⟩
 f24:=⟨Tryz.f311.name,by decide,Tryz.func311.trans (congrArg some (by kernel_rfl))⟩
 f25:=⟨Tryz.f312.name,by decide,Tryz.func312.trans (congrArg some (by kernel_rfl))⟩
 f26:=⟨Tryz.f313.name,by decide,Tryz.func313.trans (congrArg some (by kernel_rfl))⟩
 f27:=⟨Tryz.f314.name,by decide,Tryz.func314.trans (congrArg some (by kernel_rfl))⟩
 f28:=⟨Tryz.f315.name,by decide,Tryz.func315.trans (congrArg some (by kernel_rfl))⟩
 f29:=⟨Tryz.f316.name,by decide,Tryz.func316.trans (congrArg some (by kernel_rfl))⟩
 f31:=Tryz.func341.trans (congrArg some (by kernel_rfl))
 f32:=Tryz.func342.trans (congrArg some (by kernel_rfl))
 f36:=⟨Tryz.f340.name,by decide,Tryz.func340.trans (congrArg some (by kernel_rfl))⟩
 f37:=⟨Tryz.f343.name,by decide,Tryz.func343.trans (congrArg some (by kernel_rfl))⟩
 f38:=⟨Tryz.f344.name,by decide,Tryz.func344.trans (congrArg some (by kernel_rfl))⟩
 f39:=⟨Tryz.f345.name,by decide,Tryz.func345.trans (congrArg some (by kernel_rfl))⟩
 f41:=⟨Tryz.f357.name,by decide,Tryz.func357.trans (congrArg some (by kernel_rfl))⟩
 t0:=Tryz.underlying0
 a0:=Tryz.isAgg0
 z0:=Tryz.sizeOf0
 v0:=Tryz.zeroValue0
 t3:=Tryz.underlying3
 a3:=Tryz.isAgg3
 z3:=Tryz.sizeOf3
 v3:=Tryz.zeroValue3
 t4:=Tryz.underlying4
 a4:=Tryz.isAgg4
 z4:=Tryz.sizeOf4
 v4:=Tryz.zeroValue4
 t5:=Tryz.underlying5
 a5:=Tryz.isAgg5
 z5:=Tryz.sizeOf5
 v5:=Tryz.zeroValue5
 t9:=Tryz.underlying9
 a9:=Tryz.isAgg9
 z9:=Tryz.sizeOf9
 v9:=Tryz.zeroValue9
 t26:=Tryz.underlying25
 a26:=Tryz.isAgg25
 z26:=Tryz.sizeOf25
 v26:=Tryz.zeroValue25
 t27:=Tryz.underlying25
 a27:=Tryz.isAgg25
 z27:=Tryz.sizeOf25
 v27:=Tryz.zeroValue25
 t29:=Tryz.underlying9
 a29:=Tryz.isAgg9
 z29:=Tryz.sizeOf9
 v29:=Tryz.zeroValue9
 t32:=Tryz.underlying114
 a32:=Tryz.isAgg114
 z32:=Tryz.sizeOf114
 v32:=Tryz.zeroValue114
 t35:=Tryz.underlying393
 a35:=Tryz.isAgg393
 z35:=Tryz.sizeOf393
 v35:=Tryz.zeroValue393
 t36:=Tryz.underlying394
 a36:=Tryz.isAgg394
 z36:=Tryz.sizeOf394
 v36:=Tryz.zeroValue394
 t41:=Tryz.underlying301
 a41:=Tryz.isAgg301
 z41:=Tryz.sizeOf301
 v41:=Tryz.zeroValue301
 t44:=Tryz.underlying163
 a44:=Tryz.isAgg163
 z44:=Tryz.sizeOf163
 v44:=Tryz.zeroValue163
 t46:=Tryz.underlying26
 a46:=Tryz.isAgg26
 z46:=Tryz.sizeOf26
 v46:=Tryz.zeroValue26
 t53:=Tryz.underlying411
 a53:=Tryz.isAgg411
 z53:=Tryz.sizeOf411
 v53:=Tryz.zeroValue411
 t57:=Tryz.underlying414
 a57:=Tryz.isAgg414
 z57:=Tryz.sizeOf414
 v57:=Tryz.zeroValue414
 t63:=Tryz.underlying428
 a63:=Tryz.isAgg428
 z63:=Tryz.sizeOf428
 v63:=Tryz.zeroValue428
 t64:=Tryz.underlying429
 a64:=Tryz.isAgg429
 z64:=Tryz.sizeOf429
 v64:=Tryz.zeroValue429 }
def cloneN_ren:Go.Shelf.Ren:=⟨fun|5=>211|7=>273|n=>n,fun|23=>219|25=>9|3=>3|4=>4|20=>20|n=>n,fun|n=>n⟩
theorem cloneN:Go.Proofs.SlLaysW.n5 Tryz.prog cloneN_ren:={
 mixed:=by kernel_rfl
 f5:=⟨Tryz.f211.name,by decide,Tryz.func211.trans (congrArg some (by kernel_rfl))⟩
 f7:=Tryz.func273.trans (congrArg some (by kernel_rfl))
 t4:=Tryz.underlying4
 a4:=Tryz.isAgg4
 z4:=Tryz.sizeOf4
 v4:=Tryz.zeroValue4
 t20:=Tryz.underlying20
 a20:=Tryz.isAgg20
 z20:=Tryz.sizeOf20
 v20:=Tryz.zeroValue20
 t23:=Tryz.underlying219
 a23:=Tryz.isAgg219
 z23:=Tryz.sizeOf219
 v23:=Tryz.zeroValue219 }
def delN_ren:Go.Shelf.Ren:=⟨fun|5=>214|n=>n,fun|23=>219|26=>9|24=>3|27=>294|0=>0|4=>4|n=>n,fun|n=>n⟩
theorem delN:Go.Proofs.SlLaysDf.n5 Tryz.prog delN_ren:={
 mixed:=by kernel_rfl
 f5:=⟨Tryz.f214.name,by decide,Tryz.func214.trans (congrArg some (by kernel_rfl))⟩
 t0:=Tryz.underlying0
 a0:=Tryz.isAgg0
 z0:=Tryz.sizeOf0
 v0:=Tryz.zeroValue0
 t4:=Tryz.underlying4
 a4:=Tryz.isAgg4
 z4:=Tryz.sizeOf4
 v4:=Tryz.zeroValue4
 t23:=Tryz.underlying219
 a23:=Tryz.isAgg219
 z23:=Tryz.sizeOf219
 v23:=Tryz.zeroValue219
 a24:=Tryz.isAgg3
 z24:=Tryz.sizeOf3
 a26:=Tryz.isAgg9
 z26:=Tryz.sizeOf9
 t27:=Tryz.underlying294
 a27:=Tryz.isAgg294
 z27:=Tryz.sizeOf294
 v27:=Tryz.zeroValue294 }
end Go.Proofs.YtdodbdednpnddaaGreatDoor
