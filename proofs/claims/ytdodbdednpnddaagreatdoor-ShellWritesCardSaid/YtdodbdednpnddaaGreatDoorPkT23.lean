/-
  PROVED HERE: what log.Lay does to a disk of which nothing is unsafe; conditions: the plan is a disk's, the segment is one of it.
-/
import Derived.Test.YtdodbdednpnddaaGreatDoorPkT21
import Derived.Test.YtdodbdednpnddaaGreatDoorPkT22
set_option maxRecDepth 100000
set_option maxHeartbeats 400000
namespace Go.Proofs.YtdodbdednpnddaaGreatDoor
open Go.RowKit Go.Shelf
open Go.Maps (Keyed)
attribute [local go_sem] Oper.semAt_some
def chunkOf (b:List UInt8) (x:Nat):List UInt8:=(b.drop (x*128)).take 128
def dirtOf (first:Nat) (b:List UInt8) (pre:List { x:Nat // x<8 }):Dirt:=fun k=>if (first:Int)≤k∧k<first+pre.length then (pre[(k-first).toNat]?).map fun x=>chunkOf b x.1 else none
theorem dirtOf_nil (first:Nat) (b:List UInt8):dirtOf first b []=Dirt.no:=by
 funext k
 unfold dirtOf
 rw [if_neg (by simp)];rfl
theorem dirtOf_snoc (first:Nat) (b:List UInt8) (pre:List { x:Nat // x<8 }) (x:{ x:Nat // x<8 }):dirtOf first b (pre++[x])=(dirtOf first b pre).put ((first+pre.length:Nat):Int) (chunkOf b x.1):=by
 funext k
 unfold dirtOf Dirt.put
 by_cases e:k=((first+pre.length:Nat):Int)
 ·rw [if_pos e,if_pos (by rw [List.length_append,List.length_singleton];omega),show (k-first).toNat=pre.length from by omega,List.getElem?_append_right (Nat.le_refl _)]
  simp
 ·rw [if_neg e]
  dsimp only
  by_cases h:(first:Int)≤k∧k<first+pre.length
  ·rw [if_pos h,if_pos (by rw [List.length_append,List.length_singleton];omega),List.getElem?_append_left (by omega)]
  ·rw [if_neg h,if_neg (by rw [List.length_append,List.length_singleton];omega)]
theorem dirtOf_some {first:Nat}{b:List UInt8}{pre:List { x:Nat // x<8 }}{k:Nat}{c:List UInt8}(h:dirtOf first b pre k=some c):first≤k∧k<first+pre.length:=by
 unfold dirtOf at h
 split at h
 ·omega
 ·cases h
theorem dirtOf_all {first:Nat}{S b:List UInt8}(hb:b.length=1024) (hf:first*128+1024≤S.length):flushed S (dirtOf first b (uptoN 8 8))=splice S (first*128) b:=by
 have hu:∀ j,j<8→(uptoN 8 8)[j]?=if h:j<8 then some ⟨j,h⟩ else none:=by decide
 apply List.ext_getElem?
 intro j
 unfold flushed laidOver splice
 rw [List.getElem?_mapIdx]
 by_cases h1:j<first*128
 ·rw [List.getElem?_append_left (by rw [List.length_take];omega),List.getElem?_take,if_pos h1]
  have e:dirtOf first b (uptoN 8 8) ((j/128:Nat):Int)=none:=by unfold dirtOf;rw [if_neg (by omega)]
  rw [e]
  simp
 ·rw [List.getElem?_append_right (by rw [List.length_take];omega),List.length_take,Nat.min_eq_left (by omega)]
  by_cases h2:j<first*128+1024
  ·rw [List.getElem?_append_left (by omega),List.getElem?_eq_getElem (show j<S.length by omega)]
   have e:dirtOf first b (uptoN 8 8) ((j/128:Nat):Int)=some (chunkOf b (j/128-first)):=by
    unfold dirtOf
    rw [if_pos (by rw [uptoN_length (Nat.le_refl _)];omega),show (((j/128:Nat):Int)-first).toNat=j/128-first from by omega,hu _ (by omega)]
    rw [dif_pos (by omega)]
    rfl
   rw [e]
   simp only [Option.map_some,if_true]
   rw [List.getElem?_eq_getElem (by omega)]
   congr 1
   unfold chunkOf
   rw [List.getD_eq_getElem?_getD,List.getElem?_take,if_pos (by omega),List.getElem?_drop,show (j/128-first)*128+j%128=j-first*128 from by omega,List.getElem?_eq_getElem (by omega)]
   rfl
  ·rw [List.getElem?_append_right (by omega),List.getElem?_drop,hb,show first*128+1024+(j-first*128-1024)=j from by omega]
   have e:dirtOf first b (uptoN 8 8) ((j/128:Nat):Int)=none:=by unfold dirtOf;rw [if_neg (by rw [uptoN_length (Nat.le_refl _)];omega)]
   rw [e]
   simp
section
variable {w w':World}{D:Nat→Prop}{row:Option Nat}
theorem Row.other {A:Option Addr}{n size:Nat}{vs:List Value}(h:Row w D A n size vs) (hg:w.grownBy w' row) (hr:∀ r,row=some r→∃ o:Obj,w.heap[r]?=some o∧o.isCells=false):Row w' D A n size vs :=
 ⟨h.1,fun hn=>let ⟨b,off,e,hd,hl,hc⟩:=h.2 hn;⟨b,off,e,hd,Nat.lt_of_lt_of_le hl hg.size,fun k u hu=>cell_kept (hc k u hu) hg hr⟩⟩
theorem DiskAt.other {q:DiskB}{S:List UInt8}{M:Dirt}{n:Nat}{wr:Int}(h:DiskAt w D q S M n wr) (hg:w.grownBy w' row) (B:Nat) (hB:∀ b,b=q.bd∨b=q.bs∨b=q.bm→b<B) (hr:∀ r,row=some r→B≤r∧∃ o:Obj,w.heap[r]?=some o∧o.isCells=false):DiskAt w' D q S M n wr:=by
 have hne:∀ b,b=q.bd∨b=q.bs∨b=q.bm→some b≠row:=fun b hb e=>by have:=(hr b e.symm).1;have:=hB b hb;omega
 refine ⟨(hg.block q.bd (h.lt _ (.inl rfl)) (hne _ (.inl rfl))).trans h.disk,(hg.block q.bs (h.lt _ (.inr (.inl rfl))) (hne _ (.inr (.inl rfl)))).trans h.safe,?_,h.size,h.out⟩
 obtain ⟨E,h1,h2⟩:=h.dirty
 refine ⟨E,h1.kept hg (hne _ (.inr (.inr rfl))),fun k=>⟨(h2 k).1,fun bs hb=>?_⟩⟩
 obtain ⟨g1,g2,g3,g4,A,c,g5,g6,g7,g8⟩:=(h2 k).2 bs hb
 exact ⟨g1,g2,g3,g4,A,c,g5,g6,g7,g8.other hg fun r e=>(hr r e).2⟩
end
theorem DiskAt.swap {w:World}{D F:Nat→Prop}{q:DiskB}{S:List UInt8}{n:Nat}{wr:Int}(h:DiskAt w D q S Dirt.no n wr) (hF:∀ b,b=q.bd∨b=q.bs∨b=q.bm→¬ F b):DiskAt w F q S Dirt.no n wr :=
 ⟨h.disk,h.safe,let ⟨E,h1,h2⟩:=h.dirty;⟨E,h1,fun k=>⟨(h2 k).1,fun bs hb=>by cases hb⟩⟩,h.size,hF⟩
theorem layPlan {k p g i:Nat}(h:planRight k p g=true) (hi:i<g):1+2*p+i*8+8≤k∧k≤4096:=by
 have:=planRight_iff.1 h
 omega
theorem laySeg {k p g i:Nat}(h:planRight k p g=true) (hi:i<g):segAt k p g i=(((1+2*p+i*8:Nat):Int),0):=by
 unfold segAt
 rw [if_pos ⟨h,by omega,by omega⟩]
 congr 1
theorem row_part {w:World}{D:Nat→Prop}{bb off n:Nat}{b:List UInt8}(h:Bs w D (some ⟨bb,off,none⟩) n b){x m:Nat}(hx:x+m≤n):Bs w D (some ⟨bb,off+x,none⟩) m ((b.drop x).take m):=by
 have hl:=h.len
 refine ⟨by simp;omega,fun hm=>?_⟩
 obtain ⟨b',o',e,h1,h2,h3⟩:=h.2 (by omega)
 injection e with e
 injection e with e1 e2
 subst e1 e2
 refine ⟨bb,off+x,rfl,h1,h2,fun j u hu=>?_⟩
 rw [Nat.add_assoc]
 refine h3 (x+j) u ?_
 rw [List.getElem?_map,List.getElem?_take] at hu
 split at hu
 ·rw [List.getElem?_drop] at hu;rw [List.getElem?_map];exact hu
 ·cases hu
theorem lay_any {w:World}{D:Nat→Prop}{q:DiskB}{S:List UInt8}{wr:Int}{k p g i:Nat}(h:DiskAt w D q S Dirt.no 0 wr) (hk:S.length=k*128) (hD:∀ b,w.heap.size≤b→D b) (hp:planRight k p g=true) (hi:i<g)
  {D2:Nat→Prop} (ad:Addr) (cap:Nat) (b:List UInt8) (hB:Bs w D2 (some ad) 1024 b) (hcap:1024≤cap) (hcm:cap≤9223372036854775807) (hD2:∀ j,D2 j→j≠q.bd∧j≠q.bs∧j≠q.bm):
  Calls Tryz.prog 169 #[.pointer (some ⟨q.bd,0,none⟩),.agg #[.int .i64 k,.int .i64 p,.int .i64 g],.int .i64 i,.slice (some ad) 1024 cap] w fun e w'=>e=.returned (.tuple #[])∧Keep (fun j=>j≠q.bd∧j≠q.bs∧j≠q.bm) w w' ∧
   ∃ wr',DiskAt w' D q (splice S ((1+2*p+i*8)*128) b) Dirt.no 0 wr':=by
 have hbl:=hB.len
 have hfit:=layPlan hp hi
 have HSG:=fun W=>Lib.hid (segment21_any k p g i (by omega) W)
 rw [laySeg hp hi] at HSG
 dsimp only at HSG
 obtain ⟨first,hfe⟩:∃ first,first=1+2*p+i*8:=⟨_,rfl⟩
 rw [← hfe] at HSG hfit ⊢
 clear hfe hp hi
 obtain ⟨bb,off,hae,hb2,hblt,hbc⟩:=hB.2 (by decide)
 injection hae with hae
 subst hae
 have HH:=Lib.hid (And.intro h (And.intro hk (And.intro hD (And.intro hB (And.intro hD2 (And.intro hbl hfit))))))
 clear h hk hD hB hD2 hbl hfit hbc hb2
 refine (callsIn_wide (n:=6)).1 ?_
 refine callsIn_of_wp_marks Tryz.func169 rfl trivial ?_ rfl
 simp only [Tryz.ntmps169,List.size_toArray,List.length_cons,List.length_nil,Nat.reduceAdd,Nat.reduceSub,Array.replicate_succ,Array.replicate_zero,List.push_toArray,List.append_toArray,List.nil_append,List.cons_append]
 gi_wp2
 refine ⟨trivial,(callsIn_wide.2 (HSG _).out).mono ?_⟩
 rintro e w1 ⟨rfl,k1⟩
 gi_wp2
 refine ⟨trivial,(callsIn_wide.2 (chunk_any _ _ _ _)).mono ?_⟩
 rintro e w2 ⟨rfl,hw2⟩
 have k0:New w ((w.alloc (.cells #[.pointer (some ⟨q.bd,0,none⟩)] 102)).alloc (.cells #[.int .i64 k,.int .i64 p,.int .i64 g] 33)):=((New.refl w).alloc _).alloc _
 have x0:((w.alloc (.cells #[.pointer (some ⟨q.bd,0,none⟩)] 102)).alloc (.cells #[.int .i64 k,.int .i64 p,.int .i64 g] 33)).heap[w.heap.size]?=some (.cells #[.pointer (some ⟨q.bd,0,none⟩)] 102 (0,0)):=(Keep.alloc (New.refl _) _).blockAt (heap_alloc_new w _) trivial
 have x1:=k1.blockAt x0 trivial
 have k2:=k0.new k1
 clear k0 x0 k1 HSG
 have kF:New w1 (w1.alloc (.cells #[.int .i64 first] 3)):=(New.refl w1).alloc _
 have xF:=heap_alloc_new w1 (.cells #[.int .i64 first] 3)
 have zF:(w1.alloc (.cells #[.int .i64 first] 3)).heap.size=w1.heap.size+1:=by simp
 have zw:w.heap.size<w1.heap.size:=(Array.getElem?_eq_some_iff.1 x1).1
 generalize hg1:w1.heap.size=gF at *
 generalize w1.alloc (.cells #[.int .i64 first] 3)=wF at *
 have kC:New wF w2:=by rw [hw2];exact ((New.refl wF).alloc _).alloc _
 have y1:w2.heap[gF+1]?=some (.cells #[.slice (some ⟨bb,off,none⟩) 1024 cap] 24 (0,0)):=by rw [hw2,← zF];exact (Keep.alloc (New.refl _) _).blockAt (heap_alloc_new wF _) trivial
 have y2:w2.heap[gF+1+1]?=some (.cells #[.int .i64 128] 3 (0,0)):=by rw [hw2,← zF,show wF.heap.size+1=(wF.alloc (.cells #[.slice (some ⟨bb,off,none⟩) 1024 cap] 24)).heap.size from by simp];exact heap_alloc_new _ _
 have z2:w2.heap.size=gF+1+1+1:=by rw [hw2];simp [zF]
 have xF2:=kC.blockAt xF trivial
 have x2:=kC.blockAt (kF.blockAt x1 trivial) trivial
 have K2:=(k2.new kF).new kC
 rw [zF]
 clear hw2 kC kF xF x1 k2 zF
 gi_wp2
 have h1c:w2.cell? ⟨gF+1,0,none⟩=some (.slice (some ⟨bb,off,none⟩) (8*128) cap):=cellOf y1 rfl
 have h2c:w2.cell? ⟨gF+1+1,0,none⟩=some (.int .i64 128):=cellOf y2 rfl
 have hseq:SeqStopsK Fence.wide (6-1) Tryz.prog 145 #[.pointer (some ⟨gF+1,0,none⟩),.pointer (some ⟨gF+1+1,0,none⟩)] (fun x:{ x:Nat // x<8 }=>#[Value.slice (some ⟨bb,off+x.1*128,none⟩) 128 128])
   (fun X Y=>Keep (fun j=>j=gF+1∨j=gF+1+1) X Y) (fun xs=>xs=uptoN 8 8) (fun _=>True) 8 w2:=fun l J Jx W hW hJ _ hY hJ0=>by
  have hk:Keep (fun j=>j=gF+1∨j=gF+1+1) w2 W:=(Keep.below hW).imp fun j hj _=>hj
  exact chunk1_in (6-1) (by decide) l (gF+1) (gF+1+1) bb off 8 cap (by decide) hcap hcm J Jx _ hJ hY W (hk.cell_some h1c (.inl rfl)) (hk.cell_some h2c (.inr rfl)) hJ0
 obtain ⟨hDk,hk,hD,hB,hD2,hbl,hfit⟩:=HH.out
 have hne:=hDk.ne
 have hlt:=hDk.lt
 have d2:=(hDk.new K2).swap (F:=fun j=>D j∧j≠gF) (fun j hj hd=>hDk.out j hj hd.1)
 rw [← dirtOf_nil first b] at d2
 have hzz:=K2.size
 have hB2:=(hB.imp (E:=fun j=>D2 j∧j<w.heap.size) fun j hj hd=>⟨hd,hj⟩).new K2
 refine wpIn_rangeFunc_ownG (α:={ x:Nat // x<8 }) rfl (by decide) (gf:=145) (lb:=#[.pointer (some ⟨gF+1,0,none⟩),.pointer (some ⟨gF+1+1,0,none⟩)]) rfl trivial (enters_of Tryz.func145 (by kernel_rfl) rfl)
  hseq (fun h1 h2=>h1.trans h2) (fun W l o o' hl ho _ _=>⟨rfl,rfl,rfl,by simp,fun j _ hj=>World.putObj_heap_other (by omega)⟩) (Below.refl _ _) (fun _=>rfl)
  (fun pre W=>(∃ wr',DiskAt W (fun j=>D j∧j≠gF) q S (dirtOf first b pre) pre.length wr')∧W.heap[gF]?=some (.cells #[.int .i64 ((first+pre.length:Nat):Int)] 3 (0,0))∧Keep (fun j=>j<w2.heap.size∧j≠q.bd∧j≠q.bm∧j≠gF) w2 W)
  (fun _ _ _=>False) ?hI (fun _ _ _ _ _ hs _ _=>hs) ⟨⟨_,d2⟩,xF2,Keep.refl _ _⟩
  (fun x=>{ tmps:=#[.pointer (some ⟨q.bd,0,none⟩),.agg #[.int .i64 k,.int .i64 p,.int .i64 g],.int .i64 i,.slice (some ⟨bb,off,none⟩) 1024 cap,.pointer (some ⟨w.heap.size,0,none⟩),.pointer (some ⟨w.heap.size+1,0,none⟩),undef,undef,.pointer (some ⟨gF,0,none⟩),.int .i64 0,.slice (some ⟨bb,off+x.1*128,none⟩) 128 128,.tuple #[.int .i64 first,.int .i64 0],.agg #[.int .i64 k,.int .i64 p,.int .i64 g],.int .i64 i,.tuple #[.int .i64 first,.int .i64 0],.int .i64 first,.int .i64 0,.slice (some ⟨bb,off,none⟩) 1024 cap,.func (.func 145) #[] #[.pointer (some ⟨gF+1,0,none⟩),.pointer (some ⟨gF+1+1,0,none⟩)],.slice (some ⟨bb,off+x.1*128,none⟩) 128 128,undef,undef,undef,undef,undef,undef,undef,undef],defers:=[] }) ?assign ?body ?done ?stop
 case hI =>
  rintro pre A C row ⟨⟨wr',hd⟩,hf,hkk⟩ hg hr
  refine ⟨⟨wr',hd.other hg w2.heap.size (fun j hj=>Nat.lt_of_lt_of_le (hlt j hj) hzz) hr⟩,(hg.block gF (Array.getElem?_eq_some_iff.1 hf).1 (fun e=>by have:=(hr gF e.symm).1;omega)).trans hf,hkk.trans ⟨hg.os,hg.tape,hg.output,hg.size,fun j hjl hj=>hg.block j hjl (fun e=>by have:=(hr j e.symm).1;omega)⟩⟩
 case assign =>
  intro l x W K hK
  gi_wp2
  exact hK
 case body =>
  rintro l pre x W ⟨⟨wr',hd⟩,hf,hkk⟩ hpre
  have hx8:=x.2
  have c4:W.cell? ⟨w.heap.size,0,none⟩=some (.pointer (some ⟨q.bd,0,none⟩)):=cellOf ((hkk.block w.heap.size (by omega) ⟨by omega,fun e=>by have:=hlt q.bd (.inl rfl);omega,fun e=>by have:=hlt q.bm (.inr (.inr rfl));omega,by omega⟩).trans x2) rfl
  have c8:W.cell? ⟨gF,0,none⟩=some (.int .i64 ((first+pre.length:Nat):Int)):=cellOf hf rfl
  have hWs:=hkk.size
  have hBx:=(row_part hB2 (x:=x.1*128) (m:=128) (by omega)).keep hkk (fun j hj hd=>⟨hj,(hD2 j hd.1).1,(hD2 j hd.1).2.2,by omega⟩)
  have HW:=Lib.hid (dwrite_any hd hk (fun j hj=>⟨hD j (by omega),by omega⟩) (by omega) (first+pre.length) (by omega) _ 128 _ hBx)
  have HR:=Lib.hid (And.intro hd (And.intro hf hkk))
  clear hBx hd hf hkk
  obtain ⟨z,hz⟩:∃ z,z=first+pre.length:=⟨_,rfl⟩
  rw [← hz] at HW c8
  replace hz:=Lib.hid hz
  gi_wp2
  refine ⟨trivial,(CallsIn.inRound l (callsIn_wide.2 HW.out)).mono ?_⟩
  rintro e W1 ⟨rfl,hkW,wr2,hd2⟩
  obtain ⟨hd,hf,hkk⟩:=HR.out
  have hf1:=(hkW.block gF (Array.getElem?_eq_some_iff.1 hf).1 ⟨fun e=>by have:=hlt q.bd (.inl rfl);omega,fun e=>by have:=hlt q.bm (.inr (.inr rfl));omega⟩).trans hf
  rw [← hz.out] at hf1
  have c8:W1.cell? ⟨gF,0,none⟩=some (.int .i64 (z:Int)):=cellOf hf1 rfl
  have z8:=frozenOf hf1 0
  have HR2:=Lib.hid (And.intro hkW (And.intro hd2 hf1))
  have hzb:z≤5000:=by have:=hz.out;omega
  clear hkW hd2 hf1 hd hf hkk
  gi_wp2
  obtain ⟨hd,hf,hkk⟩:=HR.out
  obtain ⟨hkW,hd2,hf1⟩:=HR2.out
  have hz0:=hz.out
  have hkS:Keep (fun j=>j≠gF) W1 (W1.setCell ⟨gF,0,none⟩ (.int .i64 ((z:Int)+1))):=(Keep.refl _ W1).setCell (fun hd=>absurd rfl hd) _
  have e1:=hlt q.bd (.inl rfl)
  have e2:=hlt q.bm (.inr (.inr rfl))
  have e3:=hlt q.bs (.inr (.inl rfl))
  have hkT:Keep (fun j=>j≠q.bd∧j≠q.bm∧j≠gF) W (W1.setCell ⟨gF,0,none⟩ (.int .i64 ((z:Int)+1))):=(hkW.imp (E:=fun j=>j≠q.bd∧j≠q.bm∧j≠gF) fun _ _ hj=>⟨hj.1,hj.2.1⟩).trans2 hkS fun _ _ hj=>hj.2.2
  refine ⟨⟨hkT.size,fun j o hj ho _=>(hkT.block j (Array.getElem?_eq_some_iff.1 ho).1 ⟨by omega,by omega,by omega⟩).trans ho⟩,hkT.imp (fun j _ hj=>by omega),⟨wr2,?_⟩,?_,?_⟩
  ·have hd3:=hd2.keep hkS (fun j hj=>by rcases hj with rfl|rfl|rfl <;> omega) (fun j hj hDj e=>?_)
   ·rw [dirtOf_snoc,List.length_append,List.length_singleton,← hz0];exact hd3
   ·exact hDj.2 e
  ·have hv:((z:Int)+1)=((first+(pre++[x]).length:Nat):Int):=by rw [List.length_append,List.length_singleton];omega
   rw [setCell_block hf1 0,hv]
   rfl
  ·exact hkk.trans2 hkT fun j _ hj=>hj.2
 case done =>
  rintro Db xs W hDb rfl ⟨⟨wr',hd⟩,hf,hkk⟩ hKd
  have c4:W.cell? ⟨w.heap.size,0,none⟩=some (.pointer (some ⟨q.bd,0,none⟩)):=cellOf ((hkk.block w.heap.size (by omega) ⟨by omega,fun e=>by have:=hlt q.bd (.inl rfl);omega,fun e=>by have:=hlt q.bm (.inr (.inr rfl));omega,by omega⟩).trans x2) rfl
  have HFl:=Lib.hid (flush_any hd (fun j c hj=>by
   have h1:=dirtOf_some hj
   rw [uptoN_length (Nat.le_refl _)] at h1
   omega))
  rw [dirtOf_all hbl (by omega)] at HFl
  have HR:=Lib.hid (And.intro hkk hKd)
  clear hd hf hkk hKd
  gi_wp2
  refine ⟨trivial,(callsIn_wide.2 HFl.out).mono ?_⟩
  rintro e W1 ⟨rfl,hk1,hd1⟩
  gi_wp2
  obtain ⟨hkk,hKd⟩:=HR.out
  have e1:=hlt q.bd (.inl rfl)
  have e2:=hlt q.bm (.inr (.inr rfl))
  have e3:=hlt q.bs (.inr (.inl rfl))
  have hK1:W1.heap[Db]?=some (.deferred (some [])):=(hk1.block Db (Array.getElem?_eq_some_iff.1 hKd).1 ⟨by omega,by omega⟩).trans hKd
  refine ⟨by simp,.inl ⟨_,_,rfl,run_takeDeferred hK1,?_⟩⟩
  have hg:=grownBy_putObj' W1 Db (.deferred none)
  have q1:Keep (fun j=>j≠q.bd∧j≠q.bs∧j≠q.bm) w W:=(Keep.of_new K2).trans2 hkk (fun j hj hd=>⟨by omega,hd.1,hd.2.2,by omega⟩)
  have q2:Keep (fun j=>j≠q.bd∧j≠q.bs∧j≠q.bm) w W1:=q1.trans2 hk1 (fun j hj hd=>⟨hd.2.1,hd.2.2⟩)
  refine ⟨_,results_none rfl _ _ _,rfl,q2.grown hg (fun j e hd=>by injection e with e;omega),wr',(hd1.other hg w2.heap.size (fun j hj=>Nat.lt_of_lt_of_le (hlt j hj) hzz) (fun r e=>by injection e with e;subst e;exact ⟨hDb,_,hK1,rfl⟩)).swap hDk.out⟩
 case stop =>
  rintro D c pre W _ _ h _
  exact h.elim
end Go.Proofs.YtdodbdednpnddaaGreatDoor
