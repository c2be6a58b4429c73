/-
  PROVED HERE: what log.Open answers where its arguments are right, and it begins at the first segment; conditions: nothing on the disk is unsafe.
-/
import Derived.Test.YtdodbdednpnddaaGreatDoorPkT24
set_option maxRecDepth 100000
set_option maxHeartbeats 16000000
namespace Go.Proofs.YtdodbdednpnddaaGreatDoor
open Go.RowKit
theorem lopen_zero {w:World}{q:DiskB}{S:List UInt8}{s p g fr:Nat}(hC:Clean w q S) (hk:S.length=s*128) (hp:planRight s p g=true) (hf:fr≤g) (h0:fr=0){D3 D4:Nat→Prop}(Hd:Option Addr) (hdc:Nat) (hb:List UInt8) (hH:Bs w D3 Hd 32 hb)
  (next:Int) (hn1:1≤next) (hn2:next≤1099511627776) (I:Option Addr) (ni ci:Nat) (id:List UInt8) (hI:Bs w D4 I ni id) (hci:ni≤ci) (hni:ni≤1000000):
  Calls Tryz.prog 161 #[.pointer (some ⟨q.bd,0,none⟩),.agg #[.int .i64 s,.int .i64 p,.int .i64 g],.slice I ni ci,.int .i64 fr,.slice Hd 32 hdc,.int .u64 next] w (OpenRet w q S s p g fr (openNext fr next) (openHead fr id hb)):=by
 replace h0:=Lib.hid h0
 obtain ⟨nxo,hnxo⟩:∃ x,x=openNext fr next:=⟨_,rfl⟩
 obtain ⟨hdo,hhdo⟩:∃ x,x=openHead fr id hb:=⟨_,rfl⟩
 rw [← hnxo,← hhdo]
 replace hnxo:=Lib.hid hnxo
 replace hhdo:=Lib.hid hhdo
 have hpl:=planRight_iff.1 hp
 have hg:g≤1000:=by omega
 have hkk:s≤4096:=by omega
 have k1:New w (w.alloc (.cells #[.int .i64 s,.int .i64 p,.int .i64 g] 33)):=(New.refl w).alloc _
 have x1:=heap_alloc_new w (.cells #[.int .i64 s,.int .i64 p,.int .i64 g] 33)
 have HRT:=fun W=>Lib.hid (right21_any s p g (by omega) W)
 rw [hp] at HRT
 have HSC:=fun W (hW:New w W)=>Lib.hid (by (obtain ⟨wr0,hd⟩:=hC.new hW);exact sectors_any hd hk)
 have HCL:=fun W (hW:New w W)=>Lib.hid (clone_bytes D3 Hd 32 hdc hb W (hH.new hW) (by decide))
 have HGE:=fun W (hW:New w W)=>Lib.hid (genesis_any D4 I ni ci id W (hI.new hW) hci (by omega))
 have HPC:=Lib.hid (fun W (hW:New w W) (i:Nat) (hi:i<g)=>place_any (hC.new hW) hk hp hi)
 have HH:=Lib.hid (And.intro hC (And.intro hk hp))
 have HBE:Hid (∀ j,w.heap.size≤j→DiskOf q j):=Lib.hid hC.beyond
 clear hC hk hp hH hI hpl
 generalize hw1:w.alloc (.cells #[.int .i64 s,.int .i64 p,.int .i64 g] 33)=w1 at *
 have HX:=Lib.hid (And.intro x1 k1)
 clear x1 k1
 have y0:∀ W,New w1 W→W.cell? ⟨w.heap.size,0,none⟩=some (.int .i64 s):=fun W hW=>cellOf (k:=0) (hW.blockAt HX.out.1 trivial) rfl
 have y1:∀ W,New w1 W→W.cell? ⟨w.heap.size,1,none⟩=some (.int .i64 p):=fun W hW=>cellOf (k:=1) (hW.blockAt HX.out.1 trivial) rfl
 have y2:∀ W,New w1 W→W.cell? ⟨w.heap.size,2,none⟩=some (.int .i64 g):=fun W hW=>cellOf (k:=2) (hW.blockAt HX.out.1 trivial) rfl
 have e1:decide (((fr:Nat):Int)<0)=false:=decide_eq_false (by omega)
 have e2:decide (((g:Nat):Int)<((fr:Nat):Int))=false:=decide_eq_false (by omega)
 have e6:decide (g<fr)=false:=decide_eq_false (by omega)
 have e3:decide (next<1)=false:=decide_eq_false (by omega)
 have e4:decide (1099511627776<next)=false:=decide_eq_false (by omega)
 have e5:(((s:Nat):Int) !=((s:Nat):Int))=false:=by simp
 go_enter Tryz.func161,Tryz.ntmps161
 go_upto_region 1 with fail
 clear hw1
 refine hold_begin (by kernel_rfl) ?_
 have n0:New w1 w1.drew:=(New.refl w1).drew
 replace y0:=fun W (hW:New w1.drew W)=>y0 W (Keep.new n0 hW)
 replace y1:=fun W (hW:New w1.drew W)=>y1 W (Keep.new n0 hW)
 replace y2:=fun W (hW:New w1.drew W)=>y2 W (Keep.new n0 hW)
 refine take1 0 ?_
 refine take1 1 ?_
 refine take1 2 ?_
 refine take1 3 ?_
 refine hold_step (i:=4) (by kernel_rfl) rfl rfl (fun K hK=>?_)
 go_simp
 refine (HRT _).out.mono ?_
 rintro e w2 ⟨rfl,k2⟩
 go_wp2_with fail
 refine hK.out _ _ k2 ?_
 clear hK K
 try simp only [Act.put,ly1,ly2,ly3,ly4,ly5,ly6]
 replace n0:=Keep.new n0 k2
 replace y0:=fun W (hW:New w2 W)=>y0 W (Keep.new k2 hW)
 replace y1:=fun W (hW:New w2 W)=>y1 W (Keep.new k2 hW)
 replace y2:=fun W (hW:New w2 W)=>y2 W (Keep.new k2 hW)
 refine take1 5 ?_
 refine take1 6 ?_
 refine take1 7 ?_
 refine take1 8 ?_
 refine take1 9 ?_
 refine take1 10 ?_
 refine hold_step (i:=11) (by kernel_rfl) rfl rfl (fun K hK=>?_)
 go_simp
 refine (HSC _ (HX.out.2.new n0)).out.mono ?_
 rintro e w3 ⟨rfl,k3⟩;have k3:=New.of_eq k3
 go_wp2_with fail
 refine hK.out _ _ k3 ?_
 clear hK K
 try simp only [Act.put,ly1,ly2,ly3,ly4,ly5,ly6]
 replace n0:=Keep.new n0 k3
 replace y0:=fun W (hW:New w3 W)=>y0 W (Keep.new k3 hW)
 replace y1:=fun W (hW:New w3 W)=>y1 W (Keep.new k3 hW)
 replace y2:=fun W (hW:New w3 W)=>y2 W (Keep.new k3 hW)
 refine take1 12 ?_
 refine take1 13 ?_
 refine take1 14 ?_
 refine take1 15 ?_
 refine take1 16 ?_
 refine take1 17 ?_
 refine take1 18 ?_
 refine take1 19 ?_
 refine take1 20 ?_
 refine take1 21 ?_
 refine take1 22 ?_
 refine take1 23 ?_
 refine take1 24 ?_
 refine take1 25 ?_
 refine take1 26 ?_
 refine take1 27 ?_
 refine take1 28 ?_
 refine take1 29 ?_
 refine take1 30 ?_
 refine take1 31 ?_
 refine take1 32 ?_
 refine take1 33 ?_
 refine take1 34 ?_
 refine take1 35 ?_
 refine take1 36 ?_
 refine wpAnyH_done (by kernel_rfl) ?_ _
 have HK3:=Lib.hid (HX.out.2.new n0)
 have HX3:=Lib.hid (n0.blockAt HX.out.1 trivial)
 clear k2 k3 n0 HRT HSC e1 e2 e3 e4 e5 e6 y0 y1 y2 HX
 go_upto_region 3 with fail
 have y0:∀ W,New w3 W→W.cell? ⟨w.heap.size,0,none⟩=some (.int .i64 s):=fun W hW=>cellOf (k:=0) (hW.blockAt HX3.out trivial) rfl
 have y1:∀ W,New w3 W→W.cell? ⟨w.heap.size,1,none⟩=some (.int .i64 p):=fun W hW=>cellOf (k:=1) (hW.blockAt HX3.out trivial) rfl
 have y2:∀ W,New w3 W→W.cell? ⟨w.heap.size,2,none⟩=some (.int .i64 g):=fun W hW=>cellOf (k:=2) (hW.blockAt HX3.out trivial) rfl
 refine hold_beginS (New w3.drew) (by kernel_rfl) ?_
 have n3:New w3 w3.drew:=(New.refl w3).drew
 have r0:∀ W,New w3.drew W→W.cell? ⟨w.heap.size,0,none⟩=some (.int .i64 s):=fun W hW=>y0 W (n3.new hW)
 have r1:∀ W,New w3.drew W→W.cell? ⟨w.heap.size,1,none⟩=some (.int .i64 p):=fun W hW=>y1 W (n3.new hW)
 have r2:∀ W,New w3.drew W→W.cell? ⟨w.heap.size,2,none⟩=some (.int .i64 g):=fun W hW=>y2 W (n3.new hW)
 generalize w3.drew=w4 at *
 have n0:New w4 w4:=New.refl _
 refine take0 0 n0 ?_
 refine take0 1 n0 ?_
 refine take0 2 n0 ?_
 refine take0 3 n0 ?_
 refine take0 5 n0 ?_
 refine hold_step0 (i:=4) (by kernel_rfl) rfl rfl (fun K hK=>?_)
 go_simp
 refine (HCL _ (HK3.out.new n3)).out.mono ?_
 rintro e w5 ⟨⟨A5,c5,rfl,o5⟩,k5⟩
 go_wp2_with fail
 refine hK.out _ _ k5 ?_
 clear hK K
 try simp only [Act.put,ly1,ly2,ly3,ly4,ly5,ly6]
 refine take0 6 k5 ?_
 refine hold_step0 (i:=7) (by kernel_rfl) rfl rfl (fun K hK=>?_)
 go_simp
 try go_wp2_with fail
 have k6:=k5.alloc (.cells #[.pointer (some ⟨q.bd,0,none⟩),.int .i64 s,.int .i64 p,.int .i64 g,.int .i64 fr,.slice A5 32 c5,.int .u64 next,.slice none 0 0] 197)
 have x6:=heap_alloc_new w5 (.cells #[.pointer (some ⟨q.bd,0,none⟩),.int .i64 s,.int .i64 p,.int .i64 g,.int .i64 fr,.slice A5 32 c5,.int .u64 next,.slice none 0 0] 197)
 have q6:=(New.refl w5).alloc (.cells #[.pointer (some ⟨q.bd,0,none⟩),.int .i64 s,.int .i64 p,.int .i64 g,.int .i64 fr,.slice A5 32 c5,.int .u64 next,.slice none 0 0] 197)
 refine hK.out _ _ k6 ?_
 clear hK K
 try simp only [Act.put,ly1,ly2,ly3,ly4,ly5,ly6]
 have HO5:=Lib.hid (Row.new ((Row.of_own o5).imp (E:=fun b=>w4.heap.size≤b∧b<w5.heap.size) fun b hb hd=>⟨hd,hb⟩) q6)
 have hc5:=own_cap o5
 have hz4:=(HK3.out.new n3).size
 have hz5:=k5.size
 generalize w5.alloc (.cells #[.pointer (some ⟨q.bd,0,none⟩),.int .i64 s,.int .i64 p,.int .i64 g,.int .i64 fr,.slice A5 32 c5,.int .u64 next,.slice none 0 0] 197)=w6 at *
 generalize hbl:w5.heap.size=bl at *
 refine take0 8 k6 ?_
 refine wpAnyH_done (by kernel_rfl) ?_ _
 have HK6:=Lib.hid ((HK3.out.new n3).new k6)
 have HX6:=Lib.hid ((n3.new k6).blockAt HX3.out trivial)
 have hbw:w.heap.size≤bl:=Nat.le_trans hz4 hz5
 have hgb:w.heap.size≠bl:=by have h1:=(Array.getElem?_eq_some_iff.1 HX3.out).1;have h2:=n3.size;omega
 clear y0 y1 y2 r0 r1 r2 n0 k5 k6 q6 n3 HX3 HK3 o5 hbl HCL
 have hx1:(1:Int)=nxo:=by rw [hnxo.out];exact (if_pos h0.out).symm
 have hx2:genesisOf id=hdo:=by rw [hhdo.out];exact (if_pos h0.out).symm
 have hn1:1≤nxo:=by omega
 have hn2:nxo≤1099511627776:=by omega
 replace hx1:=Lib.hid hx1
 replace hx2:=Lib.hid hx2
 have h0b:(((fr:Nat):Int)==0)=true:=by rw [h0.out];rfl
 go_upto_region 5 with fail
 go_wp2_with fail
 refine (HGE _ HK6.out).out.mono ?_
 rintro e w8 ⟨⟨A8,c8,rfl,o8⟩,k8⟩
 have hb8:=k8.blockAt x6 trivial
 have hbl6:=(Array.getElem?_eq_some_iff.1 x6).1
 have hb9:=setCell_block hb8 5 (.slice A8 32 c8)
 have hb10:=setCell_block hb9 6 (.int .u64 1)
 have c5:=cellOf hb8 (k:=5) rfl
 have f5:=frozenOf hb8 5
 have c6:=cellOf hb9 (k:=6) rfl
 have f6:=frozenOf hb9 6
 go_upto_region 6 with fail
 have kk:Keep (fun j=>j≠bl) w8 ((w8.setCell ⟨bl,5,none⟩ (.slice A8 32 c8)).setCell ⟨bl,6,none⟩ (.int .u64 1)):=((Keep.refl _ w8).setCell (p:=⟨bl,5,none⟩) (fun hd=>absurd rfl hd) _).setCell (p:=⟨bl,6,none⟩) (fun hd=>absurd rfl hd) _
 clear c5 f5 c6 f6 hb9 hb8
 generalize (w8.setCell ⟨bl,5,none⟩ (.slice A8 32 c8)).setCell ⟨bl,6,none⟩ (.int .u64 1)=w10 at *
 have hx10:w10.heap[bl]?=some (.cells #[.pointer (some ⟨q.bd,0,none⟩),.int .i64 s,.int .i64 p,.int .i64 g,.int .i64 fr,.slice A8 32 c8,.int .u64 nxo,.slice none 0 0] 197 (0,0)):=by rw [← hx1.out];exact hb10
 have HO8:Hid (Bs w10 (fun b=>w6.heap.size≤b) A8 32 hdo):=Lib.hid (by rw [← hx2.out];exact (Row.of_own o8).keep kk (fun b _ hb e=>by omega))
 have hc8:=own_cap o8
 have HXL:=Lib.hid (kk.blockAt (k8.blockAt HX6.out trivial) hgb)
 have HK10:=Lib.hid (((Keep.of_new (D:=fun b=>b<w.heap.size) (HK6.out.new k8)).trans2 kk (fun b _ hb e=>by omega)).toNew (fun b hb=>hb))
 have hz6:=HK6.out.size
 clear HGE HX6 HO5 x6 hb10 o8 k8 kk
 have HL0:Hid (LogAt w10 (fun b=>w.heap.size≤b∧b≠bl) w.heap.size bl q.bd ⟨s,p,g,fr,nxo,hdo,[]⟩ none 0):=Lib.hid ⟨⟨A8,c8,hx10,hc8,HO8.out.imp fun b _ hb=>⟨⟨by omega,by omega⟩,by simp [blk]⟩⟩,OwnSl.nil _ _ _ _ _,by dsimp only;omega,by dsimp only;omega,⟨Nat.zero_le _,hf,hg⟩,fun h=>h.2 rfl,by simp [blk]⟩
 obtain ⟨F0,HF0⟩:∃ F0,Hid (F0=foundIn S p (g-fr) fr nxo hdo):=⟨_,Lib.hid rfl⟩
 go_upto_region 6 with fail
 go_wp2_with fail
 go_loopw [16] (fun so wx=>∃ (j:Nat) (Ao:Option Addr) (co:Nat) (dn:List (HeadP×List RecP)),fr+j≤g∧dn.length=j∧so=.slice Ao j co∧New w wx∧wx.heap[w.heap.size]?=some (.cells #[.int .i64 s,.int .i64 p,.int .i64 g] 33 (0,0)) ∧
     LogAt wx (fun b=>(w.heap.size≤b∧b≠bl)∧some b≠blk Ao) w.heap.size bl q.bd ⟨s,p,g,fr+j,(foundEnd (nxo) (hdo) dn).1,(foundEnd (nxo) (hdo) dn).2,[]⟩ none 0∧OwnSl 195 (slElt recElt) wx w.heap.size (fun b=>w.heap.size≤b∧b≠bl) Ao j co (dn.map Prod.snd)∧blk Ao≠some bl ∧
     F0=dn++foundIn S p (g-(fr+j)) (fr+j) (foundEnd (nxo) (hdo) dn).1 (foundEnd (nxo) (hdo) dn).2) (fun so _=>(g-fr)-(match so with|.slice _ n _=>n|_=>0))
 case atStart=>exact ⟨0,none,0,[],hf,rfl,rfl,HK10.out,HXL.out,HL0.out.imp (fun b _ hb=>⟨hb,by simp [blk]⟩) (fun h=>h.1.2 rfl),OwnSl.nil _ _ _ _ _,by simp [blk],HF0.out⟩
 case round =>
  obtain ⟨j,Ao,co,dn,hj,hdl,rfl,hK,hx,hL,hO,hAb,hF⟩:=hrel
  have HK:=Lib.hid hK
  have HX:=Lib.hid hx
  have HL:=Lib.hid hL
  have HO:=Lib.hid hO
  have HAB:=Lib.hid hAb
  have HFN:=Lib.hid hF
  have HDL:=Lib.hid hdl
  obtain ⟨nx,hnx⟩:∃ nx,nx=(foundEnd (nxo) (hdo) dn).1:=⟨_,rfl⟩
  obtain ⟨hdv,hhd⟩:∃ hdv,hdv=(foundEnd (nxo) (hdo) dn).2:=⟨_,rfl⟩
  rw [← hnx,← hhd] at HL HFN
  replace hnx:=Lib.hid hnx
  replace hhd:=Lib.hid hhd
  clear hK hO hAb hF hdl hL
  obtain ⟨Hh,hhc,hbl9,h329,hB9⟩:=HL.out.cells
  replace hB9:=Lib.hid hB9
  have c4:wr.cell? ⟨bl,4,none⟩=some (.int .i64 ((fr+j:Nat):Int)):=cellOf hbl9 (k:=4) rfl
  have p2:=cellOf hx (k:=2) rfl
  obtain ⟨ix,hix⟩:∃ ix,ix=fr+j:=⟨_,rfl⟩
  rw [← hix] at c4
  replace hix:=Lib.hid hix
  clear hx hbl9
  go_upto_region 7 with fail
  go_quiet (fail)
  rename_i nq
  have hq:New wr (wr.drewN nq):=(New.refl wr).drewN nq
  have HK:=Lib.hid (HK.out.new hq)
  have HX:=Lib.hid (hq.blockAt HX.out trivial)
  have HL:=Lib.hid (HL.out.new hq)
  have HO:=Lib.hid (HO.out.new hq)
  replace hB9:=Lib.hid (hB9.out.new hq)
  generalize wr.drewN nq=w7 at *
  clear c4 p2 hq
  have HBL7:=Lib.hid HL.out.lt
  have HO7:=Lib.hid HO.out
  have HAW:Hid (blk Ao≠some w.heap.size):=Lib.hid (by obtain ⟨_,ho⟩:=HO.out.own;exact own_not ho HX.out (by decide))
  by_cases hlt:ix<g
  ·have hli:(ix:Int)<(g:Int):=by omega
   have HPL:=fun W (hW:New w7 W)=>Lib.hid (HPC.out W (HK.out.new hW) ix hlt)
   have HRD:=fun (W:World) (Q:Option Addr) (qc:Nat) (hB:Bs W (fun b=>w7.heap.size≤b) Q 1024 (placeOf S p ix)) (h1:1024≤qc) (h2:qc≤9223372036854775807)=>Lib.hid (read_any _ Q 1024 qc (placeOf S p ix) W hB h1 h2)
   have hsm:=segRead_small (placeOf S p ix)
   have hfi:=read_first (placeOf S p ix)
   have hct:=head_count (placeOf S p ix)
   have HST:Hid (∀ m,foundIn S p (m+1) ix nx hdv=if (segRead (placeOf S p ix)).2.2=0∧(segRead (placeOf S p ix)).1.index=ix∧(segRead (placeOf S p ix)).1.first=nx∧(segRead (placeOf S p ix)).1.prev=hdv then ((segRead (placeOf S p ix)).1,(segRead (placeOf S p ix)).2.1)::foundIn S p m (ix+1) ((segRead (placeOf S p ix)).1.first+(segRead (placeOf S p ix)).1.count) (sealOf (segRead (placeOf S p ix)).1) else []):=Lib.hid fun m=>rfl
   generalize placeOf S p ix=pb at *
   generalize segRead pb=d at *
   obtain ⟨h,rr,why⟩:=d
   dsimp only at hsm hfi hct HST HRD
   have HSM:=Lib.hid (And.intro hsm.1 (And.intro hfi hct))
   have hrl:rr.length≤942:=hsm.2.2
   clear hsm hfi hct
   go_upto_region 8 with fail
   go_cut [17,18,19] (fun s17 s18 s19 wx=>∃ (gh:Nat) (P1 P2 A3:Option Addr) (p1 p2 c3:Nat),s17=.pointer (some ⟨gh,0,none⟩)∧s18=.slice A3 rr.length c3∧s19=.int .i64 why∧w7.heap.size≤gh∧wx.heap[gh]?=some (.cells #[.int .i64 h.index,.int .u64 h.first,.int .i64 h.count,.int .i64 h.bytes,.slice P1 h.prev.length p1,.slice P2 h.root.length p2] 264 (0,0)) ∧
      h.prev.length≤p1∧h.root.length≤p2∧Bs wx (fun b=>w7.heap.size≤b) P1 h.prev.length h.prev∧Bs wx (fun b=>w7.heap.size≤b) P2 h.root.length h.root∧rr.length≤c3∧c3≤9223372036854775807∧Sl recElt wx (fun b=>w7.heap.size≤b) A3 rr.length rr∧New w7 wx)
   case first =>
    have n3:New w7 w7.drew:=(New.refl w7).drew
    refine hold_beginS (New w7.drew) (by kernel_rfl) ?_
    have r0:∀ W,New w7.drew W→W.cell? ⟨w.heap.size,0,none⟩=some (.int .i64 s):=fun W hW=>cellOf (k:=0) ((n3.new hW).blockAt HX.out trivial) rfl
    have r1:∀ W,New w7.drew W→W.cell? ⟨w.heap.size,1,none⟩=some (.int .i64 p):=fun W hW=>cellOf (k:=1) ((n3.new hW).blockAt HX.out trivial) rfl
    have r2:∀ W,New w7.drew W→W.cell? ⟨w.heap.size,2,none⟩=some (.int .i64 g):=fun W hW=>cellOf (k:=2) ((n3.new hW).blockAt HX.out trivial) rfl
    have r4:∀ W,New w7.drew W→W.cell? ⟨bl,4,none⟩=some (.int .i64 (ix:Int)):=fun W hW=>by (obtain ⟨Hz,hz,hbz,_⟩:=(HL.out.new (n3.new hW)).cells);rw [hix.out];exact cellOf (k:=4) hbz rfl
    have hz7:w7.heap.size=w7.drew.heap.size:=rfl
    have HPL:=fun W (hW:New w7.drew W)=>HPL W (n3.new hW)
    rw [hz7] at HRD
    generalize w7.drew=w8 at *
    have n0:New w8 w8:=New.refl _
    refine take0 0 n0 ?_
    refine take0 1 n0 ?_
    refine take0 2 n0 ?_
    refine take0 3 n0 ?_
    refine take0 4 n0 ?_
    refine take0 5 n0 ?_
    clear r0 r1 r2 r4
    refine hold_fork0 (i:=6) (j:=12) (by kernel_rfl) rfl rfl rfl rfl (fun K hK=>?_) (fun K hK=>?_)
    ·as_aux_lemma =>
     go_simp
     refine (HPL _ n0).out.mono ?_
     rintro e w9 ⟨⟨A5,c5,rfl,o5⟩,k5⟩
     go_wp2_with fail
     have n1:=Keep.new n0 k5
     refine hK.out _ _ n1 ?_
     clear hK K
     try simp only [Act.put,ly1,ly2,ly3,ly4,ly5,ly6]
     have hb5:Bs w9 (fun b=>w8.heap.size≤b) A5 1024 pb:=(Row.of_own o5).imp fun b _ hb=>Nat.le_trans (Keep.size n0) hb
     have h5:1024≤c5∧c5≤9223372036854775807:=⟨own_cap o5,own_capMax o5⟩
     clear o5
     refine hold_fork0 (i:=7) (j:=12) (by kernel_rfl) rfl rfl rfl rfl (fun K hK=>?_) (fun K hK=>?_)
     ·as_aux_lemma =>
      go_simp
      refine (HRD w9 A5 c5 hb5 h5.1 h5.2).out.mono ?_
      rintro e w10 ⟨⟨P1,p1,P2,p2,A3,c3,rfl,hp1,hp2,hb1,hb2,ho3⟩,k6⟩
      dsimp only at hp1 hp2 hb1 hb2 ho3 ⊢
      go_wp2_with fail
      have n2:=Keep.new n1 k6
      refine hK.out _ _ n2 ?_
      clear hK K
      try simp only [Act.put,ly1,ly2,ly3,ly4,ly5,ly6]
      have hzz:=Keep.size n1
      have hb1:=hb1.imp (E:=fun b=>w8.heap.size≤b∧b<w10.heap.size) (fun b hlt hb=>⟨Nat.le_trans hzz hb,hlt⟩)
      have hb2:=hb2.imp (E:=fun b=>w8.heap.size≤b∧b<w10.heap.size) (fun b hlt hb=>⟨Nat.le_trans hzz hb,hlt⟩)
      have hs3:=(recs_sl.1 (ho3.recs (fun x hx=>by have h1:=recRight_def x;rw [HSM.out.1 x hx] at h1;have h2:=of_decide_eq_true h1.symm;omega))).imp (F:=fun b=>w8.heap.size≤b∧b<w10.heap.size) (fun b hlt hb=>(fun b hlt hb=>⟨Nat.le_trans hzz hb,hlt⟩) b hlt (hb.elim (fun h=>h) (fun h=>h)))
      have hc3:rr.length≤c3∧c3≤9223372036854775807:=⟨ho3.cap,ho3.capMax⟩
      clear ho3 hb5 h5
      refine take0 8 n2 ?_
      refine take0 9 n2 ?_
      refine take0 10 n2 ?_
      refine take0 11 n2 ?_
      refine hold_step0 (i:=12) (by kernel_rfl) rfl rfl (fun K hK=>?_)
      go_simp
      try go_wp2_with fail
      have n4:=n2.alloc (.cells #[.int .i64 0,.int .u64 0,.int .i64 0,.int .i64 0,.slice none 0 0,.slice none 0 0] 264)
      have hxz:=heap_alloc_new w10 (.cells #[.int .i64 0,.int .u64 0,.int .i64 0,.int .i64 0,.slice none 0 0,.slice none 0 0] 264)
      have kz:=(New.refl w10).alloc (.cells #[.int .i64 0,.int .u64 0,.int .i64 0,.int .i64 0,.slice none 0 0,.slice none 0 0] 264)
      have hgz:=Keep.size n2
      have hgl:w10.heap.size<(w10.alloc (.cells #[.int .i64 0,.int .u64 0,.int .i64 0,.int .i64 0,.slice none 0 0,.slice none 0 0] 264)).heap.size:=by simp
      refine hK.out _ _ n4 ?_
      clear hK K
      try simp only [Act.put,ly1,ly2,ly3,ly4,ly5,ly6]
      generalize w10.alloc (.cells #[.int .i64 0,.int .u64 0,.int .i64 0,.int .i64 0,.slice none 0 0,.slice none 0 0] 264)=wz at *
      generalize hge:w10.heap.size=gh at hxz hgz hgl hb1 hb2 hs3 ⊢
      have hb1:=(hb1.new kz).imp (E:=fun b=>w8.heap.size≤b∧b≠gh) fun b _ hb=>⟨hb.1,Nat.ne_of_lt hb.2⟩
      have hb2:=(hb2.new kz).imp (E:=fun b=>w8.heap.size≤b∧b≠gh) fun b _ hb=>⟨hb.1,Nat.ne_of_lt hb.2⟩
      have hs3:=(hs3.new kz).imp (F:=fun b=>w8.heap.size≤b∧b≠gh) fun b _ hb=>⟨hb.1,Nat.ne_of_lt hb.2⟩
      obtain ⟨z0,z1,z2,z3,z4,z5⟩:=fz6 hxz
      obtain ⟨d0,d1,d2,d3,d4,d5⟩:=cs6 hxz
      refine hold_step0 (i:=13) (by kernel_rfl) rfl rfl (fun K hK=>?_)
      go_simp
      obtain ⟨hxf,kf⟩:=six_cells hxz (.int .i64 h.index) (.int .u64 h.first) (.int .i64 h.count) (.int .i64 h.bytes) (.slice P1 h.prev.length p1) (.slice P2 h.root.length p2)
      have nf:=((Keep.of_new (D:=fun b=>b<w8.heap.size) n4).trans2 kf (fun b _ hb e=>by omega)).toNew (fun b hb=>hb)
      have hb1:=hb1.keep kf (fun b _ hb=>hb.2)
      have hb2:=hb2.keep kf (fun b _ hb=>hb.2)
      have hs3:=hs3.keep kf (fun b _ hb=>hb.2)
      refine hK.out _ _ nf ?_
      clear hK K z0 z1 z2 z3 z4 z5 d0 d1 d2 d3 d4 d5
      try simp only [Act.put,ly1,ly2,ly3,ly4,ly5,ly6]
      generalize World.setCell _ _ _=wf at *
      refine take0 14 nf ?_
      refine take0 15 nf ?_
      refine wpAnyH_done (by kernel_rfl) ?_ _
      go_wp2_with fail
      go_meet
      exact ⟨gh,P1,P2,A3,p1,p2,c3,rfl,rfl,rfl,by omega,hxf,hp1,hp2,hb1.imp fun b _ hb=>by rw [hz7];exact hb.1,hb2.imp fun b _ hb=>by rw [hz7];exact hb.1,hc3.1,hc3.2,hs3.imp fun b _ hb=>by rw [hz7];exact hb.1,n3.new nf⟩
     ·as_aux_lemma =>
      go_simp
      try go_wp2_with fail
      have n4:=n1.alloc (.cells #[.int .i64 0,.int .u64 0,.int .i64 0,.int .i64 0,.slice none 0 0,.slice none 0 0] 264)
      have hxz:=heap_alloc_new w9 (.cells #[.int .i64 0,.int .u64 0,.int .i64 0,.int .i64 0,.slice none 0 0,.slice none 0 0] 264)
      have kz:=(New.refl w9).alloc (.cells #[.int .i64 0,.int .u64 0,.int .i64 0,.int .i64 0,.slice none 0 0,.slice none 0 0] 264)
      have hgz:=Keep.size n1
      have hgl:w9.heap.size<(w9.alloc (.cells #[.int .i64 0,.int .u64 0,.int .i64 0,.int .i64 0,.slice none 0 0,.slice none 0 0] 264)).heap.size:=by simp
      refine hK.out _ _ n4 ?_
      clear hK K
      try simp only [Act.put,ly1,ly2,ly3,ly4,ly5,ly6]
      generalize w9.alloc (.cells #[.int .i64 0,.int .u64 0,.int .i64 0,.int .i64 0,.slice none 0 0,.slice none 0 0] 264)=wz at *
      generalize hge:w9.heap.size=gh at hxz hgz hgl  ⊢
      have hb5:=hb5.new kz
      refine hold_step0 (i:=7) (by kernel_rfl) rfl rfl (fun K hK=>?_)
      go_simp
      refine (HRD wz A5 c5 hb5 h5.1 h5.2).out.mono ?_
      rintro e w10 ⟨⟨P1,p1,P2,p2,A3,c3,rfl,hp1,hp2,hb1,hb2,ho3⟩,k6⟩
      dsimp only at hp1 hp2 hb1 hb2 ho3 ⊢
      go_wp2_with fail
      have n5:=Keep.new n4 k6
      refine hK.out _ _ n5 ?_
      clear hK K
      try simp only [Act.put,ly1,ly2,ly3,ly4,ly5,ly6]
      have hzz:=Keep.size n4
      have hb1:=hb1.imp (E:=fun b=>w8.heap.size≤b∧b≠gh) (fun b _ hb=>⟨Nat.le_trans hzz hb,by have h1:gh<wz.heap.size:=hgl;omega⟩)
      have hb2:=hb2.imp (E:=fun b=>w8.heap.size≤b∧b≠gh) (fun b _ hb=>⟨Nat.le_trans hzz hb,by have h1:gh<wz.heap.size:=hgl;omega⟩)
      have hs3:=(recs_sl.1 (ho3.recs (fun x hx=>by have h1:=recRight_def x;rw [HSM.out.1 x hx] at h1;have h2:=of_decide_eq_true h1.symm;omega))).imp (F:=fun b=>w8.heap.size≤b∧b≠gh) (fun b hlt hb=>(fun b _ hb=>⟨Nat.le_trans hzz hb,by have h1:gh<wz.heap.size:=hgl;omega⟩) b hlt (hb.elim (fun h=>h) (fun h=>h)))
      have hc3:rr.length≤c3∧c3≤9223372036854775807:=⟨ho3.cap,ho3.capMax⟩
      clear ho3 hb5 h5
      have hxz:=k6.blockAt hxz trivial
      refine take0 8 n5 ?_
      refine take0 9 n5 ?_
      refine take0 10 n5 ?_
      refine take0 11 n5 ?_
      obtain ⟨z0,z1,z2,z3,z4,z5⟩:=fz6 hxz
      obtain ⟨d0,d1,d2,d3,d4,d5⟩:=cs6 hxz
      refine hold_step0 (i:=13) (by kernel_rfl) rfl rfl (fun K hK=>?_)
      go_simp
      obtain ⟨hxf,kf⟩:=six_cells hxz (.int .i64 h.index) (.int .u64 h.first) (.int .i64 h.count) (.int .i64 h.bytes) (.slice P1 h.prev.length p1) (.slice P2 h.root.length p2)
      have nf:=((Keep.of_new (D:=fun b=>b<w8.heap.size) n5).trans2 kf (fun b _ hb e=>by omega)).toNew (fun b hb=>hb)
      have hb1:=hb1.keep kf (fun b _ hb=>hb.2)
      have hb2:=hb2.keep kf (fun b _ hb=>hb.2)
      have hs3:=hs3.keep kf (fun b _ hb=>hb.2)
      refine hK.out _ _ nf ?_
      clear hK K z0 z1 z2 z3 z4 z5 d0 d1 d2 d3 d4 d5
      try simp only [Act.put,ly1,ly2,ly3,ly4,ly5,ly6]
      generalize World.setCell _ _ _=wf at *
      refine take0 14 nf ?_
      refine take0 15 nf ?_
      refine wpAnyH_done (by kernel_rfl) ?_ _
      go_wp2_with fail
      go_meet
      exact ⟨gh,P1,P2,A3,p1,p2,c3,rfl,rfl,rfl,by omega,hxf,hp1,hp2,hb1.imp fun b _ hb=>by rw [hz7];exact hb.1,hb2.imp fun b _ hb=>by rw [hz7];exact hb.1,hc3.1,hc3.2,hs3.imp fun b _ hb=>by rw [hz7];exact hb.1,n3.new nf⟩
    ·as_aux_lemma =>
     go_simp
     try go_wp2_with fail
     have n1:=n0.alloc (.cells #[.int .i64 0,.int .u64 0,.int .i64 0,.int .i64 0,.slice none 0 0,.slice none 0 0] 264)
     have hxz:=heap_alloc_new w8 (.cells #[.int .i64 0,.int .u64 0,.int .i64 0,.int .i64 0,.slice none 0 0,.slice none 0 0] 264)
     have kz:=(New.refl w8).alloc (.cells #[.int .i64 0,.int .u64 0,.int .i64 0,.int .i64 0,.slice none 0 0,.slice none 0 0] 264)
     have hgz:=Keep.size n0
     have hgl:w8.heap.size<(w8.alloc (.cells #[.int .i64 0,.int .u64 0,.int .i64 0,.int .i64 0,.slice none 0 0,.slice none 0 0] 264)).heap.size:=by simp
     refine hK.out _ _ n1 ?_
     clear hK K
     try simp only [Act.put,ly1,ly2,ly3,ly4,ly5,ly6]
     generalize w8.alloc (.cells #[.int .i64 0,.int .u64 0,.int .i64 0,.int .i64 0,.slice none 0 0,.slice none 0 0] 264)=wz at *
     generalize hge:w8.heap.size=gh at hxz hgz hgl  ⊢
     refine hold_step0 (i:=6) (by kernel_rfl) rfl rfl (fun K hK=>?_)
     go_simp
     refine (HPL _ n1).out.mono ?_
     rintro e w9 ⟨⟨A5,c5,rfl,o5⟩,k5⟩
     go_wp2_with fail
     have n4:=Keep.new n1 k5
     refine hK.out _ _ n4 ?_
     clear hK K
     try simp only [Act.put,ly1,ly2,ly3,ly4,ly5,ly6]
     have hb5:Bs w9 (fun b=>w8.heap.size≤b) A5 1024 pb:=(Row.of_own o5).imp fun b _ hb=>Nat.le_trans (Keep.size n1) hb
     have h5:1024≤c5∧c5≤9223372036854775807:=⟨own_cap o5,own_capMax o5⟩
     clear o5
     have hxz:=k5.blockAt hxz trivial
     have hgl:gh<w9.heap.size:=Nat.lt_of_lt_of_le hgl k5.size
     refine hold_step0 (i:=7) (by kernel_rfl) rfl rfl (fun K hK=>?_)
     go_simp
     refine (HRD w9 A5 c5 hb5 h5.1 h5.2).out.mono ?_
     rintro e w10 ⟨⟨P1,p1,P2,p2,A3,c3,rfl,hp1,hp2,hb1,hb2,ho3⟩,k6⟩
     dsimp only at hp1 hp2 hb1 hb2 ho3 ⊢
     go_wp2_with fail
     have n5:=Keep.new n4 k6
     refine hK.out _ _ n5 ?_
     clear hK K
     try simp only [Act.put,ly1,ly2,ly3,ly4,ly5,ly6]
     have hzz:=Keep.size n4
     have hb1:=hb1.imp (E:=fun b=>w8.heap.size≤b∧b≠gh) (fun b _ hb=>⟨Nat.le_trans hzz hb,by have h1:gh<w9.heap.size:=hgl;omega⟩)
     have hb2:=hb2.imp (E:=fun b=>w8.heap.size≤b∧b≠gh) (fun b _ hb=>⟨Nat.le_trans hzz hb,by have h1:gh<w9.heap.size:=hgl;omega⟩)
     have hs3:=(recs_sl.1 (ho3.recs (fun x hx=>by have h1:=recRight_def x;rw [HSM.out.1 x hx] at h1;have h2:=of_decide_eq_true h1.symm;omega))).imp (F:=fun b=>w8.heap.size≤b∧b≠gh) (fun b hlt hb=>(fun b _ hb=>⟨Nat.le_trans hzz hb,by have h1:gh<w9.heap.size:=hgl;omega⟩) b hlt (hb.elim (fun h=>h) (fun h=>h)))
     have hc3:rr.length≤c3∧c3≤9223372036854775807:=⟨ho3.cap,ho3.capMax⟩
     clear ho3 hb5 h5
     have hxz:=k6.blockAt hxz trivial
     refine take0 8 n5 ?_
     refine take0 9 n5 ?_
     refine take0 10 n5 ?_
     refine take0 11 n5 ?_
     obtain ⟨z0,z1,z2,z3,z4,z5⟩:=fz6 hxz
     obtain ⟨d0,d1,d2,d3,d4,d5⟩:=cs6 hxz
     refine hold_step0 (i:=13) (by kernel_rfl) rfl rfl (fun K hK=>?_)
     go_simp
     obtain ⟨hxf,kf⟩:=six_cells hxz (.int .i64 h.index) (.int .u64 h.first) (.int .i64 h.count) (.int .i64 h.bytes) (.slice P1 h.prev.length p1) (.slice P2 h.root.length p2)
     have nf:=((Keep.of_new (D:=fun b=>b<w8.heap.size) n5).trans2 kf (fun b _ hb e=>by omega)).toNew (fun b hb=>hb)
     have hb1:=hb1.keep kf (fun b _ hb=>hb.2)
     have hb2:=hb2.keep kf (fun b _ hb=>hb.2)
     have hs3:=hs3.keep kf (fun b _ hb=>hb.2)
     refine hK.out _ _ nf ?_
     clear hK K z0 z1 z2 z3 z4 z5 d0 d1 d2 d3 d4 d5
     try simp only [Act.put,ly1,ly2,ly3,ly4,ly5,ly6]
     generalize World.setCell _ _ _=wf at *
     refine take0 14 nf ?_
     refine take0 15 nf ?_
     refine wpAnyH_done (by kernel_rfl) ?_ _
     go_wp2_with fail
     go_meet
     exact ⟨gh,P1,P2,A3,p1,p2,c3,rfl,rfl,rfl,by omega,hxf,hp1,hp2,hb1.imp fun b _ hb=>by rw [hz7];exact hb.1,hb2.imp fun b _ hb=>by rw [hz7];exact hb.1,hc3.1,hc3.2,hs3.imp fun b _ hb=>by rw [hz7];exact hb.1,n3.new nf⟩
   case rest =>
    obtain ⟨gh,P1,P2,A3,p1,p2,c3,rfl,rfl,rfl,hgh,hxh,hp1,hp2,hb1,hb2,hc3,hc3m,hs3,k8⟩:=hcut
    generalize wc=w9 at *
    have HK:=Lib.hid (HK.out.new k8)
    have HX:=Lib.hid (k8.blockAt HX.out trivial)
    have HL:=Lib.hid (HL.out.new k8)
    have HO:=Lib.hid (HO.out.new k8)
    replace hB9:=Lib.hid (hB9.out.new k8)
    have hz8:=k8.size
    have HB:=Lib.hid (And.intro hb1 (And.intro hb2 hs3))
    have HXH:=Lib.hid hxh
    clear hb1 hb2 hs3 hxh k8 HPL HRD
    obtain ⟨Hq,hqc,hbl9,hq32,hBq⟩:=HL.out.cells
    have HEQ:=Lib.hid (fun W (hW:New w9 W)=>equal_any _ _ P1 Hq h.prev.length p1 32 hqc h.prev hdv W (HB.out.1.new hW) (hBq.new hW))
    have HCL:=Lib.hid hbl9
    rw [← hix.out] at hbl9
    clear hBq
    go_upto_region 9 with fail
    go_cut [123] (fun sx wx=>sx=.bool (!decide (why=0∧h.index=(ix:Int)∧h.first=nx∧h.prev=hdv))∧New w9 wx)
    case first =>
     have n0:New w9 w9:=New.refl _
     have r0:∀ W,New w9 W→W.cell? ⟨gh,0,none⟩=some (.int .i64 h.index):=fun W hW=>cellOf (k:=0) (hW.blockAt HXH.out trivial) rfl
     have r1:∀ W,New w9 W→W.cell? ⟨gh,1,none⟩=some (.int .u64 h.first):=fun W hW=>cellOf (k:=1) (hW.blockAt HXH.out trivial) rfl
     have r4:∀ W,New w9 W→W.cell? ⟨gh,4,none⟩=some (.slice P1 h.prev.length p1):=fun W hW=>cellOf (k:=4) (hW.blockAt HXH.out trivial) rfl
     have t4:∀ W,New w9 W→W.cell? ⟨bl,4,none⟩=some (.int .i64 (ix:Int)):=fun W hW=>cellOf (k:=4) (hW.blockAt hbl9 trivial) rfl
     have t5:∀ W,New w9 W→W.cell? ⟨bl,5,none⟩=some (.slice Hq 32 hqc):=fun W hW=>cellOf (k:=5) (hW.blockAt hbl9 trivial) rfl
     have t6:∀ W,New w9 W→W.cell? ⟨bl,6,none⟩=some (.int .u64 nx):=fun W hW=>cellOf (k:=6) (hW.blockAt hbl9 trivial) rfl
     clear hbl9
     by_cases q0:why=0
     rotate_left
     ·as_aux_lemma =>
      have b0:(why !=0)=true:=by simpa using q0
      refine hold_begin (by kernel_rfl) ?_
      have n0:New w9 w9.drew:=(New.refl w9).drew
      replace r0:=fun W (hW:New w9.drew W)=>r0 W (Keep.new n0 hW)
      replace r1:=fun W (hW:New w9.drew W)=>r1 W (Keep.new n0 hW)
      replace r4:=fun W (hW:New w9.drew W)=>r4 W (Keep.new n0 hW)
      replace t4:=fun W (hW:New w9.drew W)=>t4 W (Keep.new n0 hW)
      replace t5:=fun W (hW:New w9.drew W)=>t5 W (Keep.new n0 hW)
      replace t6:=fun W (hW:New w9.drew W)=>t6 W (Keep.new n0 hW)
      refine take1 0 ?_
      refine take1 1 ?_
      refine take1 2 ?_
      refine skip1 3 ?_
      refine skip1 4 ?_
      refine skip1 5 ?_
      refine skip1 6 ?_
      refine skip1 7 ?_
      refine skip1 8 ?_
      refine skip1 9 ?_
      refine take1 10 ?_
      refine take1 11 ?_
      refine skip1 12 ?_
      refine skip1 13 ?_
      refine skip1 14 ?_
      refine skip1 15 ?_
      refine skip1 16 ?_
      refine skip1 17 ?_
      refine skip1 18 ?_
      refine take1 19 ?_
      refine take1 20 ?_
      refine skip1 21 ?_
      refine skip1 22 ?_
      refine skip1 23 ?_
      refine skip1 24 ?_
      refine skip1 25 ?_
      refine skip1 26 ?_
      refine skip1 27 ?_
      refine skip1 28 ?_
      refine take1 29 ?_
      refine wpAnyH_done (by kernel_rfl) ?_ _
      go_wp2_with fail
      go_meet
      exact ⟨by simp [q0],n0⟩
     have b0:(why !=0)=false:=by simpa using q0
     replace q0:=Lib.hid q0
     by_cases q1:h.index=(ix:Int)
     rotate_left
     ·as_aux_lemma =>
      have b1:(h.index !=(ix:Int))=true:=by simpa using q1
      refine hold_begin (by kernel_rfl) ?_
      have n0:New w9 w9.drew:=(New.refl w9).drew
      replace r0:=fun W (hW:New w9.drew W)=>r0 W (Keep.new n0 hW)
      replace r1:=fun W (hW:New w9.drew W)=>r1 W (Keep.new n0 hW)
      replace r4:=fun W (hW:New w9.drew W)=>r4 W (Keep.new n0 hW)
      replace t4:=fun W (hW:New w9.drew W)=>t4 W (Keep.new n0 hW)
      replace t5:=fun W (hW:New w9.drew W)=>t5 W (Keep.new n0 hW)
      replace t6:=fun W (hW:New w9.drew W)=>t6 W (Keep.new n0 hW)
      refine take1 0 ?_
      refine take1 1 ?_
      refine take1 2 ?_
      refine take1 3 ?_
      refine take1 4 ?_
      refine take1 5 ?_
      refine take1 6 ?_
      refine take1 7 ?_
      refine take1 8 ?_
      refine take1 9 ?_
      refine take1 10 ?_
      refine take1 11 ?_
      refine skip1 12 ?_
      refine skip1 13 ?_
      refine skip1 14 ?_
      refine skip1 15 ?_
      refine skip1 16 ?_
      refine skip1 17 ?_
      refine skip1 18 ?_
      refine take1 19 ?_
      refine take1 20 ?_
      refine skip1 21 ?_
      refine skip1 22 ?_
      refine skip1 23 ?_
      refine skip1 24 ?_
      refine skip1 25 ?_
      refine skip1 26 ?_
      refine skip1 27 ?_
      refine skip1 28 ?_
      refine take1 29 ?_
      refine wpAnyH_done (by kernel_rfl) ?_ _
      go_wp2_with fail
      go_meet
      exact ⟨by simp [q1],n0⟩
     have b1:(h.index !=(ix:Int))=false:=by simpa using q1
     by_cases q2:h.first=nx
     rotate_left
     ·as_aux_lemma =>
      have b2:(h.first !=nx)=true:=by simpa using q2
      replace q1:=Lib.hid q1
      refine hold_begin (by kernel_rfl) ?_
      have n0:New w9 w9.drew:=(New.refl w9).drew
      replace r0:=fun W (hW:New w9.drew W)=>r0 W (Keep.new n0 hW)
      replace r1:=fun W (hW:New w9.drew W)=>r1 W (Keep.new n0 hW)
      replace r4:=fun W (hW:New w9.drew W)=>r4 W (Keep.new n0 hW)
      replace t4:=fun W (hW:New w9.drew W)=>t4 W (Keep.new n0 hW)
      replace t5:=fun W (hW:New w9.drew W)=>t5 W (Keep.new n0 hW)
      replace t6:=fun W (hW:New w9.drew W)=>t6 W (Keep.new n0 hW)
      refine take1 0 ?_
      refine take1 1 ?_
      refine take1 2 ?_
      refine take1 3 ?_
      refine take1 4 ?_
      refine take1 5 ?_
      refine take1 6 ?_
      refine take1 7 ?_
      refine take1 8 ?_
      refine take1 9 ?_
      refine take1 10 ?_
      refine take1 11 ?_
      refine take1 12 ?_
      refine take1 13 ?_
      refine take1 14 ?_
      refine take1 15 ?_
      refine take1 16 ?_
      refine take1 17 ?_
      refine take1 18 ?_
      refine take1 19 ?_
      refine take1 20 ?_
      refine skip1 21 ?_
      refine skip1 22 ?_
      refine skip1 23 ?_
      refine skip1 24 ?_
      refine skip1 25 ?_
      refine skip1 26 ?_
      refine skip1 27 ?_
      refine skip1 28 ?_
      refine take1 29 ?_
      refine wpAnyH_done (by kernel_rfl) ?_ _
      go_wp2_with fail
      go_meet
      exact ⟨by simp [q2],n0⟩
     have b2:(h.first !=nx)=false:=by simpa using q2
     replace q1:=Lib.hid q1
     replace q2:=Lib.hid q2
     obtain ⟨bq,hbq⟩:∃ x,x=(h.prev==hdv):=⟨_,rfl⟩
     have HEQ:=HEQ.out
     rw [← hbq] at HEQ
     replace HEQ:=Lib.hid HEQ
     replace hbq:=Lib.hid hbq
     refine hold_begin (by kernel_rfl) ?_
     have n0:New w9 w9.drew:=(New.refl w9).drew
     replace r0:=fun W (hW:New w9.drew W)=>r0 W (Keep.new n0 hW)
     replace r1:=fun W (hW:New w9.drew W)=>r1 W (Keep.new n0 hW)
     replace r4:=fun W (hW:New w9.drew W)=>r4 W (Keep.new n0 hW)
     replace t4:=fun W (hW:New w9.drew W)=>t4 W (Keep.new n0 hW)
     replace t5:=fun W (hW:New w9.drew W)=>t5 W (Keep.new n0 hW)
     replace t6:=fun W (hW:New w9.drew W)=>t6 W (Keep.new n0 hW)
     refine take1 0 ?_
     refine take1 1 ?_
     refine take1 2 ?_
     refine take1 3 ?_
     refine take1 4 ?_
     refine take1 5 ?_
     refine take1 6 ?_
     refine take1 7 ?_
     refine take1 8 ?_
     refine take1 9 ?_
     refine take1 10 ?_
     refine take1 11 ?_
     refine take1 12 ?_
     refine take1 13 ?_
     refine take1 14 ?_
     refine take1 15 ?_
     refine take1 16 ?_
     refine take1 17 ?_
     refine take1 18 ?_
     refine take1 19 ?_
     refine take1 20 ?_
     refine take1 21 ?_
     refine take1 22 ?_
     refine take1 23 ?_
     refine take1 24 ?_
     refine take1 25 ?_
     refine take1 26 ?_
     refine hold_step (i:=27) (by kernel_rfl) rfl rfl (fun K hK=>?_)
     go_simp
     refine (HEQ.out _ n0).mono ?_
     rintro e wz ⟨rfl,k9⟩;have k9:=New.of_eq k9
     go_wp2_with fail
     refine hK.out _ _ k9 ?_
     clear hK K
     try simp only [Act.put,ly1,ly2,ly3,ly4,ly5,ly6]
     replace n0:=Keep.new n0 k9
     replace r0:=fun W (hW:New wz W)=>r0 W (Keep.new k9 hW)
     replace r1:=fun W (hW:New wz W)=>r1 W (Keep.new k9 hW)
     replace r4:=fun W (hW:New wz W)=>r4 W (Keep.new k9 hW)
     replace t4:=fun W (hW:New wz W)=>t4 W (Keep.new k9 hW)
     replace t5:=fun W (hW:New wz W)=>t5 W (Keep.new k9 hW)
     replace t6:=fun W (hW:New wz W)=>t6 W (Keep.new k9 hW)
     refine take1 28 ?_
     refine take1 29 ?_
     refine wpAnyH_done (by kernel_rfl) ?_ _
     go_wp2_with fail
     go_meet
     exact ⟨by rw [hbq.out];simp [q0.out,q1.out,q2.out,Bool.beq_eq_decide_eq],n0⟩
    case rest =>
     obtain ⟨rfl,k9⟩:=hcut
     have HK:=Lib.hid (HK.out.new k9)
     have HX:=Lib.hid (k9.blockAt HX.out trivial)
     have HL:=Lib.hid (HL.out.new k9)
     have HO:=Lib.hid (HO.out.new k9)
     have HXH:=Lib.hid (k9.blockAt HXH.out trivial)
     have HB:=Lib.hid (And.intro (HB.out.1.new k9) (And.intro (HB.out.2.1.new k9) (HB.out.2.2.new k9)))
     have hz9:=k9.size
     clear hbl9 HCL HEQ k9 hB9
     by_cases hgd:why=0∧h.index=(ix:Int)∧h.first=nx∧h.prev=hdv
     ·have hgb2:(!decide (why=0∧h.index=(ix:Int)∧h.first=nx∧h.prev=hdv))=false:=by rw [decide_eq_true hgd];rfl
      rw [hgb2]
      clear hgb2
      replace hgd:=Lib.hid hgd
      have hst:=HST.out (g-(ix+1))
      rw [if_pos hgd.out] at hst
      replace hst:=Lib.hid hst
      have hlh:=HL.out.lt
      have hbl7:bl<w7.heap.size:=HBL7.out
      have HDD:=Lib.hid (did_any HL.out h P1 P2 p1 p2 HB.out.1 hp1 HB.out.2.1 hp2 (fun b hb e=>by omega) (fun b hb e=>by omega) hgd.out.2.2.1 HSM.out.2.2.1 HSM.out.2.2.2 (by have:=hix.out;dsimp only;omega))
      obtain ⟨c0,c1,c2,c3,c4,c5⟩:=cs6 HXH.out
      go_upto_region 10 with fail
      go_wp2_with fail
      refine HDD.out.mono ?_
      rintro e wd ⟨rfl,kd,hld⟩
      clear c0 c1 c2 c3 c4 c5
      have kA:New wd (wd.alloc (.cells #[.slice A3 rr.length c3] 195)):=(New.refl wd).alloc _
      have hrw:=(Row.made wd 195 #[.slice A3 rr.length c3] 1 1 rfl).imp (E:=fun _=>True) fun _ _ _=>trivial
      have hod:=(HO.out.keepE kd (fun k hk e=>HAB.out (by rw [hk,e])) (fun b hb=>hb.2)).new kA
      have hlt7:=fun k hk=>(HO7.out.lt k hk).2
      have hs4:Sl recElt (wd.alloc (.cells #[.slice A3 rr.length c3] 195)) (fun b=>(w.heap.size≤b∧b≠bl)∧some b≠blk Ao) A3 rr.length rr:=((HB.out.2.2.keep kd (fun b _ hb=>by show b≠bl;omega)).new kA).imp fun b _ hb=>⟨⟨by omega,by omega⟩,fun e=>by have:=hlt7 b e.symm;omega⟩
      generalize hwA:wd.alloc (.cells #[.slice A3 rr.length c3] 195)=wA at *
      have hzA:w.heap.size≤wA.heap.size:=Nat.le_trans HK.out.size (Nat.le_trans kd.size kA.size)
      obtain ⟨q0,hq0,hqz,hqs,hqb⟩:=info_parts info_recsl
      have HOD:=Lib.hid hod
      have HS4:=Lib.hid hs4
      have HLD:=Lib.hid hld
      have HKD:=Lib.hid (And.intro kd kA)
      clear hod hs4 hld kd kA hlt7
      go_wp2_with (at_builtin;refine app_sl (E:=slElt recElt) _ rfl _ _ 232 195 rfl q0 (.slice none 0 0) 24 Tryz.underlying232 hq0 hqz hqs hqb rfl w.heap.size (fun b=>w.heap.size≤b∧b≠bl) Ao j co (dn.map Prod.snd) rfl HOD.out (fun _=>True) (some ⟨wd.heap.size,0,none⟩) 1 [.slice A3 rr.length c3] rr rfl hrw ⟨A3,c3,rfl,hc3,hc3m,HS4.out⟩ (by omega) (by omega) hzA ?_;intro A4 c4 w4 o4 hg4 hbk4)
      have kg:Keep (fun j=>some j≠blk Ao) wA w4:=Keep.grown (Keep.refl _ _) hg4 (fun j hj hd=>absurd hj.symm hd)
      obtain ⟨kd,kA⟩:=HKD.out
      have hAl:=HO.out.lt
      have hdz:=kd.size
      have hkw:New w w4:=((((Keep.of_new (D:=fun b=>b<w.heap.size) HK.out).trans2 kd (fun b _ hb=>by show b≠bl;omega)).new kA).trans2 kg (fun b _ hb e=>by have:=(hAl b e.symm).1;omega)).toNew (fun b hb=>hb)
      have hx4:=kg.blockAt (kA.blockAt (kd.blockAt HX.out hgb) trivial) (fun e=>by have h1:=(hAl _ e.symm).1;have h2:=HAW.out;exact h2 e.symm)
      have hab4:blk A4≠some bl:=fun e=>by rcases hbk4 with h1|h1;exact HAB.out (h1.symm.trans e);rw [h1] at e;injection e with e;have:=kA.size;omega
      have hl4:=(HLD.out.new kA).imp (F:=fun b=>((w.heap.size≤b∧b≠bl)∧some b≠blk Ao)∧b<wA.heap.size) (fun b hb hd=>⟨by rcases hd with hd|hd;exact hd;exact ⟨⟨by omega,by omega⟩,fun e=>by have:=(hAl b e.symm).2;omega⟩,hb⟩) (fun hd=>hd.1.1.2 rfl)
      have hl5:=(hl4.keep kg (fun e=>HAB.out e.symm) (fun k hk=>by cases hk) (fun b hb=>hb.1.2)).imp (F:=fun b=>(w.heap.size≤b∧b≠bl)∧some b≠blk A4) (fun b _ hd=>⟨hd.1.1,fun e=>by rcases hbk4 with h1|h1;exact hd.1.2 (e.trans h1);rw [h1] at e;injection e with e;have:=hd.2;omega⟩) (fun hd=>hd.1.2 rfl)
      go_roundw
      case rel =>
       refine ⟨j+1,A4,c4,dn++[(h,rr)],by have:=hix.out;omega,by rw [List.length_append,HDL.out];rfl,rfl,hkw,hx4,?_,?_,hab4,?_⟩
       ·rw [foundEnd_snoc]
        exact hl5
       ·rw [List.map_append]
        exact o4
       ·rw [foundEnd_snoc,HFN.out,List.append_assoc]
        have h2:=hix.out
        have e1:foundIn S p (g-ix) ix nx hdv=(h,rr)::foundIn S p (g-(ix+1)) (ix+1) (h.first+h.count) (sealOf h):=by (have h1:=hst.out);rwa [show g-(ix+1)+1=g-ix from by omega] at h1
        have e2:fr+(j+1)=ix+1:=by omega
        rw [e2]
        first|rw [e1]|rw [← h2,e1]
        rfl
      case measure=>have:=hix.out;simp;omega
     ·have hgb2:(!decide (why=0∧h.index=(ix:Int)∧h.first=nx∧h.prev=hdv))=true:=by rw [decide_eq_false hgd];rfl
      rw [hgb2]
      clear hgb2
      have hfd:F0=dn:=by (have h1:=HST.out (g-(ix+1)));rw [if_neg hgd,show g-(ix+1)+1=g-(fr+j) from by have:=hix.out;omega,hix.out] at h1;rw [HFN.out,h1,List.append_nil]
      replace hgd:=Lib.hid hgd
      replace hfd:=Lib.hid hfd
      go_wp2_with fail
      refine bodyPost_ret (v:=.tuple #[.pointer (some ⟨bl,0,none⟩),.slice Ao j co,.int .i64 0]) (by simp [results,Tryz.results161,go_sem]) rfl ?_
      unfold OpenRet
      refine ⟨HK.out,bl,Ao,co,dn,hfd.out.symm.trans HF0.out,by rw [HDL.out],hbw,⟨?_,HH.out.1.new HK.out,HH.out.2.1,HH.out.2.2,HBE.out bl hbw,fun k hk=>(by cases hk),fun b hb=>HBE.out b hb.1⟩,by rw [HDL.out];exact HO.out⟩
      rw [HDL.out,← hnx.out,← hhd.out]
      exact HL.out.imp (fun b _ hd=>hd.1) (fun hd=>hd.2 rfl)
  ·have hli:¬ ((ix:Int)<(g:Int)):=by omega
   have hfd:F0=dn:=by rw [HFN.out,show g-(fr+j)=0 from by have:=hix.out;omega];exact List.append_nil _
   replace hfd:=Lib.hid hfd
   go_wp2_with fail
   refine bodyPost_ret (v:=.tuple #[.pointer (some ⟨bl,0,none⟩),.slice Ao j co,.int .i64 0]) (by simp [results,Tryz.results161,go_sem]) rfl ?_
   unfold OpenRet
   refine ⟨HK.out,bl,Ao,co,dn,hfd.out.symm.trans HF0.out,by rw [HDL.out],hbw,⟨?_,HH.out.1.new HK.out,HH.out.2.1,HH.out.2.2,HBE.out bl hbw,fun k hk=>(by cases hk),fun b hb=>HBE.out b hb.1⟩,by rw [HDL.out];exact HO.out⟩
   rw [HDL.out,← hnx.out,← hhd.out]
   exact HL.out.imp (fun b _ hd=>hd.1) (fun hd=>hd.2 rfl)
end Go.Proofs.YtdodbdednpnddaaGreatDoor
