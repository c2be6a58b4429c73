/-
  PROVED HERE: what point.Decode answers of a point's bytes; condition: a mark that may be, and that fits.
-/
import Derived.Test.YtdodbdednpnddaaGreatDoorPkT28
set_option maxRecDepth 100000
set_option maxHeartbeats 1000000
namespace Go.Proofs.YtdodbdednpnddaaGreatDoor
open Go.RowKit
theorem five_cells {w:World}{g:Nat}{c0 c1 c2 c3 c4:Value}{t:TypeId}(h:w.heap[g]?=some (.cells #[c0,c1,c2,c3,c4] t (0,0))) (x0 x1 x2 x3 x4:Value):
  (((((w.setCell ⟨g,0,none⟩ x0).setCell ⟨g,1,none⟩ x1).setCell ⟨g,2,none⟩ x2).setCell ⟨g,3,none⟩ x3).setCell ⟨g,4,none⟩ x4).heap[g]?=some (.cells #[x0,x1,x2,x3,x4] t (0,0)) ∧
  Keep (fun b=>b≠g) w (((((w.setCell ⟨g,0,none⟩ x0).setCell ⟨g,1,none⟩ x1).setCell ⟨g,2,none⟩ x2).setCell ⟨g,3,none⟩ x3).setCell ⟨g,4,none⟩ x4):=by
 have no:∀ (W:World) (k:Nat) (u:Value),Keep (fun b=>b≠g) w W→Keep (fun b=>b≠g) w (W.setCell ⟨g,k,none⟩ u):=fun W k u hW=>hW.setCell (p:=⟨g,k,none⟩) (fun hd=>absurd rfl hd) u
 exact ⟨setCell_block (setCell_block (setCell_block (setCell_block (setCell_block h 0 x0) 1 x1) 2 x2) 3 x3) 4 x4,no _ _ _ (no _ _ _ (no _ _ _ (no _ _ _ (no _ _ _ (Keep.refl _ w)))))⟩
def MarkAt (w w':World) (m:MarkP) (v:Value):Prop:=∃ H hc B dc,v=.agg #[.int .u64 m.gen,.int .u64 m.seq,.int .i64 m.segs,.slice H 32 hc,.slice B m.data.length dc] ∧
 (Bs w' (fun b=>w.heap.size≤b) H 32 m.head∧32≤hc∧hc≤9223372036854775807)∧(Bs w' (fun b=>w.heap.size≤b) B m.data.length m.data∧m.data.length≤dc∧dc≤9223372036854775807)
theorem pdecode_any {s p g:Int}{m:MarkP}(hr:planRight s p g=true) (hm:MarkOk p g m) (hfit:(m.data.length:Int)≤128*p-94){D:Nat→Prop}{A:Option Addr}{n c:Nat}{w:World}(hB:Bs w D A n (pointBytes p m)) (hn:(n:Int)=128*p) (hc:n≤c) (hc9:c≤9223372036854775807):
  Calls Tryz.prog 266 #[.agg #[.int .i64 s,.int .i64 p,.int .i64 g],.slice A n c] w fun e w'=>(∃ v,e=.returned (.tuple #[v,.int .i64 0])∧MarkAt w w' m v)∧New w w':=by
 have hpb:=planRight_bounds hr
 obtain ⟨g',q',s',a',b',r1,r2,r3,r4,r5,r6,r7,r8,r9,hP⟩:=point_parts hm (by omega) (by omega)
 obtain ⟨z,hz⟩:∃ z,z=(128*p).toNat-94-m.data.length:=⟨_,rfl⟩
 rw [← hz] at hP
 have HR:=fun W=>Lib.hid (right21_any s p g (by omega) W)
 rw [hr] at HR
 have HM:=fun (A:Option Addr) (cc:Nat) W=>Lib.hid (pright_any (s:=s) hm A none 32 cc 0 0 rfl W)
 have HO:=fun W=>Lib.hid (proom_any hr W)
 obtain ⟨bs,hbs⟩:∃ bs,bs=pointBytes p m:=⟨_,rfl⟩
 rw [← hbs] at hB hP
 have hsh:=hP.hash
 have hgen:=hm.gen
 have hseq:=hm.seq
 have hsegs:=hm.segs
 have hhd:=hm.head
 obtain ⟨gen,seq,segs,head,data⟩:=m
 dsimp only at *
 obtain ⟨dn,hdn⟩:∃ dn,dn=data.length:=⟨_,rfl⟩
 have eg:=hP.hg
 have eq:=hP.hq
 have es:=hP.hs
 dsimp only at eg eq es
 obtain ⟨cs,hcs⟩:∃ cs,cs=crcSum (bs.take 58):=⟨_,rfl⟩
 have qa:IntKind.u32.wrap (a':Int)=wv (cs >>> 16):=by rw [hP.ha,← hcs,IntKind.wrap_u32];have:=wv_bd (cs >>> 16);omega
 have qb:IntKind.u32.wrap (b':Int)=wv (cs &&& 65535#32):=by rw [hP.hb,← hcs,IntKind.wrap_u32];have:=wv_bd (cs &&& 65535#32);omega
 have q1:IntKind.i64.wrap (128*p)=128*p:=IntWalk.i64_in _ (by omega)
 have q2:IntKind.u64.wrap (128*p-94)=128*p-94:=by rw [IntKind.wrap_u64];omega
 have q3:IntKind.i64.wrap (dn:Int)=(dn:Int):=IntWalk.i64_in _ (by omega)
 have q4:IntKind.i64.wrap (94+(dn:Int))=94+(dn:Int):=IntWalk.i64_in _ (by omega)
 have d0:((n:Int) !=128*p)=false:=by simp [hn]
 have d1:decide (128*p-94<(dn:Int))=false:=decide_eq_false (by omega)
 have hlow:94+dn≤n:=by omega
 have hdl:dn≤200000:=by omega
 have hzn:n-(94+dn)=z:=by omega
 have hn2:n≤200000:=by omega
 have HP:=Lib.hid hP
 have HBB:=Lib.hid hB
 have HCS:=Lib.hid hcs
 have HDN:=Lib.hid hdn
 have HHD:=Lib.hid hhd
 have HEQ:=Lib.hid (And.intro eg (And.intro eq es))
 clear hr hm hP hB hbs hsh hgen hseq hsegs hhd hpb hz hcs hdn eg eq es
 have kA:=((New.refl w).alloc (.cells #[.int .i64 s,.int .i64 p,.int .i64 g] 33)).alloc (.cells #[.int .u64 0,.int .u64 0,.int .i64 0,.slice none 0 0,.slice none 0 0] 142)
 have x1:=((New.refl (w.alloc (.cells #[.int .i64 s,.int .i64 p,.int .i64 g] 33))).alloc (.cells #[.int .u64 0,.int .u64 0,.int .i64 0,.slice none 0 0,.slice none 0 0] 142)).blockAt (heap_alloc_new w (.cells #[.int .i64 s,.int .i64 p,.int .i64 g] 33)) trivial
 have x2:=heap_alloc_new (w.alloc (.cells #[.int .i64 s,.int .i64 p,.int .i64 g] 33)) (.cells #[.int .u64 0,.int .u64 0,.int .i64 0,.slice none 0 0,.slice none 0 0] 142)
 rw [show (w.alloc (.cells #[.int .i64 s,.int .i64 p,.int .i64 g] 33)).heap.size=w.heap.size+1 from by simp] at x2
 go_enter Tryz.func266,Tryz.ntmps266
 go_upto_region 1 with fail
 generalize hgp:w.heap.size=gp at *
 generalize (w.alloc (.cells #[.int .i64 s,.int .i64 p,.int .i64 g] 33)).alloc (.cells #[.int .u64 0,.int .u64 0,.int .i64 0,.slice none 0 0,.slice none 0 0] 142)=w1 at *
 have HG:=Lib.hid hgp
 obtain ⟨p0,p1,p2⟩:=cs3 x1
 have HX:=Lib.hid (And.intro x1 x2)
 have HKA:=Lib.hid kA
 clear x1 x2 kA hgp
 go_wp2_with fail
 refine (HR _).out.mono ?_
 rintro e w2 ⟨rfl,k2⟩
 replace HX:=Lib.hid (And.intro (k2.blockAt HX.out.1 trivial) (k2.blockAt HX.out.2 trivial))
 replace HKA:=Lib.hid (HKA.out.new k2)
 clear p0 p1 p2 k2 HR
 obtain ⟨p0,p1,p2⟩:=cs3 HX.out.1
 have HNR:=Lib.hid (newReader_any D A n c bs w2 (HBB.out.new HKA.out) (by omega))
 go_wp2_with fail
 refine HNR.out.mono ?_
 rintro e w3 ⟨⟨rp,rfl,hrp,hR⟩,k3⟩
 have HK:=Lib.hid k3
 have hgr:gp+1<w2.heap.size:=(Array.getElem?_eq_some_iff.1 HX.out.2).1
 have hrg:gp+1<rp:=Nat.lt_of_lt_of_le hgr hrp
 have HQ:Hid (∀ W,Keep (fun b=>b≠rp) w3 W→Keep (fun b=>b<rp) w2 W):=Lib.hid fun W hW=>(Keep.of_new (D:=fun b=>b<rp) HK.out).trans2 hW fun b _ hb=>Nat.ne_of_lt hb
 have HR1:=Lib.hid (rlong_any rp ⟨bs,0⟩ w3 hR)
 rw [HP.out.e1] at HR1
 dsimp only at HR1
 rw [HEQ.out.1] at HR1
 clear HNR k3 hR p0 p1 p2 hgr
 have HE:=Lib.hid (Keep.refl (fun b=>b≠rp) w3)
 go_wp2_with fail
 refine HR1.out.mono ?_
 rintro e w4 ⟨rfl,hR,k4⟩
 replace HE:=Lib.hid (HE.out.trans k4)
 have HR2:=Lib.hid (rlong_any rp ⟨r1,0⟩ w4 hR)
 rw [HP.out.e2] at HR2
 dsimp only at HR2
 rw [HEQ.out.2.1] at HR2
 clear HR1 k4 hR
 go_wp2_with fail
 refine HR2.out.mono ?_
 rintro e w5 ⟨rfl,hR,k5⟩
 replace HE:=Lib.hid (HE.out.trans k5)
 have HR3:=Lib.hid (rshort_any rp ⟨r2,0⟩ w5 hR)
 rw [HP.out.e3] at HR3
 dsimp only at HR3
 rw [HEQ.out.2.2] at HR3
 clear HR2 k5 hR
 go_wp2_with fail
 refine HR3.out.mono ?_
 rintro e w6 ⟨rfl,hR,k6⟩
 replace HE:=Lib.hid (HE.out.trans k6)
 have HR4:=Lib.hid (rraw_any rp ⟨r3,0⟩ 32 w6 hR)
 have e4:=HP.out.e4
 dsimp only at e4
 rw [e4] at HR4
 dsimp only at HR4
 rw [HHD.out] at HR4
 have hr6:=hR.lt
 clear HR3 k6 hR e4
 go_wp2_with fail
 refine HR4.out.mono ?_
 rintro e w7 ⟨⟨A4,c4,rfl,o4⟩,hR,k7⟩
 replace HE:=Lib.hid (HE.out.trans k7)
 have HO4:=Lib.hid o4
 have HRD:=Lib.hid hR
 clear HR4 k7 hR o4
 go_upto_region 5 with fail
 have kM:=(New.refl w7).alloc (.cells #[.int .u64 gen,.int .u64 seq,.int .i64 segs,.slice A4 32 c4,.slice none 0 0] 142)
 have xM:=heap_alloc_new w7 (.cells #[.int .u64 gen,.int .u64 seq,.int .i64 segs,.slice A4 32 c4,.slice none 0 0] 142)
 have hgm:rp<w7.heap.size:=HRD.out.lt
 generalize w7.alloc (.cells #[.int .u64 gen,.int .u64 seq,.int .i64 segs,.slice A4 32 c4,.slice none 0 0] 142)=w8 at *
 generalize hgm0:w7.heap.size=gm at *
 have HXM:=Lib.hid xM
 replace HE:=Lib.hid (HE.out.new kM)
 have HO4':Hid (Bs w8 (fun b=>w6.heap.size≤b∧b<gm) A4 32 head):=Lib.hid (((Row.of_own HO4.out).imp (E:=fun b=>w6.heap.size≤b∧b<gm) fun b hb hd=>⟨hd,by rw [← hgm0];exact hb⟩).new kM)
 have HC4:=Lib.hid (And.intro (own_cap HO4.out) (own_capMax HO4.out))
 have HR5:=Lib.hid (rlong_any rp ⟨r4,0⟩ w8 (HRD.out.keep kM))
 have e5:=HP.out.e5
 dsimp only at e5
 rw [e5] at HR5
 dsimp only at HR5
 rw [← HDN.out] at HR5
 clear HO4 HRD kM xM e5
 go_wp2_with fail
 refine HR5.out.mono ?_
 rintro e w9 ⟨rfl,hR,k9⟩
 replace HE:=Lib.hid (HE.out.trans k9)
 have hsz9:=k9.size
 replace HXM:=Lib.hid ((k9.block gm (Array.getElem?_eq_some_iff.1 HXM.out).1 (by show gm≠rp;omega)).trans HXM.out)
 replace HO4':=Lib.hid (HO4'.out.keep k9 fun b _ hb=>by show b≠rp;omega)
 have HR6:=Lib.hid (rshort_any rp ⟨r5,0⟩ w9 hR)
 have e6:=HP.out.e6
 rw [e6] at HR6
 dsimp only at HR6
 clear HR5 k9 hR e6 hsz9
 go_wp2_with fail
 refine HR6.out.mono ?_
 rintro e w10 ⟨rfl,hR,k10⟩
 replace HE:=Lib.hid (HE.out.trans k10)
 replace HXM:=Lib.hid ((k10.block gm (Array.getElem?_eq_some_iff.1 HXM.out).1 (by show gm≠rp;omega)).trans HXM.out)
 replace HO4':=Lib.hid (HO4'.out.keep k10 fun b _ hb=>by show b≠rp;omega)
 have HR7:=Lib.hid (rshort_any rp ⟨r6,0⟩ w10 hR)
 rw [HP.out.e7] at HR7
 dsimp only at HR7
 clear HR6 k10 hR
 go_wp2_with fail
 refine HR7.out.mono ?_
 rintro e w11 ⟨rfl,hR,k11⟩
 replace HE:=Lib.hid (HE.out.trans k11)
 replace HXM:=Lib.hid ((k11.block gm (Array.getElem?_eq_some_iff.1 HXM.out).1 (by show gm≠rp;omega)).trans HXM.out)
 replace HO4':=Lib.hid (HO4'.out.keep k11 fun b _ hb=>by show b≠rp;omega)
 have hgw:gm<w11.heap.size:=(Array.getElem?_eq_some_iff.1 HXM.out).1
 have HR8:=Lib.hid (rraw_any rp ⟨r7,0⟩ 32 w11 hR)
 have e8:=HP.out.e8
 dsimp only at e8
 have hsl:=shaSum_length data
 obtain ⟨hs,hhs⟩:∃ hs,hs=shaSum data:=⟨_,rfl⟩
 rw [← hhs] at e8 hsl
 rw [e8] at HR8
 dsimp only at HR8
 rw [hsl] at HR8
 have HHS:=Lib.hid hhs
 clear HR7 k11 hR e8 hhs hsl
 go_wp2_with fail
 refine HR8.out.mono ?_
 rintro e w12 ⟨⟨A12,c12,rfl,o12⟩,hR,k12⟩
 replace HE:=Lib.hid (HE.out.trans k12)
 replace HXM:=Lib.hid ((k12.block gm (Array.getElem?_eq_some_iff.1 HXM.out).1 (by show gm≠rp;omega)).trans HXM.out)
 replace HO4':=Lib.hid (HO4'.out.keep k12 fun b _ hb=>by show b≠rp;omega)
 have HO12:=Lib.hid (Row.of_own o12)
 have HRD:=Lib.hid hR
 have HBR:Hid (∀ W,Keep (fun b=>b≠rp) w3 W→Bs W (fun b=>b<rp) A n bs):=Lib.hid fun W hW=>((HBB.out.imp (E:=fun b=>b<rp) fun b hb _=>by have:=HG.out;omega).new HKA.out).keep (HQ.out W hW) fun b _ hb=>hb
 have HCR:=Lib.hid (crc_sum _ A 58 c (bs.take 58) w12 ((HBR.out _ HE.out).cutTo (by omega)) (by decide))
 rw [← HCS.out] at HCR
 clear HR8 k12 hR o12
 go_wp2_with fail
 refine HCR.out.mono ?_
 rintro e w13 ⟨rfl,rfl⟩
 rw [word_halves]
 have p0:=(HQ.out _ HE.out).cell_some (cellOf HX.out.1 (k:=0) rfl) (by show gp<rp;omega)
 have p1:=(HQ.out _ HE.out).cell_some (cellOf HX.out.1 (k:=1) rfl) (by show gp<rp;omega)
 have p2:=(HQ.out _ HE.out).cell_some (cellOf HX.out.1 (k:=2) rfl) (by show gp<rp;omega)
 obtain ⟨m0,m1,m2,m3,m4⟩:=cs5 HXM.out
 have HM':=HM A4 c4 w12
 clear HM HCR
 go_wp2_with fail
 refine HM'.out.mono ?_
 rintro e w13 ⟨rfl,k13⟩
 have p0:=k13.cell_some p0 trivial
 have p1:=k13.cell_some p1 trivial
 have p2:=k13.cell_some p2 trivial
 have HO':=HO w13
 have HE13:=Lib.hid (HE.out.new k13)
 replace HXM:=Lib.hid (k13.blockAt HXM.out trivial)
 replace HRD:=Lib.hid (HRD.out.keep k13)
 replace HO12:=Lib.hid (HO12.out.new k13)
 replace HO4':=Lib.hid (HO4'.out.new k13)
 clear HM' HO k13 m0 m1 m2 m3 m4
 go_wp2_with fail
 refine HO'.out.mono ?_
 rintro e w14 ⟨rfl,k14⟩
 have HE14:=Lib.hid (HE13.out.new k14)
 replace HXM:=Lib.hid (k14.blockAt HXM.out trivial)
 replace HRD:=Lib.hid (HRD.out.keep k14)
 replace HO12:=Lib.hid (HO12.out.new k14)
 replace HO4':=Lib.hid (HO4'.out.new k14)
 obtain ⟨X,hX⟩:∃ X,(if c=94+dn then A else Option.map (fun x=>x.add (94+dn)) A)=X:=⟨_,rfl⟩
 have HTR:Hid (∀ cc,z≤cc→cc≤9223372036854775807→Calls Tryz.prog 168 #[.slice X z cc,.string { data:=#[0] }] w14 fun e w'=>TrimRet (bs.drop (94+dn)) e∧New w14 w'):=Lib.hid (fun cc h1 h2=>by
  refine trim_any (fun b=>b<rp) _ _ cc _ w14 ?_ h1 h2
  have hB14:=HBR.out _ HE14.out
  by_cases e:c=94+dn
  ·have e1:z=0:=by omega
   have e2:bs.drop (94+dn)=[]:=List.drop_eq_nil_of_le (by have:=hB14.len;omega)
   rw [e1,e2];exact Row.nil _ _ _ _
  ·rw [← hX,if_neg e,← hzn];exact Bs.from_ hB14 (by omega))
 have htl:=HP.out.tail
 dsimp only at htl
 rw [← HDN.out] at htl
 rw [htl] at HTR
 have HTL:=Lib.hid (And.intro htl hX)
 clear HO' k14 p0 p1 p2 htl
 go_wp2_with fail
 all_goals
  refine (HTR.out _ (by omega) (by omega)).mono ?_
  rintro e w15 ⟨⟨At,mt,ct,rfl,-,hmt⟩,k15⟩
  obtain rfl:mt=0:=hmt fun x hx=>(List.mem_replicate.1 hx).2
  have HE15:=Lib.hid (HE14.out.new k15)
  replace HXM:=Lib.hid (k15.blockAt HXM.out trivial)
  replace HO12:=Lib.hid (HO12.out.new k15)
  replace HO4':=Lib.hid (HO4'.out.new k15)
  have HR9:=Lib.hid (rraw_any rp ⟨r8,0⟩ dn w15 (HRD.out.keep k15))
  have e9:=HP.out.e9
  dsimp only at e9
  rw [← HDN.out] at e9
  rw [e9] at HR9
  dsimp only at HR9
  rw [← HDN.out] at HR9
  clear HTR k15 hmt hX e9 HRD
  go_wp2_with fail
  refine HR9.out.mono ?_
  rintro e w16 ⟨⟨A16,c16,rfl,o16⟩,-,k16⟩
  have HE16:=Lib.hid (HE15.out.trans k16)
  have hgm16:gm<w15.heap.size:=(Array.getElem?_eq_some_iff.1 HXM.out).1
  replace HXM:=Lib.hid ((k16.block gm hgm16 (by show gm≠rp;omega)).trans HXM.out)
  replace HO12:=Lib.hid (HO12.out.keep k16 fun b _ hb=>by show b≠rp;omega)
  replace HO4':=Lib.hid (HO4'.out.keep k16 fun b _ hb=>by show b≠rp;omega)
  have HO16:=Lib.hid o16
  have m4:=cellOf HXM.out (k:=4) rfl
  have z4:=frozenOf HXM.out 4
  clear HR9 k16 o16
  go_upto_region 13 with fail
  have xS:=setCell_block HXM.out 4 (.slice A16 dn c16)
  have kS:=(Keep.refl (fun b=>b≠gm) w16).setCell (p:=⟨gm,4,none⟩) (fun hd=>absurd rfl hd) (.slice A16 dn c16)
  have hgm16':gm<w16.heap.size:=(Array.getElem?_eq_some_iff.1 HXM.out).1
  generalize w16.setCell ⟨gm,4,none⟩ (.slice A16 dn c16)=w17 at *
  have xS':w17.heap[gm]?=some (.cells #[.int .u64 gen,.int .u64 seq,.int .i64 segs,.slice A4 32 c4,.slice A16 dn c16] 142 (0,0)):=xS
  replace HXM:=Lib.hid xS'
  have HB16:Hid (Bs w17 (fun b=>gp+2≤b∧b≠gm) A16 dn data):=Lib.hid ((((Row.of_own HO16.out).imp (E:=fun b=>gp+2≤b∧b≠gm) fun b _ hb=>⟨by omega,by omega⟩).keep kS fun b _ hb=>hb.2))
  have HB4:Hid (Bs w17 (fun b=>gp+2≤b∧b≠gm) A4 32 head):=Lib.hid ((HO4'.out.imp (E:=fun b=>gp+2≤b∧b≠gm) fun b _ hb=>⟨by omega,by omega⟩).keep kS fun b _ hb=>hb.2)
  have HB12:Hid (Bs w17 (fun b=>gp+2≤b∧b≠gm) A12 32 hs):=Lib.hid ((HO12.out.imp (E:=fun b=>gp+2≤b∧b≠gm) fun b _ hb=>⟨by omega,by omega⟩).keep kS fun b _ hb=>hb.2)
  have HC16:=Lib.hid (And.intro (own_cap HO16.out) (own_capMax HO16.out))
  have HKR:Hid (w17.heap[gp+1]?=some (.cells #[.int .u64 0,.int .u64 0,.int .i64 0,.slice none 0 0,.slice none 0 0] 142 (0,0))∧New w w17):=Lib.hid (by
   have h1:=HQ.out _ HE16.out
   have h2:Keep (fun b=>b<rp) w2 w17:=h1.trans2 kS fun b _ hb=>by show b≠gm;omega
   exact ⟨(h2.block (gp+1) (Array.getElem?_eq_some_iff.1 HX.out.2).1 (by show gp+1<rp;omega)).trans HX.out.2,(HKA.out.trans2 h2 fun b hb _=>by have:=HG.out;omega)⟩)
  have y4:=cellOf HXM.out (k:=4) rfl
  have HSH:=Lib.hid (shaSum_any _ A16 dn c16 data w17 HB16.out (by have:=HC16.out;omega) (by have:=HDN.out;omega))
  clear xS xS' kS m4 z4 HO16 HO4' HO12
  go_wp2_with fail
  refine HSH.out.mono ?_
  rintro e w18 ⟨⟨A18,c18,rfl,o18⟩,k18⟩
  rw [← HHS.out] at o18
  have HEQ2:=Lib.hid (equal_any _ _ A18 A12 32 c18 32 c12 hs hs w18 (Row.of_own o18) (HB12.out.new k18))
  replace HXM:=Lib.hid (k18.blockAt HXM.out trivial)
  replace HB16:=Lib.hid (HB16.out.new k18)
  replace HB4:=Lib.hid (HB4.out.new k18)
  replace HKR:=Lib.hid (And.intro (k18.blockAt HKR.out.1 trivial) (HKR.out.2.new k18))
  rw [show (hs==hs)=true from by simp] at HEQ2
  clear HSH k18 o18 y4
  go_wp2_with fail
  refine HEQ2.out.mono ?_
  rintro e w19 ⟨rfl,rfl⟩
  obtain ⟨m0,m1,m2,m3,m4⟩:=cs5 HXM.out
  have d0':=cellOf HKR.out.1 (k:=0) rfl
  have d1':=cellOf HKR.out.1 (k:=1) rfl
  have d2':=cellOf HKR.out.1 (k:=2) rfl
  have d3':=cellOf HKR.out.1 (k:=3) rfl
  have d4':=cellOf HKR.out.1 (k:=4) rfl
  obtain ⟨z0,z1,z2,z3,z4⟩:=fz5 HKR.out.1
  clear HEQ2
  go_wp2_with fail
  clear d0' d1' d2' d3' d4' z0 z1 z2 z3 z4 m0 m1 m2 m3 m4
  obtain ⟨hE,hKE⟩:=five_cells HKR.out.1 (.int .u64 gen) (.int .u64 seq) (.int .i64 segs) (.slice A4 32 c4) (.slice A16 dn c16)
  generalize hwE:World.setCell _ _ _=wE at *
  have f0:wE.cell? ⟨gp+1,0,none⟩=some (.int .u64 gen):=cellOf hE rfl
  have f1:wE.cell? ⟨gp+1,1,none⟩=some (.int .u64 seq):=cellOf hE rfl
  have f2:wE.cell? ⟨gp+1,2,none⟩=some (.int .i64 segs):=cellOf hE rfl
  have f3:wE.cell? ⟨gp+1,3,none⟩=some (.slice A4 32 c4):=cellOf hE rfl
  have f4:wE.cell? ⟨gp+1,4,none⟩=some (.slice A16 dn c16):=cellOf hE rfl
  refine bodyPost_ret (v:=.tuple #[.agg #[.int .u64 gen,.int .u64 seq,.int .i64 segs,.slice A4 32 c4,.slice A16 dn c16],.int .i64 0]) (by simp [results,Tryz.results266,go_sem,f0,f1,f2,f3,f4]) rfl ?_
  refine ⟨⟨_,rfl,A4,c4,A16,c16,by rw [HDN.out],⟨(HB4.out.keep hKE fun b _ hb=>by show b≠gp+1;omega).imp fun b _ hb=>by have:=HG.out;omega,HC4.out⟩,?_⟩,HKR.out.2.trans2 hKE fun b hb _=>by show b≠gp+1;have:=HG.out;omega⟩
  dsimp only
  rw [← HDN.out]
  exact ⟨(HB16.out.keep hKE fun b _ hb=>by show b≠gp+1;omega).imp fun b _ hb=>by have:=HG.out;omega,HC16.out⟩
end Go.Proofs.YtdodbdednpnddaaGreatDoor
