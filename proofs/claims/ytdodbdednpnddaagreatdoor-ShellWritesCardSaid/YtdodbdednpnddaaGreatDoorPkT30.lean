/-
  PROVED HERE: texts that belong together, one behind the other; what each proves, and under which conditions, its own opening remark says: MPoint22, MNewest22, MBehind22, RTree22, RCopy22, Settle22, StLoad22, SnLoad22, NodeDec22, TLoad22.
-/
import Derived.Test.YtdodbdednpnddaaGreatDoorPkT19
import Derived.Test.YtdodbdednpnddaaGreatDoorPkT29
set_option maxRecDepth 100000
set_option maxHeartbeats 4000000
namespace Go.Proofs.YtdodbdednpnddaaGreatDoor
open Go.RowKit
def StRet (w:World) (c:Col) (I:Cols) (s:StateP) (e:Ending) (w':World):Prop:=∃ b B c',e=.returned (.tuple #[.pointer (some ⟨b,0,none⟩),.int .i64 0])∧New w w'∧w.heap.size≤b∧Ext w c c'∧StateAt w' c' I b B s
def LoadsSt (s:StateP):Prop:=∀ (w:World) (c:Col) (I:Cols),I.Ok→∀ (D:Nat→Prop) (A:Option Addr) (n cp:Nat),Bs w D A n (stBytes s)→n≤cp→cp≤9223372036854775807→Calls Tryz.prog 267 #[.slice A n cp] w (StRet w c I s)
def pointOf (S:List UInt8) (p i:Nat):List UInt8:=(S.drop ((1+i*p)*128)).take (p*128)
theorem mpoint_any {w:World}{q:DiskB}{S:List UInt8}{k p g i:Nat}(h:Clean w q S) (hk:S.length=k*128) (hp:planRight k p g=true) (hi:i=0∨i=1){m:MarkP}(hm:MarkOk (p:Int) (g:Int) m) (hfit:(m.data.length:Int)≤128*(p:Int)-94) (hb:pointOf S p i=pointBytes (p:Int) m)
  {s:StateP} (hs:m.data=stBytes s) (hL:LoadsSt s) (c:Col) (I:Cols) (hI:I.Ok):
  Calls Tryz.prog 199 #[.pointer (some ⟨q.bd,0,none⟩),.agg #[.int .i64 k,.int .i64 p,.int .i64 g],.int .i64 i] w fun e w'=>∃ v b B c',e=.returned (.tuple #[v,.pointer (some ⟨b,0,none⟩),.bool true])∧MarkAt w w' m v∧New w w'∧w.heap.size≤b∧Ext w c c'∧StateAt w' c' I b B s:=by
 have hpb:=planRight_bounds hp
 have HPT:=fun W=>Lib.hid (point21_any (i:=(i:Int)) hp (by omega) W)
 obtain ⟨f,hf⟩:∃ f,f=1+i*p:=⟨_,rfl⟩
 have hfi:(1:Int)+(i:Int)*(p:Int)=(f:Int):=by rw [hf];push_cast;rfl
 rw [hfi] at HPT
 have hfk:f+p≤k:=by rcases hi with rfl|rfl <;> omega
 have HB:Hid ((S.drop (f*128)).take (p*128)=pointBytes (p:Int) m):=Lib.hid (by rw [hf];exact hb)
 obtain ⟨wr0,hd⟩:=h
 have HD:=fun W (hW:New w W) (j:Nat) (hj:j<p)=>Lib.hid (dread_any (hd.new hW) hk (f+j) (by omega))
 have HDC:=Lib.hid (fun (W:World) (A:Option Addr) (n cp:Nat) (hB:Bs W (fun b=>w.heap.size≤b) A n (pointBytes (p:Int) m)) (hn:(n:Int)=128*(p:Int)) (hc:n≤cp) (hc9:cp≤9223372036854775807)=>pdecode_any hp hm hfit hB hn hc hc9)
 have HL:=Lib.hid hL
 have HS:=Lib.hid (And.intro hs hI)
 have hp5:p≤1024:=by omega
 have hkk:k≤4096:=by omega
 clear hf hfi hb hd hk hi hpb hL hs hI hm hfit hp
 have kA:=((New.refl w).alloc (.cells #[.int .i64 k,.int .i64 p,.int .i64 g] 33)).alloc (.cells #[.int .u64 0,.int .u64 0,.int .i64 0,.slice none 0 0,.slice none 0 0] 142)
 have x1:=((New.refl (w.alloc (.cells #[.int .i64 k,.int .i64 p,.int .i64 g] 33))).alloc (.cells #[.int .u64 0,.int .u64 0,.int .i64 0,.slice none 0 0,.slice none 0 0] 142)).blockAt (heap_alloc_new w (.cells #[.int .i64 k,.int .i64 p,.int .i64 g] 33)) trivial
 have x2:=heap_alloc_new (w.alloc (.cells #[.int .i64 k,.int .i64 p,.int .i64 g] 33)) (.cells #[.int .u64 0,.int .u64 0,.int .i64 0,.slice none 0 0,.slice none 0 0] 142)
 rw [show (w.alloc (.cells #[.int .i64 k,.int .i64 p,.int .i64 g] 33)).heap.size=w.heap.size+1 from by simp] at x2
 go_enter Tryz.func199,Tryz.ntmps199
 go_upto_region 1 with fail
 generalize hgp:w.heap.size=gp at *
 generalize (w.alloc (.cells #[.int .i64 k,.int .i64 p,.int .i64 g] 33)).alloc (.cells #[.int .u64 0,.int .u64 0,.int .i64 0,.slice none 0 0,.slice none 0 0] 142)=w1 at *
 have HG:=Lib.hid hgp
 obtain ⟨p0,p1,p2⟩:=cs3 x1
 have HX:=Lib.hid (And.intro x1 x2)
 have HKA:=Lib.hid kA
 clear x1 x2 kA hgp
 go_wp2_with fail
 refine (HPT _).out.mono ?_
 rintro e w2 ⟨rfl,k2⟩
 replace HX:=Lib.hid (And.intro (k2.blockAt HX.out.1 trivial) (k2.blockAt HX.out.2 trivial))
 replace HKA:=Lib.hid (HKA.out.new k2)
 clear p0 p1 p2 k2 HPT
 have p1:=cellOf HX.out.1 (k:=1) rfl
 obtain ⟨gb,hgb⟩:∃ gb,gb=w2.heap.size:=⟨_,rfl⟩
 have HGB:=Lib.hid hgb
 clear hgb
 go_wp2_with fail
 go_loopw [11,26] (fun o i wx=>∃ (j m:Nat) (A':Option Addr) (c':Nat),j≤p∧m=j*128∧o=.slice A' m c'∧i=.int .i64 (j:Int)∧OwnB wx gb 5 A' m c' ((S.drop (f*128)).take (j*128))∧New w2 wx) (fun _ i _=>p-(intOf i).toNat)
 case atStart=>exact ⟨0,0,none,0,Nat.zero_le _,rfl,rfl,rfl,Own.nil _ _ _ _,New.refl _⟩
 case round =>
  obtain ⟨j,m',A',c',hj8,hm,rfl,rfl,ho,hK⟩:=hrel
  have HOW:=Lib.hid ho
  have HK:=Lib.hid hK
  have HM:=Lib.hid hm
  clear ho hK hm
  by_cases hlt:j<p
  ·have hjl:(j:Int)<p:=by omega
   have HR:=HD wr (HKA.out.new HK.out) j hlt
   have hw:IntKind.i64.wrap ((f:Int)+(j:Int))=(f:Int)+(j:Int):=IntWalk.i64_in _ (by omega)
   have hw2:IntKind.i64.wrap ((j:Int)+1)=(j:Int)+1:=IntWalk.i64_in _ (by omega)
   clear p1
   go_wp2_with fail
   refine HR.out.mono ?_
   rintro e w3 ⟨⟨A2,c2,rfl,o2⟩,k3⟩
   have ho:=own_keep HOW.out k3 (fun _ _=>trivial)
   have hr:=Row.of_own o2
   have hb:m'+128≤140737488355328:=by have:=HM.out;omega
   have hz:gb≤w3.heap.size:=by have:=(HK.out.new k3).size;rw [← HGB.out] at this;exact this
   clear o2
   go_wp2_with (at_builtin;refine app_bytes _ rfl _ _ rfl gb A' m' c' _ rfl ho _ A2 128 c2 _ rfl hr hb hz ?_;intro A4 c4 w4 o4 hg4 hbk4)
   rw [take_sector] at o4
   go_roundw
   case rel=>exact ⟨j+1,m'+128,A4,c4,by omega,by have:=HM.out;omega,by go_num,by go_num,o4,(HK.out.new k3).grown hg4 (fun b hb _=>by have:=(own_lt ho b hb).1;rw [← HGB.out];exact this)⟩
   case measure=>simp [intOf];omega
  ·obtain rfl:j=p:=by omega
   have HBP:Hid (Bs wr (fun b=>gp≤b) A' m' (pointBytes (j:Int) m)):=Lib.hid (by
    have h1:=Row.of_own HOW.out
    rw [HB.out] at h1
    exact h1.imp fun b _ hb=>by have:=HKA.out.size;have:=HG.out;rw [HGB.out] at hb;omega)
   have HDC':=HDC.out wr A' m' c' HBP.out (by have:=HM.out;omega) (own_cap HOW.out) (own_capMax HOW.out)
   have HDC2:=Lib.hid HDC'
   have hX1:=HK.out.blockAt HX.out.1 trivial
   have hX2:=HK.out.blockAt HX.out.2 trivial
   have HX':=Lib.hid (And.intro hX1 hX2)
   have HKW:=Lib.hid (HKA.out.new HK.out)
   have hzr:gp+1<wr.heap.size:=(Array.getElem?_eq_some_iff.1 HX'.out.2).1
   obtain ⟨p0,p1,p2⟩:=cs3 HX'.out.1
   clear HD HDC' hX1 hX2 HOW HM HK
   go_wp2_with fail
   refine HDC2.out.mono ?_
   rintro e w5 ⟨⟨v,rfl,H,hc,B,dc,rfl,⟨hb1,hb2,hb3⟩,hb4,hb5,hb6⟩,k5⟩
   have HMK:=Lib.hid (And.intro (And.intro hb1 (And.intro hb2 hb3)) (And.intro hb4 (And.intro hb5 hb6)))
   replace HX':=Lib.hid (k5.blockAt HX'.out.2 trivial)
   replace HKW:=Lib.hid (HKW.out.new k5)
   clear p0 p1 p2 HDC2 k5 hb1 hb2 hb3 hb4 hb5 hb6
   obtain ⟨dn,hdn⟩:∃ dn,dn=m.data.length:=⟨_,rfl⟩
   rw [← hdn] at HMK ⊢
   have HDN:=Lib.hid hdn
   clear hdn
   go_upto_region 10 with fail
   have kM:=(New.refl w5).alloc (.cells #[.int .u64 m.gen,.int .u64 m.seq,.int .i64 m.segs,.slice H 32 hc,.slice B dn dc] 142)
   have xM:=heap_alloc_new w5 (.cells #[.int .u64 m.gen,.int .u64 m.seq,.int .i64 m.segs,.slice H 32 hc,.slice B dn dc] 142)
   generalize w5.alloc (.cells #[.int .u64 m.gen,.int .u64 m.seq,.int .i64 m.segs,.slice H 32 hc,.slice B dn dc] 142)=w6 at *
   generalize hgm:w5.heap.size=gm at *
   replace HX':=Lib.hid (kM.blockAt HX'.out trivial)
   replace HKW:=Lib.hid (HKW.out.new kM)
   replace HMK:=Lib.hid (And.intro (And.intro (HMK.out.1.1.new kM) HMK.out.1.2) (And.intro (HMK.out.2.1.new kM) HMK.out.2.2))
   have HXM:=Lib.hid xM
   have hgl6:gp+1<w6.heap.size:=(Array.getElem?_eq_some_iff.1 HX'.out).1
   have y4:=cellOf xM (k:=4) rfl
   have HLD:=Lib.hid (HL.out w6 (c.on w.heap.size fun _=>I.t+I.s+I.o+1) I HS.out.2 _ B dn dc (by rw [← HS.out.1];exact HMK.out.2.1) HMK.out.2.2.1 HMK.out.2.2.2)
   clear kM xM
   go_wp2_with fail
   refine HLD.out.mono ?_
   rintro e w7 ⟨bs,Bs,c',rfl,k7,hz7,hx7,st7⟩
   have HST:=Lib.hid st7
   replace HX':=Lib.hid (k7.blockAt HX'.out trivial)
   have hsz6:=HKW.out.size
   replace HKW:=Lib.hid (HKW.out.new k7)
   replace HMK:=Lib.hid (And.intro (And.intro (HMK.out.1.1.new k7) HMK.out.1.2) (And.intro (HMK.out.2.1.new k7) HMK.out.2.2))
   replace HXM:=Lib.hid (k7.blockAt HXM.out trivial)
   have HX7:=Lib.hid (And.intro hz7 hx7)
   have hgl:gp+1<w7.heap.size:=(Array.getElem?_eq_some_iff.1 HX'.out).1
   obtain ⟨m0,m1,m2,m3,m4⟩:=cs5 HXM.out
   have d0':=cellOf HX'.out (k:=0) rfl
   have d1':=cellOf HX'.out (k:=1) rfl
   have d2':=cellOf HX'.out (k:=2) rfl
   have d3':=cellOf HX'.out (k:=3) rfl
   have d4':=cellOf HX'.out (k:=4) rfl
   obtain ⟨z0,z1,z2,z3,z4⟩:=fz5 HX'.out
   clear y4 HLD k7 st7 hz7 hx7
   go_wp2_with fail
   clear d0' d1' d2' d3' d4' z0 z1 z2 z3 z4 m0 m1 m2 m3 m4
   obtain ⟨hE,hKE⟩:=five_cells HX'.out (.int .u64 m.gen) (.int .u64 m.seq) (.int .i64 m.segs) (.slice H 32 hc) (.slice B dn dc)
   generalize hwE:World.setCell _ _ _=wE at *
   have f0:wE.cell? ⟨gp+1,0,none⟩=some (.int .u64 m.gen):=cellOf hE rfl
   have f1:wE.cell? ⟨gp+1,1,none⟩=some (.int .u64 m.seq):=cellOf hE rfl
   have f2:wE.cell? ⟨gp+1,2,none⟩=some (.int .i64 m.segs):=cellOf hE rfl
   have f3:wE.cell? ⟨gp+1,3,none⟩=some (.slice H 32 hc):=cellOf hE rfl
   have f4:wE.cell? ⟨gp+1,4,none⟩=some (.slice B dn dc):=cellOf hE rfl
   refine bodyPost_ret (v:=.tuple #[.agg #[.int .u64 m.gen,.int .u64 m.seq,.int .i64 m.segs,.slice H 32 hc,.slice B dn dc],.pointer (some ⟨bs,0,none⟩),.bool true]) (by simp [results,Tryz.results199,go_sem,f0,f1,f2,f3,f4]) rfl ?_
   have hcg:c' (gp+1)=I.t+I.s+I.o+1:=(HX7.out.2 (gp+1) (by have:=HX7.out.1;have:=hgl6;omega)).trans (Col.on_new _ _ (by have:=HG.out;omega))
   have hF:∀ b,b<w7.heap.size→I.has (c' b)∨c' b=0→b≠gp+1:=fun b _ hb e=>by
    rw [e,hcg] at hb
    rcases hb with hb|hb
    ·unfold Cols.has at hb;omega
    ·omega
   refine ⟨_,bs,Bs,c',rfl,⟨H,hc,B,dc,by rw [HDN.out],⟨(HMK.out.1.1.keep hKE fun b _ hb=>by show b≠gp+1;omega).imp fun b _ hb=>by have:=HG.out;omega,HMK.out.1.2⟩,?_⟩,HKW.out.trans2 hKE fun b hb _=>by show b≠gp+1;have:=HG.out;omega,by have:=HX7.out.1;omega,(Col.on_ext c w _).trans HX7.out.2 hsz6,HST.out.keep hKE (Ext.refl _ _) hF⟩
   rw [← HDN.out]
   exact ⟨(HMK.out.2.1.keep hKE fun b _ hb=>by show b≠gp+1;omega).imp fun b _ hb=>by have:=HG.out;omega,HMK.out.2.2⟩
theorem newer_any (a0 a1 a2 b0 b1 b2 r:Int) (H B H2 B2:Option Addr) (n hc dn dc n2 hc2 dn2 dc2:Nat) (w:World) (hr:(b0≤a0∧r=0)∨(¬ b0≤a0∧r=1)):
  Calls Tryz.prog 222 #[.agg #[.int .u64 a0,.int .u64 a1,.int .i64 a2,.slice H n hc,.slice B dn dc],.agg #[.int .u64 b0,.int .u64 b1,.int .i64 b2,.slice H2 n2 hc2,.slice B2 dn2 dc2],.bool true,.bool true] w fun e w'=>e=.returned (.tuple #[.int .i64 r,.bool true])∧New w w':=by
 have kA:=((New.refl w).alloc (.cells #[.int .u64 a0,.int .u64 a1,.int .i64 a2,.slice H n hc,.slice B dn dc] 142)).alloc (.cells #[.int .u64 b0,.int .u64 b1,.int .i64 b2,.slice H2 n2 hc2,.slice B2 dn2 dc2] 142)
 have x1:=((New.refl (w.alloc (.cells #[.int .u64 a0,.int .u64 a1,.int .i64 a2,.slice H n hc,.slice B dn dc] 142))).alloc (.cells #[.int .u64 b0,.int .u64 b1,.int .i64 b2,.slice H2 n2 hc2,.slice B2 dn2 dc2] 142)).blockAt (heap_alloc_new w (.cells #[.int .u64 a0,.int .u64 a1,.int .i64 a2,.slice H n hc,.slice B dn dc] 142)) trivial
 have x2:=heap_alloc_new (w.alloc (.cells #[.int .u64 a0,.int .u64 a1,.int .i64 a2,.slice H n hc,.slice B dn dc] 142)) (.cells #[.int .u64 b0,.int .u64 b1,.int .i64 b2,.slice H2 n2 hc2,.slice B2 dn2 dc2] 142)
 rw [show (w.alloc (.cells #[.int .u64 a0,.int .u64 a1,.int .i64 a2,.slice H n hc,.slice B dn dc] 142)).heap.size=w.heap.size+1 from by simp] at x2
 have q1:=cellOf x1 (k:=0) rfl
 have q2:=cellOf x2 (k:=0) rfl
 have HK:=Lib.hid kA
 clear kA x1 x2
 rcases hr with ⟨h,rfl⟩|⟨h,rfl⟩
 ·have hd:decide (b0≤a0)=true:=decide_eq_true h
  clear h
  go_enter Tryz.func222,Tryz.ntmps222
  go_upto_region 1 with fail
  generalize (w.alloc _).alloc _=w1 at *
  go_wp2_with fail
  refine bodyPost_ret (v:=.tuple #[.int .i64 0,.bool true]) (by simp [results,Tryz.results222,go_sem]) rfl ?_
  exact ⟨rfl,HK.out⟩
 ·have hd:decide (b0≤a0)=false:=decide_eq_false h
  clear h
  go_enter Tryz.func222,Tryz.ntmps222
  go_upto_region 1 with fail
  generalize (w.alloc _).alloc _=w1 at *
  go_wp2_with fail
  refine bodyPost_ret (v:=.tuple #[.int .i64 1,.bool true]) (by simp [results,Tryz.results222,go_sem]) rfl ?_
  exact ⟨rfl,HK.out⟩
structure PointOk (S:List UInt8) (p g i:Nat) (m:MarkP) (s:StateP):Prop where
 ok:MarkOk (p:Int) (g:Int) m
 fit:(m.data.length:Int)≤128*(p:Int)-94
 laid:pointOf S p i=pointBytes (p:Int) m
 data:m.data=stBytes s
 loads:LoadsSt s
def NewestRet (w:World) (c:Col) (I:Cols) (m:MarkP) (s:StateP) (e:Ending) (w':World):Prop:=∃ v b B c',e=.returned (.tuple #[v,.pointer (some ⟨b,0,none⟩),.bool true])∧MarkAt w w' m v∧New w w'∧w.heap.size≤b∧Ext w c c'∧StateAt w' c' I b B s
theorem mnewest_any {w:World}{q:DiskB}{S:List UInt8}{k p g:Nat}(h:Clean w q S) (hk:S.length=k*128) (hp:planRight k p g=true){m0 m1:MarkP}{s0 s1:StateP}(h0:PointOk S p g 0 m0 s0) (h1:PointOk S p g 1 m1 s1) (c:Col) (I:Cols) (hI:I.Ok){m:MarkP}{s:StateP}(hpick:(m1.gen≤m0.gen∧m=m0∧s=s0)∨(¬ m1.gen≤m0.gen∧m=m1∧s=s1)):
  Calls Tryz.prog 160 #[.pointer (some ⟨q.bd,0,none⟩),.agg #[.int .i64 k,.int .i64 p,.int .i64 g]] w (NewestRet w c I m s):=by
 replace hpick:=Lib.hid hpick
 have HP0:=Lib.hid (fun W (hW:New w W) (c:Col)=>mpoint_any (i:=0) (h.new hW) hk hp (.inl rfl) h0.ok h0.fit h0.laid h0.data h0.loads c I hI)
 have HP1:=Lib.hid (fun W (hW:New w W) (c:Col)=>mpoint_any (i:=1) (h.new hW) hk hp (.inr rfl) h1.ok h1.fit h1.laid h1.data h1.loads c I hI)
 clear h0 h1 hI h hk hp
 have kA:=((New.refl w).alloc (.cells #[.int .i64 k,.int .i64 p,.int .i64 g] 33)).alloc (.cells #[.int .u64 0,.int .u64 0,.int .i64 0,.slice none 0 0,.slice none 0 0] 142)
 have x1:=((New.refl (w.alloc (.cells #[.int .i64 k,.int .i64 p,.int .i64 g] 33))).alloc (.cells #[.int .u64 0,.int .u64 0,.int .i64 0,.slice none 0 0,.slice none 0 0] 142)).blockAt (heap_alloc_new w (.cells #[.int .i64 k,.int .i64 p,.int .i64 g] 33)) trivial
 have x2:=heap_alloc_new (w.alloc (.cells #[.int .i64 k,.int .i64 p,.int .i64 g] 33)) (.cells #[.int .u64 0,.int .u64 0,.int .i64 0,.slice none 0 0,.slice none 0 0] 142)
 rw [show (w.alloc (.cells #[.int .i64 k,.int .i64 p,.int .i64 g] 33)).heap.size=w.heap.size+1 from by simp] at x2
 go_enter Tryz.func160,Tryz.ntmps160
 go_upto_region 1 with fail
 obtain ⟨gp,hgp⟩:∃ gp,gp=w.heap.size:=⟨_,rfl⟩
 rw [← hgp] at x1 x2 ⊢
 generalize (w.alloc (.cells #[.int .i64 k,.int .i64 p,.int .i64 g] 33)).alloc (.cells #[.int .u64 0,.int .u64 0,.int .i64 0,.slice none 0 0,.slice none 0 0] 142)=w1 at *
 have HG:=Lib.hid hgp
 obtain ⟨p0,p1,p2⟩:=cs3 x1
 have HX:=Lib.hid (And.intro x1 x2)
 have HKA:=Lib.hid kA
 have hgl1:gp+1<w1.heap.size:=(Array.getElem?_eq_some_iff.1 x2).1
 clear x1 x2 kA hgp
 have HPT:=Lib.hid (HP0.out w1 HKA.out (c.on w.heap.size fun _=>I.t+I.s+I.o+1))
 rw [show (((0:Nat):Int))=0 from rfl] at HPT
 go_wp2_with fail
 refine HPT.out.mono ?_
 rintro e w2 ⟨v0,b0,B0,c0,rfl,mk0,k2,z2,e2,st2⟩
 obtain ⟨H0,hc0,D0,dc0,rfl,r1,r2⟩:=mk0
 obtain ⟨dn0,hdn0⟩:∃ dn,dn=m0.data.length:=⟨_,rfl⟩
 rw [← hdn0] at r2 ⊢
 have HDN0:=Lib.hid hdn0
 have HMK0:=Lib.hid (And.intro r1 r2)
 have HST0:=Lib.hid st2
 have HE2:=Lib.hid (And.intro z2 e2)
 have HK2:=Lib.hid k2
 clear hdn0 r1 r2 st2 z2 e2 k2 HPT p0 p1 p2
 go_upto_region 2 with fail
 have kM:=(New.refl w2).alloc (.cells #[.int .u64 m0.gen,.int .u64 m0.seq,.int .i64 m0.segs,.slice H0 32 hc0,.slice D0 dn0 dc0] 142)
 have xM:=heap_alloc_new w2 (.cells #[.int .u64 m0.gen,.int .u64 m0.seq,.int .i64 m0.segs,.slice H0 32 hc0,.slice D0 dn0 dc0] 142)
 generalize w2.alloc (.cells #[.int .u64 m0.gen,.int .u64 m0.seq,.int .i64 m0.segs,.slice H0 32 hc0,.slice D0 dn0 dc0] 142)=w3 at *
 generalize hga:w2.heap.size=ga at *
 have HGA:=Lib.hid (show gp+1<ga by have:=HK2.out.size;omega)
 have HXA:=Lib.hid xM
 replace HX:=Lib.hid (And.intro (kM.blockAt (HK2.out.blockAt HX.out.1 trivial) trivial) (kM.blockAt (HK2.out.blockAt HX.out.2 trivial) trivial))
 have HK3:=Lib.hid (HK2.out.new kM)
 have HKM:=Lib.hid kM
 clear kM xM HK2 hga
 obtain ⟨p0,p1,p2⟩:=cs3 HX.out.1
 have HPT:=Lib.hid (HP1.out w3 (HKA.out.new HK3.out) c0)
 rw [show (((1:Nat):Int))=1 from rfl] at HPT
 go_wp2_with fail
 refine HPT.out.mono ?_
 rintro e w4 ⟨v1,b1,B1,c1,rfl,mk1,k4,z4,e4,st4⟩
 obtain ⟨H1,hc1,D1,dc1,rfl,r1,r2⟩:=mk1
 obtain ⟨dn1,hdn1⟩:∃ dn,dn=m1.data.length:=⟨_,rfl⟩
 rw [← hdn1] at r2 ⊢
 have HDN1:=Lib.hid hdn1
 have HMK1:=Lib.hid (And.intro r1 r2)
 have HST1:=Lib.hid st4
 have HE4:=Lib.hid (And.intro z4 e4)
 have HK4:=Lib.hid k4
 clear hdn1 r1 r2 st4 z4 e4 k4 HPT p0 p1 p2
 go_upto_region 3 with fail
 have kM:=(New.refl w4).alloc (.cells #[.int .u64 m1.gen,.int .u64 m1.seq,.int .i64 m1.segs,.slice H1 32 hc1,.slice D1 dn1 dc1] 142)
 have xM:=heap_alloc_new w4 (.cells #[.int .u64 m1.gen,.int .u64 m1.seq,.int .i64 m1.segs,.slice H1 32 hc1,.slice D1 dn1 dc1] 142)
 generalize w4.alloc (.cells #[.int .u64 m1.gen,.int .u64 m1.seq,.int .i64 m1.segs,.slice H1 32 hc1,.slice D1 dn1 dc1] 142)=w5 at *
 generalize hgb:w4.heap.size=gb at *
 have HXB:=Lib.hid xM
 replace HX:=Lib.hid (kM.blockAt (HK4.out.blockAt HX.out.2 trivial) trivial)
 have HK5:=Lib.hid (HK4.out.new kM)
 replace HXA:=Lib.hid (HK5.out.blockAt HXA.out trivial)
 have HKM5:=Lib.hid kM
 clear kM xM HK4 hgb
 obtain ⟨a0,a1,a2,a3,a4⟩:=cs5 HXA.out
 obtain ⟨y0,y1,y2,y3,y4⟩:=cs5 HXB.out
 have hgw:gp+1<w3.heap.size:=by have:=HK3.out.size;omega
 replace HMK1:=Lib.hid (And.intro (And.intro (HMK1.out.1.1.new HKM5.out) HMK1.out.1.2) (And.intro (HMK1.out.2.1.new HKM5.out) HMK1.out.2.2))
 replace HST1:=Lib.hid (HST1.out.new HKM5.out)
 replace HMK0:=Lib.hid (And.intro (And.intro (HMK0.out.1.1.new (HKM.out.new HK5.out)) HMK0.out.1.2) (And.intro (HMK0.out.2.1.new (HKM.out.new HK5.out)) HMK0.out.2.2))
 have HSTA:Hid (StateAt w5 c1 I b0 B0 s0):=Lib.hid (by
  have h1:StateAt w3 c0 I b0 B0 s0:=HST0.out.new HKM.out
  exact h1.keep HK5.out HE4.out.2 fun _ _ _=>trivial)
 have hd0':=hpick.out
 have HNW:=Lib.hid (fun r hr=>newer_any m0.gen m0.seq m0.segs m1.gen m1.seq m1.segs r H0 D0 H1 D1 32 hc0 dn0 dc0 32 hc1 dn1 dc1 w5 hr)
 clear HST0 HP0 HP1
 rcases hd0' with ⟨hle,rfl,rfl⟩|⟨hle,rfl,rfl⟩
 ·have HN:=Lib.hid (HNW.out _ (.inl ⟨hle,rfl⟩))
  clear HNW hle
  go_wp2_with fail
  refine HN.out.mono ?_
  rintro e w6 ⟨rfl,k6⟩
  have HK6:=Lib.hid k6
  have HX':=Lib.hid (k6.blockAt HX.out trivial)
  replace HXA:=Lib.hid (k6.blockAt HXA.out trivial)
  replace HXB:=Lib.hid (k6.blockAt HXB.out trivial)
  clear k6 HN a0 a1 a2 a3 a4 y0 y1 y2 y3 y4
  obtain ⟨a0,a1,a2,a3,a4⟩:=cs5 HXA.out
  obtain ⟨y0,y1,y2,y3,y4⟩:=cs5 HXB.out
  have d0':=cellOf HX'.out (k:=0) rfl
  have d1':=cellOf HX'.out (k:=1) rfl
  have d2':=cellOf HX'.out (k:=2) rfl
  have d3':=cellOf HX'.out (k:=3) rfl
  have d4':=cellOf HX'.out (k:=4) rfl
  obtain ⟨z0,z1,z2,z3,z4⟩:=fz5 HX'.out
  go_wp2_with fail
  clear d0' d1' d2' d3' d4' z0 z1 z2 z3 z4 a0 a1 a2 a3 a4 y0 y1 y2 y3 y4
  obtain ⟨hE,hKE⟩:=five_cells HX'.out (.int .u64 m.gen) (.int .u64 m.seq) (.int .i64 m.segs) (.slice H0 32 hc0) (.slice D0 dn0 dc0)
  generalize hwE:World.setCell _ _ _=wE at *
  have f0:wE.cell? ⟨gp+1,0,none⟩=some (.int .u64 m.gen):=cellOf hE rfl
  have f1:wE.cell? ⟨gp+1,1,none⟩=some (.int .u64 m.seq):=cellOf hE rfl
  have f2:wE.cell? ⟨gp+1,2,none⟩=some (.int .i64 m.segs):=cellOf hE rfl
  have f3:wE.cell? ⟨gp+1,3,none⟩=some (.slice H0 32 hc0):=cellOf hE rfl
  have f4:wE.cell? ⟨gp+1,4,none⟩=some (.slice D0 dn0 dc0):=cellOf hE rfl
  refine bodyPost_ret (v:=.tuple #[.agg #[.int .u64 m.gen,.int .u64 m.seq,.int .i64 m.segs,.slice H0 32 hc0,.slice D0 dn0 dc0],.pointer (some ⟨b0,0,none⟩),.bool true]) (by simp [results,Tryz.results160,go_sem,f0,f1,f2,f3,f4]) rfl ?_
  have HW:=(HKA.out.new HK3.out).new (HK5.out.new HK6.out)
  have hz6:=HK6.out.size
  have hz5:=HK5.out.size
  have hz4:=HKM5.out.size
  have hzm:=HKM.out.size
  have hz3:=HK3.out.size
  have hcA:c0 (gp+1)=I.t+I.s+I.o+1:=(HE2.out.2 (gp+1) (by omega)).trans (Col.on_new _ _ (by have:=HG.out;omega))
  have hcB:c1 (gp+1)=I.t+I.s+I.o+1:=(HE4.out.2 (gp+1) (by have:=HGA.out;omega)).trans hcA
  have hF:∀ b,b<w6.heap.size→I.has (c1 b)∨c1 b=0→b≠gp+1:=fun b _ hb e=>by
   rw [e,hcB] at hb
   rcases hb with hb|hb
   ·unfold Cols.has at hb;omega
   ·omega
  have hEx:Ext w c c1:=((Col.on_ext c w _).trans HE2.out.2 (HKA.out.size)).trans HE4.out.2 (Nat.le_trans HKA.out.size HK3.out.size)
  refine ⟨_,b0,B0,c1,rfl,⟨H0,hc0,D0,dc0,by rw [HDN0.out],?_,?_⟩,HW.trans2 hKE fun b hb _=>by show b≠gp+1;have:=HG.out;omega,?_,hEx,?_⟩
  ·exact ⟨((HMK0.out.1.1.new HK6.out).keep hKE fun b _ hb=>by show b≠gp+1;omega).imp fun b _ hb=>by have:=HG.out;omega,HMK0.out.1.2⟩
  ·rw [← HDN0.out]
   exact ⟨((HMK0.out.2.1.new HK6.out).keep hKE fun b _ hb=>by show b≠gp+1;omega).imp fun b _ hb=>by have:=HG.out;omega,HMK0.out.2.2⟩
  ·have:=HE2.out.1
   have:=HG.out
   omega
  ·exact (HSTA.out.new HK6.out).keep hKE (Ext.refl _ _) hF
 ·have HN:=Lib.hid (HNW.out _ (.inr ⟨by omega,rfl⟩))
  clear HNW hle
  go_wp2_with fail
  refine HN.out.mono ?_
  rintro e w6 ⟨rfl,k6⟩
  have HK6:=Lib.hid k6
  have HX':=Lib.hid (k6.blockAt HX.out trivial)
  replace HXA:=Lib.hid (k6.blockAt HXA.out trivial)
  replace HXB:=Lib.hid (k6.blockAt HXB.out trivial)
  clear k6 HN a0 a1 a2 a3 a4 y0 y1 y2 y3 y4
  obtain ⟨a0,a1,a2,a3,a4⟩:=cs5 HXA.out
  obtain ⟨y0,y1,y2,y3,y4⟩:=cs5 HXB.out
  have d0':=cellOf HX'.out (k:=0) rfl
  have d1':=cellOf HX'.out (k:=1) rfl
  have d2':=cellOf HX'.out (k:=2) rfl
  have d3':=cellOf HX'.out (k:=3) rfl
  have d4':=cellOf HX'.out (k:=4) rfl
  obtain ⟨z0,z1,z2,z3,z4⟩:=fz5 HX'.out
  go_wp2_with fail
  clear d0' d1' d2' d3' d4' z0 z1 z2 z3 z4 a0 a1 a2 a3 a4 y0 y1 y2 y3 y4
  obtain ⟨hE,hKE⟩:=five_cells HX'.out (.int .u64 m.gen) (.int .u64 m.seq) (.int .i64 m.segs) (.slice H1 32 hc1) (.slice D1 dn1 dc1)
  generalize hwE:World.setCell _ _ _=wE at *
  have f0:wE.cell? ⟨gp+1,0,none⟩=some (.int .u64 m.gen):=cellOf hE rfl
  have f1:wE.cell? ⟨gp+1,1,none⟩=some (.int .u64 m.seq):=cellOf hE rfl
  have f2:wE.cell? ⟨gp+1,2,none⟩=some (.int .i64 m.segs):=cellOf hE rfl
  have f3:wE.cell? ⟨gp+1,3,none⟩=some (.slice H1 32 hc1):=cellOf hE rfl
  have f4:wE.cell? ⟨gp+1,4,none⟩=some (.slice D1 dn1 dc1):=cellOf hE rfl
  refine bodyPost_ret (v:=.tuple #[.agg #[.int .u64 m.gen,.int .u64 m.seq,.int .i64 m.segs,.slice H1 32 hc1,.slice D1 dn1 dc1],.pointer (some ⟨b1,0,none⟩),.bool true]) (by simp [results,Tryz.results160,go_sem,f0,f1,f2,f3,f4]) rfl ?_
  have HW:=(HKA.out.new HK3.out).new (HK5.out.new HK6.out)
  have hz6:=HK6.out.size
  have hz5:=HK5.out.size
  have hz4:=HKM5.out.size
  have hzm:=HKM.out.size
  have hz3:=HK3.out.size
  have hcA:c0 (gp+1)=I.t+I.s+I.o+1:=(HE2.out.2 (gp+1) (by omega)).trans (Col.on_new _ _ (by have:=HG.out;omega))
  have hcB:c1 (gp+1)=I.t+I.s+I.o+1:=(HE4.out.2 (gp+1) (by have:=HGA.out;omega)).trans hcA
  have hF:∀ b,b<w6.heap.size→I.has (c1 b)∨c1 b=0→b≠gp+1:=fun b _ hb e=>by
   rw [e,hcB] at hb
   rcases hb with hb|hb
   ·unfold Cols.has at hb;omega
   ·omega
  have hEx:Ext w c c1:=((Col.on_ext c w _).trans HE2.out.2 (HKA.out.size)).trans HE4.out.2 (Nat.le_trans HKA.out.size HK3.out.size)
  refine ⟨_,b1,B1,c1,rfl,⟨H1,hc1,D1,dc1,by rw [HDN1.out],?_,?_⟩,HW.trans2 hKE fun b hb _=>by show b≠gp+1;have:=HG.out;omega,?_,hEx,?_⟩
  ·exact ⟨((HMK1.out.1.1.new HK6.out).keep hKE fun b _ hb=>by show b≠gp+1;omega).imp fun b _ hb=>by have:=HG.out;omega,HMK1.out.1.2⟩
  ·rw [← HDN1.out]
   exact ⟨((HMK1.out.2.1.new HK6.out).keep hKE fun b _ hb=>by show b≠gp+1;omega).imp fun b _ hb=>by have:=HG.out;omega,HMK1.out.2.2⟩
  ·have:=HE4.out.1
   have:=HG.out
   omega
  ·exact (HST1.out.new HK6.out).keep hKE (Ext.refl _ _) hF
def readAt (S:List UInt8) (p i:Nat):Prop:=(segRead (placeOf S p i)).2.2=0∧(segRead (placeOf S p i)).1.index=(i:Int)
theorem mbehind_any {w:World}{q:DiskB}{S:List UInt8}{k p g fr:Nat}(h:Clean w q S) (hk:S.length=k*128) (hp:planRight k p g=true) (_hf:fr≤1000){b:Bool}(hb:b=true↔∃ i,fr≤i∧i<g∧readAt S p i):
  Calls Tryz.prog 162 #[.pointer (some ⟨q.bd,0,none⟩),.agg #[.int .i64 k,.int .i64 p,.int .i64 g],.int .i64 fr] w fun e w'=>e=.returned (.bool b)∧New w w':=by
 have hpb:=planRight_bounds hp
 have HPL:=fun W (hW:New w W) (i:Nat) (hi:i<g)=>Lib.hid (place_any (h.new hW) hk hp hi)
 have HB:=Lib.hid hb
 have hg:g≤512:=by omega
 clear h hk hp hpb hb
 have kA:=(New.refl w).alloc (.cells #[.int .i64 k,.int .i64 p,.int .i64 g] 33)
 have x1:=heap_alloc_new w (.cells #[.int .i64 k,.int .i64 p,.int .i64 g] 33)
 go_enter Tryz.func162,Tryz.ntmps162
 go_upto_region 1 with fail
 generalize w.alloc (.cells #[.int .i64 k,.int .i64 p,.int .i64 g] 33)=w1 at *
 generalize hgp:w.heap.size=gp at *
 have HX:=Lib.hid x1
 have HK1:=Lib.hid kA
 clear x1 kA hgp
 go_wp2_with fail
 go_loopw [7] (fun s7 wx=>∃ j:Nat,s7=.int .i64 (j:Int)∧fr≤j∧(j≤g∨j=fr)∧(∀ i,fr≤i→i<j→¬ readAt S p i)∧New w1 wx) (fun s7 _=>g-(intOf s7).toNat)
 case atStart=>exact ⟨fr,rfl,Nat.le_refl _,.inr rfl,fun i h1 h2=>by omega,New.refl _⟩
 case round =>
  obtain ⟨j,rfl,hj0,hj1,hno,hK⟩:=hrel
  have HNO:=Lib.hid hno
  have HK:=Lib.hid hK
  have HX':=Lib.hid (hK.blockAt HX.out trivial)
  clear hno hK
  obtain ⟨p0,p1,p2⟩:=cs3 HX'.out
  by_cases hlt:j<g
  ·have hjl:(j:Int)<g:=by omega
   have hw2:IntKind.i64.wrap ((j:Int)+1)=(j:Int)+1:=IntWalk.i64_in _ (by omega)
   have HP:=HPL wr (HK1.out.new HK.out) j hlt
   go_wp2_with fail
   refine HP.out.mono ?_
   rintro e w2 ⟨⟨A2,c2,rfl,o2⟩,k2⟩
   obtain ⟨d,hd⟩:∃ d,d=segRead (placeOf S p j):=⟨_,rfl⟩
   have HR:=Lib.hid (read_any _ A2 1024 c2 _ w2 (Row.of_own o2) (own_cap o2) (own_capMax o2))
   rw [← hd] at HR
   have HD:=Lib.hid hd
   have HK2:=Lib.hid (HK.out.new k2)
   clear hd k2 o2 HP p0 p1 p2
   go_wp2_with fail
   refine HR.out.mono ?_
   rintro e w3 ⟨⟨A3,c3,A4,c4,A5,c5,rfl,-,-,-,-,-⟩,k3⟩
   have HK3:=Lib.hid (HK2.out.new k3)
   have HOK:Hid (readAt S p j↔(d.2.2=0∧d.1.index=(j:Int))):=Lib.hid (by unfold readAt;rw [← HD.out])
   obtain ⟨hd,rs,why⟩:=d
   obtain ⟨ix,fi,cn,by',pv,rt⟩:=hd
   dsimp only at *
   clear k3 HR HD
   have hsA:=HK3.out.size
   by_cases hw:why=0
   ·subst hw
    by_cases hix:ix=(j:Int)
    ·subst hix
     have hbt:Hid (b=true):=Lib.hid (HB.out.2 ⟨j,hj0,hlt,HOK.out.2 ⟨rfl,rfl⟩⟩)
     go_upto_region 5 with fail
     have kB:=(New.refl w3).alloc (.cells #[.int .i64 (j:Int),.int .u64 fi,.int .i64 cn,.int .i64 by',.slice A3 pv.length c3,.slice A4 rt.length c4] 264)
     have xB:=cellOf (heap_alloc_new w3 (.cells #[.int .i64 (j:Int),.int .u64 fi,.int .i64 cn,.int .i64 by',.slice A3 pv.length c3,.slice A4 rt.length c4] 264)) (k:=0) rfl
     generalize w3.alloc (.cells #[.int .i64 (j:Int),.int .u64 fi,.int .i64 cn,.int .i64 by',.slice A3 pv.length c3,.slice A4 rt.length c4] 264)=w4 at *
     have HKB:=Lib.hid kB
     clear kB
     go_wp2_with fail
     go_ret
     exact ⟨by rw [hbt.out];rfl,HK1.out.new (HK3.out.new HKB.out)⟩
    ·have hne:(ix==(j:Int))=false:=by simpa using hix
     have HNX:Hid (∀ i,fr≤i→i<j+1→¬ readAt S p i):=Lib.hid fun i h1 h2 hr=>by
      by_cases e:i=j
      ·subst e;exact hix (HOK.out.1 hr).2
      ·exact HNO.out i h1 (by omega) hr
     go_upto_region 5 with fail
     have kB:=(New.refl w3).alloc (.cells #[.int .i64 ix,.int .u64 fi,.int .i64 cn,.int .i64 by',.slice A3 pv.length c3,.slice A4 rt.length c4] 264)
     have xB:=cellOf (heap_alloc_new w3 (.cells #[.int .i64 ix,.int .u64 fi,.int .i64 cn,.int .i64 by',.slice A3 pv.length c3,.slice A4 rt.length c4] 264)) (k:=0) rfl
     generalize w3.alloc (.cells #[.int .i64 ix,.int .u64 fi,.int .i64 cn,.int .i64 by',.slice A3 pv.length c3,.slice A4 rt.length c4] 264)=w4 at *
     have HKB:=Lib.hid kB
     clear kB hix
     go_wp2_with fail
     go_roundw
     case rel=>exact ⟨j+1,by go_num,by omega,.inl (by omega),HNX.out,HK3.out.new HKB.out⟩
     case measure=>simp [intOf];omega
   ·have hne:(why==0)=false:=by simpa using hw
    have HNX:Hid (∀ i,fr≤i→i<j+1→¬ readAt S p i):=Lib.hid fun i h1 h2 hr=>by
     by_cases e:i=j
     ·subst e;exact hw (HOK.out.1 hr).1
     ·exact HNO.out i h1 (by omega) hr
    go_upto_region 5 with fail
    have kB:=(New.refl w3).alloc (.cells #[.int .i64 ix,.int .u64 fi,.int .i64 cn,.int .i64 by',.slice A3 pv.length c3,.slice A4 rt.length c4] 264)
    generalize w3.alloc (.cells #[.int .i64 ix,.int .u64 fi,.int .i64 cn,.int .i64 by',.slice A3 pv.length c3,.slice A4 rt.length c4] 264)=w4 at *
    have HKB:=Lib.hid kB
    clear kB hw
    go_wp2_with fail
    go_roundw
    case rel=>exact ⟨j+1,by go_num,by omega,.inl (by omega),HNX.out,HK3.out.new HKB.out⟩
    case measure=>simp [intOf];omega
  ·have hjl:¬ (j:Int)<g:=by omega
   have hbf:Hid (b=false):=Lib.hid (by
    cases e:b with
    | false=>rfl
    | true =>
     obtain ⟨i,h1,h2,h3⟩:=HB.out.1 e
     exact absurd h3 (HNO.out i h1 (by omega)))
   go_wp2_with fail
   go_ret
   exact ⟨by rw [hbf.out];rfl,HK1.out.new HK.out⟩
structure RTreeP where
 nodes:List (Int×NodeP)
 data:List (List UInt8)
 e:List (Int×List UInt8×Int)
structure RSnapP where
 id:Int
 hash:List UInt8
 T:RTreeP
structure RSnapsP where
 list:List RSnapP
 next:Int
 last:List UInt8
structure RFdP where
 how:Int
 id:Int
 data:List UInt8
structure RStateP where
 T:RTreeP
 S:RSnapsP
 clock:Int
 fd:Nat→RFdP
section
variable {w w':World}{c c':Col}{i bt bs b:Nat}{R:RTreeP}{ns:RSnapsP}{s:RStateP}{F:Nat→Prop}{I:Cols}
end
theorem parts2 {P:Program}{e:TypeId}{size bytes:Nat}(h:(P.info? e).map (fun i=>(i.zero.map fun z=>z.cells.size,i.size,i.bytes))=some (some size,size,bytes)):∃ i z,P.info? e=some i∧i.zero=some z∧i.size=size∧i.bytes=bytes∧z.cells.size=size:=by
 cases hi:P.info? e with
 | none=>rw [hi] at h;cases h
 | some i =>
  rw [hi] at h
  simp only [Option.map_some,Option.some.injEq,Prod.mk.injEq] at h
  obtain ⟨h1,h2,h3⟩:=h
  cases hz:i.zero with
  | none=>rw [hz] at h1;cases h1
  | some z=>rw [hz] at h1;exact ⟨i,z,rfl,hz,h2,h3,by simpa using h1⟩
def EmpV (W:World) (base:Nat) (e:TypeId) (size:Nat) (v:Value):Prop:=∃ g,v=.slice (some ⟨g,0,none⟩) 0 0∧Own W base e size (some ⟨g,0,none⟩) 0 0 []
theorem emp_made (W:World){base:Nat}(hb:base≤W.heap.size) (e:TypeId){size:Nat}(_hs:0<size):EmpV (W.alloc (.cells #[] e)) base e size (.slice (some ⟨W.heap.size,0,none⟩) 0 0) :=
 ⟨W.heap.size,rfl,own_base (World.ownsRow_made W #[] 0 (Nat.le_refl _) (by simp [maxLen]) (by simp)) hb⟩
theorem info_one22:(Tryz.prog.info? 227).map (fun i=>(i.zero,i.size,i.bytes))=some (some (.agg #[.int .i64 0,.slice none 0 0,.pointer none]),3,40):=by kernel_rfl
theorem cloneone_any (D:Nat→Prop) (A:Option Addr) (n c:Nat) (vs:List Value) (w:World) (hR:Row w D A n 3 vs) (h1:∀ u∈vs,u.oneCell'=true) (hn:n≤1000000):
  Calls Tryz.prog 232 #[.slice A n c] w fun e w'=>(∃ A' c',e=.returned (.slice A' n c')∧Own w' w.heap.size 227 3 A' n c' vs)∧New w w':=by
 have hq:=fun w'=>Lib.run_eql_slice_nil (P:=Tryz.prog) w' 214 227 A n c 0 0 Tryz.underlying214
 rcases A with _|ad
 ·have h0:n=0:=by
   rcases Nat.eq_zero_or_pos n with h|h
   ·exact h
   ·obtain ⟨_,_,e,_⟩:=hR.2 h
    cases e
  subst h0
  obtain rfl:vs=[]:=List.eq_nil_of_length_eq_zero (by have:=hR.1;omega)
  go_enter Tryz.func232,Tryz.ntmps232
  go_wp2_with fail
  go_ret
  exact ⟨⟨none,0,rfl,Own.nil _ _ _ _⟩,New.refl _⟩
 ·obtain ⟨q0,hq0,hqz,hqs,hqb⟩:=info_parts info_one22
  have kA:New w (w.alloc (.cells #[] 227)):=(New.refl w).alloc _
  obtain ⟨gg,hgg,ho⟩:=emp_made w (base:=w.heap.size) (Nat.le_refl _) 227 (size:=3) (by decide)
  injection hgg with hgg
  injection hgg with hgg
  injection hgg with hgg
  subst hgg
  have hr:=hR.new kA
  have hsz:w.heap.size≤(w.alloc (.cells #[] 227)).heap.size:=kA.size
  have hb1:0+n≤maxLen:=by unfold maxLen;omega
  have hb2:(0+n)*40≤140737488355328:=by omega
  clear hR
  go_enter Tryz.func232,Tryz.ntmps232
  go_wp2_with (at_builtin;refine wpList_append_row _ rfl _ _ 214 rfl w.heap.size 227 q0 (.agg #[.int .i64 0,.slice none 0 0,.pointer none]) 3 40 Tryz.underlying214 hq0 hqz hqs hqb rfl (by decide) (some ⟨w.heap.size,0,none⟩) 0 0 [] rfl ho D (some ad) n c vs rfl hr h1 hb1 hb2 hsz ?_;intro A3 c3 w3 o3 hg3 hbk3)
  rw [Nat.zero_add,List.nil_append] at o3
  have hN:New w w3:=kA.grown hg3 (fun j hj _=>(own_lt ho j hj).1)
  go_ret
  exact ⟨⟨A3,c3,rfl,o3⟩,hN⟩
def SnapsRet (w:World) (c:Col) (j:Nat) (ns:SnapsP) (e:Ending) (w':World):Prop:=∃ (bs:Nat) (Q:SnapsB) (c':Col),e=.returned (.pointer (some ⟨bs,0,none⟩))∧New w w'∧w.heap.size≤bs∧Ext w c c'∧SnapsAt w' c' j bs Q ns
theorem snaps_one {w:World}{c:Col}{vs:List Value}{β:Nat→SnapB}{l:List SnapP}(hl:vs.length=l.length*3) (h:∀ k (h:k<l.length),SnapAt w c vs (k*3) (β k) l[k]):∀ u∈vs,u.oneCell'=true:=by
 intro u hu
 obtain ⟨k,hk,rfl⟩:=List.getElem_of_mem hu
 have hs:=h (k/3) (by omega)
 have h3:k%3=0∨k%3=1∨k%3=2:=by omega
 have hg:vs[k]?=some vs[k]:=List.getElem?_eq_getElem hk
 rcases h3 with h3|h3|h3
 ·have q:=hs.id;rw [show k/3*3=k from by omega,hg] at q;injection q with q;rw [q];rfl
 ·have q:=hs.hash;rw [show k/3*3+1=k from by omega,hg] at q;injection q with q;rw [q];rfl
 ·have q:=hs.tree;rw [show k/3*3+2=k from by omega,hg] at q;injection q with q;rw [q];rfl
theorem scopy_any {w:World}{c:Col}{i bs:Nat}{Q:SnapsB}{ns:SnapsP}(h:SnapsAt w c i bs Q ns) (hn:ns.list.length≤1000000) (j:Nat):Calls Tryz.prog 170 #[.pointer (some ⟨bs,0,none⟩)] w (SnapsRet w c j ns):=by
 have H:=Lib.hid h
 obtain ⟨vs,h1,h2⟩:=h.row
 have HR:=Lib.hid (cloneone_any _ Q.A ns.list.length Q.ca vs w.drew ((Row.of_own h1).drew) (snaps_one h1.1 h2) hn)
 have HV:=Lib.hid h2
 have c0:∀ W,New w.drew W→W.cell? ⟨bs,0,none⟩=some (.slice Q.A ns.list.length Q.ca):=fun W hW=>hW.cell_some (cellOf (w:=w.drew) h.snaps (k:=0) rfl) trivial
 have c1:∀ W,New w.drew W→W.cell? ⟨bs,1,none⟩=some (.int .i64 ns.next):=fun W hW=>hW.cell_some (cellOf (w:=w.drew) h.snaps (k:=1) rfl) trivial
 have c2:∀ W,New w.drew W→W.cell? ⟨bs,2,none⟩=some (.slice Q.L ns.last.length Q.cl):=fun W hW=>hW.cell_some (cellOf (w:=w.drew) h.snaps (k:=2) rfl) trivial
 clear h h1 h2
 go_enter Tryz.func170,Tryz.ntmps170
 go_upto_region 1 with fail
 refine hold_beginS (Keep (fun _=>True) w.drew) (by kernel_rfl) ?_
 have n0:Keep (fun _=>True) w.drew w.drew:=Keep.refl _ _
 refine take0 0 n0 ?_
 refine take0 1 n0 ?_
 refine take0 2 n0 ?_
 refine take0 3 n0 ?_
 refine take0 5 n0 ?_
 refine take0 6 n0 ?_
 refine take0 7 n0 ?_
 refine take0 8 n0 ?_
 refine take0 9 n0 ?_
 refine take0 10 n0 ?_
 refine take0 11 n0 ?_
 refine take0 12 n0 ?_
 refine hold_step0 (i:=4) (by kernel_rfl) rfl rfl (fun K hK=>?_)
 go_simp
 refine HR.out.mono ?_
 rintro e w1 ⟨⟨A1,ca1,rfl,o1⟩,k1⟩;have H1:=Lib.hid (And.intro k1 o1);clear o1
 go_wp2_with fail
 have n1:=Keep.new n0 k1
 refine hK.out _ _ n1 ?_
 clear hK K
 try simp only [Act.put,ly1,ly2,ly3,ly4,ly5,ly6]
 replace n0:=n1
 clear n1
 refine take0 13 n0 ?_
 have k3:=(New.refl w1).alloc (.cells #[.slice A1 ns.list.length ca1,.int .i64 ns.next,.slice Q.L ns.last.length Q.cl] 216)
 refine hold_step0 (i:=14) (by kernel_rfl) rfl rfl (fun K hK=>?_)
 go_simp
 go_wp2_with fail
 have n1:=Keep.new n0 k3
 refine hK.out _ _ n1 ?_
 clear hK K
 try simp only [Act.put,ly1,ly2,ly3,ly4,ly5,ly6]
 replace n0:=n1
 clear n1
 refine take0 15 n0 ?_
 refine wpAnyH_done (by kernel_rfl) ?_ _
 go_wp2_with fail
 go_ret
 obtain ⟨k1,o1⟩:=H1.out
 have kw:New w w1:=(Keep.drew (New.refl w)).new k1
 have x3:=heap_alloc_new w1 (.cells #[.slice A1 ns.list.length ca1,.int .i64 ns.next,.slice Q.L ns.last.length Q.cl] 216)
 have e3:=c.on_ext w fun _=>j
 have o1':Own w1 w.heap.size 227 3 A1 ns.list.length ca1 vs:=o1
 refine ⟨w1.heap.size,⟨A1,ca1,Q.L,Q.cl,Q.β⟩,c.on w.heap.size fun _=>j,rfl,kw.new k3,kw.size,e3,x3,⟨c.on_new _ kw.size,fun g hg=>⟨c.on_new _ (own_lt o1' g hg).1,by have:=(own_lt o1' g hg).2;omega⟩⟩,⟨H.out.last.1,H.out.last.2.1,bs_col H.out.last.2.2 (kw.new k3) e3 fun _ _ _=>trivial⟩,vs,?_,fun k hk=>(HV.out k hk).keep (kw.new k3) e3 fun _ _ _=>trivial⟩
 exact own_base (own_keep o1' k3 fun _ _=>trivial) (Nat.zero_le _)
def StateP.settled (s:StateP):StateP:=⟨committedT s.T,s.S,s.now,fun _=>none⟩
theorem settled_any {w:World}{c:Col}{I J:Cols}{b:Nat}{B:StateB}{s:StateP}(h:StateAt w c I b B s) (hn:s.T.length≤100000) (hk:∀ p∈s.T,-9223372036854775808≤p.1∧p.1≤9223372036854775807) (hs:s.S.list.length≤1000000) (hJ:J.Ok):
  Calls Tryz.prog 166 #[.pointer (some ⟨b,0,none⟩)] w (StateRet w c J s.settled):=by
 have c0:∀ W,New w.drew W→W.cell? ⟨b,0,none⟩=some (.pointer (some ⟨B.bt,0,none⟩)):=fun W hW=>hW.cell_some (cellOf (w:=w.drew) h.state (k:=0) rfl) trivial
 have c1:∀ W,New w.drew W→W.cell? ⟨b,1,none⟩=some (.pointer (some ⟨B.bs,0,none⟩)):=fun W hW=>hW.cell_some (cellOf (w:=w.drew) h.state (k:=1) rfl) trivial
 have c2:∀ W,New w.drew W→W.cell? ⟨b,2,none⟩=some (.int .u64 s.now):=fun W hW=>hW.cell_some (cellOf (w:=w.drew) h.state (k:=2) rfl) trivial
 have HT:=Lib.hid (committed_any (w:=w.drew) (h.tree.new (Keep.drew (New.refl w))) hn hk J.t)
 have H3:=Lib.hid h.snaps
 have HJ:=Lib.hid (And.intro hJ hs)
 clear h hn hk hJ hs
 go_enter Tryz.func166,Tryz.ntmps166
 go_upto_region 1 with fail
 refine hold_beginS (Keep (fun _=>True) w.drew) (by kernel_rfl) ?_
 have n0:Keep (fun _=>True) w.drew w.drew:=Keep.refl _ _
 refine take0 0 n0 ?_
 refine take0 1 n0 ?_
 refine take0 2 n0 ?_
 refine take0 3 n0 ?_
 refine take0 5 n0 ?_
 refine take0 6 n0 ?_
 refine take0 7 n0 ?_
 refine take0 8 n0 ?_
 refine take0 10 n0 ?_
 refine take0 11 n0 ?_
 refine take0 12 n0 ?_
 refine take0 13 n0 ?_
 refine hold_step0 (i:=4) (by kernel_rfl) rfl rfl (fun K hK=>?_)
 go_simp
 refine HT.out.mono ?_
 rintro e w1 ⟨bt2,q2,d1,rfl,k1,z1,x1,t1⟩;have H1:=Lib.hid (And.intro k1 (And.intro z1 (And.intro x1 t1)));clear z1 x1 t1
 go_wp2_with fail
 have n1:=Keep.new n0 k1
 refine hK.out _ _ n1 ?_
 clear hK K
 try simp only [Act.put,ly1,ly2,ly3,ly4,ly5,ly6]
 replace n0:=n1
 clear n1
 refine hold_step0 (i:=9) (by kernel_rfl) rfl rfl (fun K hK=>?_)
 go_simp
 refine (scopy_any (SnapsAt.keep H3.out ((Keep.drew (New.refl w)).new H1.out.1) (show Ext w c d1 from H1.out.2.2.1) fun _ _ _=>trivial) HJ.out.2 J.s).mono ?_
 rintro e w2 ⟨bs2,Q2,d2,rfl,k2,z2,x2,t2⟩;have H2:=Lib.hid (And.intro k2 (And.intro z2 (And.intro x2 t2)));clear z2 x2 t2
 go_wp2_with fail
 have n1:=Keep.new n0 k2
 refine hK.out _ _ n1 ?_
 clear hK K
 try simp only [Act.put,ly1,ly2,ly3,ly4,ly5,ly6]
 replace n0:=n1
 clear n1
 refine take0 14 n0 ?_
 have k3:=(New.refl w2).alloc (.cells (stateCells ⟨bt2,q2,bs2,Q2,fun _=>none⟩ s.now) 180)
 refine hold_step0 (i:=15) (by kernel_rfl) rfl rfl (fun K hK=>?_)
 go_simp
 go_wp2_with fail
 have n1:=Keep.new n0 k3
 refine hK.out _ _ n1 ?_
 clear hK K
 try simp only [Act.put,ly1,ly2,ly3,ly4,ly5,ly6]
 replace n0:=n1
 clear n1
 refine take0 16 n0 ?_
 refine wpAnyH_done (by kernel_rfl) ?_ _
 go_wp2_with fail
 go_ret
 obtain ⟨k1,z1,x1,t1⟩:=H1.out
 obtain ⟨k2,z2,x2,t2⟩:=H2.out
 have kw:New w w2:=((Keep.drew (New.refl w)).new k1).new k2
 have x3:=heap_alloc_new w2 (.cells (stateCells ⟨bt2,q2,bs2,Q2,fun _=>none⟩ s.now) 180)
 have e3:=d2.on_ext w2 fun _=>J.o
 have x1':Ext w c d1:=x1
 exact ⟨w2.heap.size,⟨bt2,q2,bs2,Q2,fun _=>none⟩,d2.on w2.heap.size fun _=>J.o,rfl,kw.new k3,kw.size,(x1'.trans x2 (Nat.le_trans (Nat.le_refl _) k1.size)).trans e3 kw.size,x3,d2.on_new _ (Nat.le_refl _),(t1.keep k2 x2 fun _ _ _=>trivial).keep k3 e3 fun _ _ _=>trivial,t2.keep k3 e3 fun _ _ _=>trivial,fun k _=>trivial,HJ.out.1⟩
def TrRet (w:World) (c:Col) (j:Nat) (T:TreeP) (e:Ending) (w':World):Prop:=∃ b B c',e=.returned (.tuple #[.pointer (some ⟨b,0,none⟩),.int .i64 0])∧New w w'∧w.heap.size≤b∧Ext w c c'∧TreeAt w' c' j b B T
def LoadsT (T:TreeP):Prop:=∀ (w:World) (c:Col) (j:Nat),j≠0→∀ (D:Nat→Prop) (A:Option Addr) (n cp:Nat),Bs w D A n (treeBytes T)→n≤cp→cp≤9223372036854775807→Calls Tryz.prog 304 #[.slice A n cp] w (TrRet w c j T)
def SnRet (w:World) (c:Col) (j:Nat) (ns:SnapsP) (e:Ending) (w':World):Prop:=∃ b B c',e=.returned (.tuple #[.pointer (some ⟨b,0,none⟩),.int .i64 0])∧New w w'∧w.heap.size≤b∧Ext w c c'∧SnapsAt w' c' j b B ns
def LoadsS (ns:SnapsP):Prop:=∀ (w:World) (c:Col) (j:Nat),∀ (D:Nat→Prop) (A:Option Addr) (n cp:Nat),Bs w D A n (snapsBytes ns)→n≤cp→cp≤9223372036854775807→Calls Tryz.prog 305 #[.slice A n cp] w (SnRet w c j ns)
theorem cright_any (t:Int) (h:t≤1099511627776) (w:World):Calls Tryz.prog 256 #[.int .u64 t] w fun e w'=>e=.returned (.bool true)∧New w w':=by
 have hd:decide (t≤1099511627776)=true:=decide_eq_true h
 go_enter Tryz.func256,Tryz.ntmps256
 go_wp2_with fail
 go_ret
 exact ⟨rfl,New.refl w⟩
theorem stload_of {s:StateP}(hO:StateOk s) (hnow:s.now≤1099511627776) (hfd:s.fd=fun _=>none) (hcm:committedT s.T=s.T) (hT:LoadsT s.T) (hS:LoadsS s.S) (hsz:(stBytes s).length≤1099511627776):LoadsSt s:=by
 intro w c I hI D A n cp hB hc hc9
 obtain ⟨tb,htb⟩:∃ tb,tb=treeBytes s.T:=⟨_,rfl⟩
 obtain ⟨sb,hsb⟩:∃ sb,sb=snapsBytes s.S:=⟨_,rfl⟩
 obtain ⟨bs,hbs⟩:∃ bs,bs=stBytes s:=⟨_,rfl⟩
 have hb:bs=beI 8 s.now++(beI 8 tb.length++(tb++sb)):=by
  rw [hbs,htb,hsb]
  unfold stBytes
  rw [hcm]
  simp only [List.append_assoc]
 rw [← hbs] at hB hsz
 have hl:=hB.len
 have hbl:bs.length=16+tb.length+sb.length:=by rw [hb];simp only [List.length_append,beI_length];omega
 obtain ⟨a1,e1,ha1⟩:=num_at 8 s.now (beI 8 tb.length++(tb++sb)) hO.now.1 (by omega)
 obtain ⟨a2,e2,ha2⟩:=num_at 8 tb.length (tb++sb) (by omega) (by omega)
 have ha2':a2=tb.length:=by omega
 rw [ha2'] at e2
 obtain ⟨tn,htn⟩:∃ tn,tn=tb.length:=⟨_,rfl⟩
 obtain ⟨sn,hsn⟩:∃ sn,sn=sb.length:=⟨_,rfl⟩
 have e3:RdS.raw ⟨tb++sb,0⟩ (tn:Int)=(tb,⟨sb,0⟩):=RdS.raw_zero _ _ _ (by rw [htn])
 have e4:RdS.raw ⟨sb,0⟩ (sn:Int)=(sb,⟨[],0⟩):=by
  have:=RdS.raw_zero sb [] (sn:Int) (by rw [hsn])
  rwa [List.append_nil] at this
 have hl1:(RdS.mk (tb++sb) 0).left=tn+sn:=by unfold RdS.left;rw [if_neg (fun h=>h rfl),List.length_append,htn,hsn]
 have hl2:(RdS.mk sb 0).left=sn:=by unfold RdS.left;rw [if_neg (fun h=>h rfl),hsn]
 rw [← htn] at e2 e1 hb
 have htl:tn≤1099511627776:=by omega
 have hsl:sn≤1099511627776:=by omega
 have q1:IntKind.u64.wrap ((tn+sn:Nat):Int)=((tn+sn:Nat):Int):=by rw [IntKind.wrap_u64];omega
 have q1':IntKind.u64.wrap ((tn:Int)+(sn:Int))=(tn:Int)+(sn:Int):=by rw [IntKind.wrap_u64];omega
 have q2:IntKind.i64.wrap (tn:Int)=(tn:Int):=IntWalk.i64_in _ (by omega)
 have d1:decide ((tn:Int)+(sn:Int)<(tn:Int))=false:=decide_eq_false (by omega)
 have HN:=Lib.hid (newReader_any D A n cp bs w hB (by omega))
 have HB:=Lib.hid hb
 have HE:=Lib.hid (And.intro e1 (And.intro e2 (And.intro e3 (And.intro e4 (And.intro hl1 hl2)))))
 have HA1:=Lib.hid ha1
 have HCR:=fun W=>Lib.hid (cright_any s.now hnow W)
 have HT:=Lib.hid hT
 have HS:=Lib.hid hS
 have HO:=Lib.hid hO
 have HI:=Lib.hid (And.intro hI (And.intro hfd hcm))
 have HTB:=Lib.hid (And.intro htb (And.intro hsb (And.intro htn hsn)))
 clear hB hbs hb hl hbl e1 e2 e3 e4 ha1 ha2 ha2' htn hsn hl1 hl2 hnow hT hS hO hI hfd hcm htb hsb hsz
 go_enter Tryz.func267,Tryz.ntmps267
 go_wp2_with fail
 refine HN.out.mono ?_
 rintro e w1 ⟨⟨p,rfl,hp,hR⟩,k1⟩
 rw [HB.out] at hR
 have HR1:=Lib.hid (rlong_any p _ w1 hR)
 rw [HE.out.1] at HR1
 dsimp only at HR1
 rw [HA1.out] at HR1
 have HK:=Lib.hid k1
 clear HN hR k1
 go_wp2_with fail
 refine HR1.out.mono ?_
 rintro e w2 ⟨rfl,hR,k2⟩
 have HKE:=Lib.hid k2
 have HR2:=Lib.hid (rlong_any p _ w2 hR)
 rw [HE.out.2.1] at HR2
 dsimp only at HR2
 clear HR1 hR k2
 go_wp2_with fail
 refine HR2.out.mono ?_
 rintro e w3 ⟨rfl,hR,k3⟩
 replace HKE:=Lib.hid (HKE.out.trans k3)
 have HCR3:=HCR w3
 have HRD:=Lib.hid hR
 clear HR2 hR k3 HCR
 go_wp2_with fail
 refine HCR3.out.mono ?_
 rintro e w4 ⟨rfl,k4⟩
 replace HKE:=Lib.hid (HKE.out.new k4)
 have HRL:=Lib.hid (rleft_any p _ w4 (HRD.out.keep k4))
 rw [HE.out.2.2.2.2.1] at HRL
 replace HRD:=Lib.hid (HRD.out.keep k4)
 clear k4 HCR3
 go_wp2_with fail
 refine HRL.out.mono ?_
 rintro e w5 ⟨rfl,rfl⟩
 have hcast:(((tn+sn:Nat)):Int)=(tn:Int)+(sn:Int):=by omega
 rw [hcast]
 have HR3:=Lib.hid (rraw_any p ⟨tb++sb,0⟩ tn w4 HRD.out)
 rw [HE.out.2.2.1] at HR3
 dsimp only at HR3
 rw [← HTB.out.2.2.1] at HR3
 have hrp:p<w4.heap.size:=HRD.out.lt
 clear HRL HRD hcast q1
 go_wp2_with fail
 refine HR3.out.mono ?_
 rintro e w6 ⟨⟨A6,c6,rfl,o6⟩,hR,k6⟩
 replace HKE:=Lib.hid (HKE.out.trans k6)
 have HK6:Hid (New w w6):=Lib.hid (HK.out.trans2 HKE.out fun b hb _=>by show b≠p;omega)
 have HRD:=Lib.hid hR
 have HB6:Hid (Bs w6 (fun b=>w4.heap.size≤b) A6 tn tb):=Lib.hid (Row.of_own o6)
 have HC6:=Lib.hid (And.intro (own_cap o6) (own_capMax o6))
 have hp6:p<w6.heap.size:=hR.lt
 have HTL:=Lib.hid (HT.out w6 (c.on w.heap.size fun _=>I.t+I.s+I.o+1) I.t HI.out.1.nz.1 _ A6 tn c6 (by rw [← HTB.out.1];exact HB6.out) HC6.out.1 HC6.out.2)
 clear HR3 hR k6 o6
 go_wp2_with fail
 refine HTL.out.mono ?_
 rintro e w7 ⟨bt,q,c1,rfl,k7,z7,x7,t7⟩
 have HX7:=Lib.hid (And.intro z7 x7)
 have HT7:=Lib.hid t7
 have HK7:=Lib.hid (HK6.out.new k7)
 replace HB6:=Lib.hid (HB6.out.new k7)
 replace HRD:=Lib.hid (HRD.out.keep k7)
 have HCM:=Lib.hid (committed_any t7 HO.out.few HO.out.key 0)
 have hcm:=HI.out.2.2
 rw [hcm] at HCM
 clear k7 z7 x7 t7 HTL hcm
 go_wp2_with fail
 refine HCM.out.mono ?_
 rintro e w8 ⟨b8,q8,c8,rfl,k8,z8,x8,t8⟩
 have hot:=HO.out.tree
 rw [HI.out.2.2] at hot
 have HSV:=Lib.hid (tsave_any t8 hot)
 rw [← HTB.out.1,← HTB.out.2.2.1] at HSV
 replace HT7:=Lib.hid (HT7.out.new k8)
 replace HK7:=Lib.hid (HK7.out.new k8)
 replace HB6:=Lib.hid (HB6.out.new k8)
 replace HRD:=Lib.hid (HRD.out.keep k8)
 have hz8:=k8.size
 clear k8 z8 x8 t8 HCM hot
 go_wp2_with fail
 refine HSV.out.mono ?_
 rintro e w9 ⟨⟨A9,c9,rfl,o9⟩,k9⟩
 have HEQ:=Lib.hid (equal_any _ _ A9 A6 tn c9 tn c6 tb tb w9 (Row.of_own o9) (HB6.out.new k9))
 rw [show (tb==tb)=true from by simp] at HEQ
 replace HT7:=Lib.hid (HT7.out.new k9)
 replace HK7:=Lib.hid (HK7.out.new k9)
 replace HRD:=Lib.hid (HRD.out.keep k9)
 have hz9:=k9.size
 clear k9 o9 HSV HB6
 go_wp2_with fail
 refine HEQ.out.mono ?_
 rintro e w10 ⟨rfl,rfl⟩
 have HRL:=Lib.hid (rleft_any p _ w9 HRD.out)
 rw [HE.out.2.2.2.2.2] at HRL
 clear HEQ
 go_wp2_with fail
 refine HRL.out.mono ?_
 rintro e w10 ⟨rfl,rfl⟩
 have HR4:=Lib.hid (rraw_any p ⟨sb,0⟩ sn w9 HRD.out)
 rw [HE.out.2.2.2.1] at HR4
 dsimp only at HR4
 rw [← HTB.out.2.2.2] at HR4
 clear HRL HRD
 go_wp2_with fail
 refine HR4.out.mono ?_
 rintro e w11 ⟨⟨A11,c11,rfl,o11⟩,-,k11⟩
 have hcp:c1 p=I.t+I.s+I.o+1:=(HX7.out.2 p hp6).trans (Col.on_new _ _ (by have:=HK.out.size;omega))
 replace HT7:=Lib.hid (HT7.out.keep k11 (Ext.refl _ _) fun b _ hb e=>by rw [e,hcp] at hb;omega)
 replace HK7:=Lib.hid (HK7.out.trans2 k11 fun b hb _=>by show b≠p;omega)
 have hz11:=k11.size
 have hz7:=HX7.out.1
 have HSL:=Lib.hid (HS.out w11 c1 I.s _ A11 sn c11 (by rw [← HTB.out.2.1];exact Row.of_own o11) (own_cap o11) (own_capMax o11))
 clear HR4 k11 o11
 go_wp2_with fail
 refine HSL.out.mono ?_
 rintro e w12 ⟨bs',Q,c2,rfl,k12,z12,x12,s12⟩
 have H12:=Lib.hid (And.intro k12 (And.intro x12 s12))
 have k3:=(New.refl w12).alloc (.cells (stateCells ⟨bt,q,bs',Q,fun _=>none⟩ s.now) 180)
 have x3:=heap_alloc_new w12 (.cells (stateCells ⟨bt,q,bs',Q,fun _=>none⟩ s.now) 180)
 have HX3:=Lib.hid (And.intro k3 x3)
 clear k12 z12 x12 s12 k3 x3 HSL
 go_wp2_with fail
 refine bodyPost_ret (v:=.tuple #[.pointer (some ⟨w12.heap.size,0,none⟩),.int .i64 0]) (by simp [results,Tryz.results267,go_sem]) rfl ?_
 obtain ⟨k12,x12,s12⟩:=H12.out
 obtain ⟨k3,x3⟩:=HX3.out
 have e3:=c2.on_ext w12 fun _=>I.o
 have kw:New w w12:=HK7.out.new k12
 have hfd:=HI.out.2.1
 obtain ⟨sT,sS,sn',sf⟩:=s
 dsimp only at hfd
 subst hfd
 refine ⟨w12.heap.size,⟨bt,q,bs',Q,fun _=>none⟩,c2.on w12.heap.size fun _=>I.o,rfl,kw.new k3,kw.size,?_,x3,c2.on_new _ (Nat.le_refl _),(HT7.out.keep k12 x12 fun _ _ _=>trivial).keep k3 e3 fun _ _ _=>trivial,s12.keep k3 e3 fun _ _ _=>trivial,fun k _=>trivial,HI.out.1⟩
 have hz6:=HK6.out.size
 have e1:Ext w c c1:=(Col.on_ext c w _).trans HX7.out.2 hz6
 exact (e1.trans x12 HK7.out.size).trans e3 kw.size
theorem sn1:RdS.num ⟨snapsBytes noSnaps,0⟩ 8=(1,⟨[0,0,0],0⟩):=by kernel_rfl
theorem sn2:RdS.lenRow ⟨[0,0,0],0⟩=([],⟨[0],0⟩):=by kernel_rfl
theorem sn3:RdS.num ⟨[0],0⟩ 1=(0,⟨[],0⟩):=by kernel_rfl
theorem sload_new:LoadsS noSnaps:=by
 intro w c j D A n cp hB hc hc9
 have hl:=hB.len
 have hn:n=11:=by rw [← hl];kernel_rfl
 have HN:=Lib.hid (newReaderD_any D A n cp _ w hB (by omega))
 clear hB hl hn hc hc9
 go_enter Tryz.func305,Tryz.ntmps305
 go_wp2_with fail
 refine HN.out.mono ?_
 rintro e w1 ⟨⟨p,rfl,hp,hR⟩,k1⟩
 have HR1:=Lib.hid (rlongD_any _ p _ w1 hR)
 rw [sn1] at HR1
 dsimp only at HR1
 have HK:=Lib.hid k1
 clear HN hR k1
 go_wp2_with fail
 refine HR1.out.mono ?_
 rintro e w2 ⟨rfl,hR,k2⟩
 have HKE:=Lib.hid k2
 have HR2:=Lib.hid (rbytesD_any _ p _ w2 hR)
 rw [sn2] at HR2
 dsimp only at HR2
 have hz2:=k2.size
 clear HR1 hR k2
 go_wp2_with fail
 refine HR2.out.mono ?_
 rintro e w3 ⟨⟨A3,c3,rfl,o3⟩,hR,k3⟩
 have HO3:=Lib.hid (And.intro (own_cap o3) (own_capMax o3))
 replace HKE:=Lib.hid (HKE.out.trans k3)
 have HR3:=Lib.hid (rbyteD_any _ p _ w3 hR)
 rw [sn3] at HR3
 dsimp only at HR3
 clear HR2 hR k3 o3
 go_wp2_with fail
 refine HR3.out.mono ?_
 rintro e w4 ⟨rfl,hR,k4⟩
 replace HKE:=Lib.hid (HKE.out.trans k4)
 have HRD:=Lib.hid hR
 have HK4:Hid (New w w4):=Lib.hid (HK.out.trans2 HKE.out fun b hb _=>by show b≠p;omega)
 clear HR3 hR k4
 go_upto_region 4 with fail
 have kS:=(New.refl w4).alloc (.cells #[.slice none 0 0,.int .i64 1,.slice A3 0 c3] 216)
 have xS:=heap_alloc_new w4 (.cells #[.slice none 0 0,.int .i64 1,.slice A3 0 c3] 216)
 generalize w4.alloc (.cells #[.slice none 0 0,.int .i64 1,.slice A3 0 c3] 216)=w5 at *
 have HR4:=Lib.hid (rend_any _ p _ w5 (HRD.out.keep kS))
 have he:(RdS.mk [] 0).endOf=0:=rfl
 rw [he] at HR4
 have HS:=Lib.hid (And.intro kS xS)
 clear kS xS he
 go_wp2_with fail
 go_loopw [43] (fun s43 wx=>s43=.int .i64 0∧wx=w5) (fun _ _=>0)
 case atStart=>exact ⟨rfl,rfl⟩
 case round =>
  obtain ⟨rfl,rfl⟩:=hrel
  go_wp2_with fail
  refine HR4.out.mono ?_
  rintro e w6 ⟨rfl,rfl⟩
  go_wp2_with fail
  refine bodyPost_ret (v:=.tuple #[.pointer (some ⟨w4.heap.size,0,none⟩),.int .i64 0]) (by simp [results,Tryz.results305,go_sem]) rfl ?_
  obtain ⟨kS,xS⟩:=HS.out
  have kw:=HK4.out.new kS
  refine ⟨w4.heap.size,⟨none,0,A3,c3,fun _=>⟨none,0,0,⟨0,fun _=>0,fun _=>0⟩⟩⟩,c.on w.heap.size fun _=>j,rfl,kw,HK4.out.size,c.on_ext w _,xS,⟨c.on_new _ HK4.out.size,fun g hg=>(by cases hg)⟩,⟨HO3.out.1,HO3.out.2,⟨by simp [noSnaps],fun h=>absurd h (by simp [noSnaps])⟩⟩,[],Own.nil _ _ _ _,fun k hk=>absurd hk (Nat.not_lt_zero k)⟩
theorem rflagD_any (D:Nat→Prop) (p:Nat) (s s':RdS) (b:Bool) (w:World) (hR:RdD D w p s) (hb:s.num 1=(if b then 1 else 0,s')):
  Calls Tryz.prog 75 #[.pointer (some ⟨p,0,none⟩)] w fun e w'=>e=.returned (.bool b)∧RdD D w' p s'∧Keep (fun b=>b≠p) w w':=by
 have HB:=Lib.hid (rbyteD_any D p s w hR)
 rw [hb] at HB
 clear hR hb
 cases b
 ·go_enter Tryz.func75,Tryz.ntmps75
  go_wp2_with fail
  refine HB.out.mono ?_
  rintro e w1 ⟨rfl,h1,k1⟩
  go_wp2_with fail
  go_ret
  exact ⟨rfl,h1,k1⟩
 ·go_enter Tryz.func75,Tryz.ntmps75
  go_wp2_with fail
  refine HB.out.mono ?_
  rintro e w1 ⟨rfl,h1,k1⟩
  go_wp2_with fail
  go_ret
  exact ⟨rfl,h1,k1⟩
theorem node_parts {id:Int}{n:NodeP}(h:NodeOk id n):∃ a1 a2 a3 a4 a5:Nat,∃ r1 r2 r3 r4 r5:List UInt8,RdS.num ⟨nodeBytes id n,0⟩ 2=(a1,⟨r1,0⟩)∧RdS.num ⟨r1,0⟩ 1=(a2,⟨r2,0⟩)∧RdS.num ⟨r2,0⟩ 2=(a3,⟨r3,0⟩)∧RdS.num ⟨r3,0⟩ 2=(a4,⟨r4,0⟩)∧RdS.num ⟨r4,0⟩ 8=(a5,⟨r5,0⟩)∧RdS.num ⟨r5,0⟩ 1=(if n.shut then 1 else 0,⟨[],0⟩) ∧
  (a1:Int)=id∧(a2:Int)=n.kind∧(a3:Int)=n.links∧(a4:Int)=n.size∧(a5:Int)=n.till:=by
 have hw:nodeBytes id n=beI 2 id++(beI 1 n.kind++(beI 2 n.links++(beI 2 n.size++(beI 8 n.till++flagByte n.shut)))):=by unfold nodeBytes;simp only [List.append_assoc]
 rw [hw]
 have h1:=h.id
 have h2:=h.links
 have h3:=h.till
 have h4:=h.kind
 obtain ⟨a1,e1,g1⟩:=num_at 2 id (beI 1 n.kind++(beI 2 n.links++(beI 2 n.size++(beI 8 n.till++flagByte n.shut)))) (by omega) (by omega)
 obtain ⟨a2,e2,g2⟩:=num_at 1 n.kind (beI 2 n.links++(beI 2 n.size++(beI 8 n.till++flagByte n.shut))) (by omega) (by omega)
 obtain ⟨a3,e3,g3⟩:=num_at 2 n.links (beI 2 n.size++(beI 8 n.till++flagByte n.shut)) (by omega) (by omega)
 obtain ⟨a4,e4,g4⟩:=num_at 2 n.size (beI 8 n.till++flagByte n.shut) (by omega) (by omega)
 obtain ⟨a5,e5,g5⟩:=num_at 8 n.till (flagByte n.shut) (by omega) (by omega)
 refine ⟨a1,a2,a3,a4,a5,_,_,_,_,_,e1,e2,e3,e4,e5,?_,g1,g2,g3,g4,g5⟩
 cases n.shut <;> kernel_rfl
theorem six_cells22 {w:World}{g:Nat}{c0 c1 c2 c3 c4 c5:Value}{t:TypeId}(h:w.heap[g]?=some (.cells #[c0,c1,c2,c3,c4,c5] t (0,0))) (x0 x1 x2 x3 x4 x5:Value):
  ((((((w.setCell ⟨g,0,none⟩ x0).setCell ⟨g,1,none⟩ x1).setCell ⟨g,2,none⟩ x2).setCell ⟨g,3,none⟩ x3).setCell ⟨g,4,none⟩ x4).setCell ⟨g,5,none⟩ x5).heap[g]?=some (.cells #[x0,x1,x2,x3,x4,x5] t (0,0)) ∧
  Keep (fun b=>b≠g) w ((((((w.setCell ⟨g,0,none⟩ x0).setCell ⟨g,1,none⟩ x1).setCell ⟨g,2,none⟩ x2).setCell ⟨g,3,none⟩ x3).setCell ⟨g,4,none⟩ x4).setCell ⟨g,5,none⟩ x5):=by
 have no:∀ (W:World) (k:Nat) (u:Value),Keep (fun b=>b≠g) w W→Keep (fun b=>b≠g) w (W.setCell ⟨g,k,none⟩ u):=fun W k u hW=>hW.setCell (p:=⟨g,k,none⟩) (fun hd=>absurd rfl hd) u
 exact ⟨setCell_block (setCell_block (setCell_block (setCell_block (setCell_block (setCell_block h 0 x0) 1 x1) 2 x2) 3 x3) 4 x4) 5 x5,no _ _ _ (no _ _ _ (no _ _ _ (no _ _ _ (no _ _ _ (no _ _ _ (Keep.refl _ w))))))⟩
theorem ndecode_any {id:Int}{n:NodeP}(h:NodeOk id n){D:Nat→Prop}{A:Option Addr}{m cp:Nat}{w:World}(hB:Bs w D A m (nodeBytes id n)):
  Calls Tryz.prog 355 #[.slice A m cp] w fun e w'=>e=.returned (.tuple #[NodeP.val id n,.int .i64 0])∧New w w':=by
 obtain ⟨a1,a2,a3,a4,a5,r1,r2,r3,r4,r5,e1,e2,e3,e4,e5,e6,g1,g2,g3,g4,g5⟩:=node_parts h
 have hl:=hB.len
 rw [nodeBytes_length] at hl
 have kA:=(New.refl w).alloc (.cells #[.int .i64 0,.int .i64 0,.int .i64 0,.int .i64 0,.int .u64 0,.bool false] 28)
 have xA:=heap_alloc_new w (.cells #[.int .i64 0,.int .i64 0,.int .i64 0,.int .i64 0,.int .u64 0,.bool false] 28)
 have HN:=fun W (hW:New w W)=>Lib.hid (newReaderD_any D A m cp _ W (hB.new hW) (by omega))
 have HNR:=fun W=>Lib.hid (nright_any h W)
 unfold NodeP.val at HNR ⊢
 have HE:=Lib.hid (And.intro e1 (And.intro e2 (And.intro e3 (And.intro e4 (And.intro e5 e6)))))
 have HG:=Lib.hid (And.intro g1 (And.intro g2 (And.intro g3 (And.intro g4 g5))))
 obtain ⟨kd,ln,sz,tl,sh⟩:=n
 dsimp only at *
 clear h hB hl e1 e2 e3 e4 e5 e6 g1 g2 g3 g4 g5
 go_enter Tryz.func355,Tryz.ntmps355
 go_upto_region 1 with fail
 generalize hgp:w.heap.size=gp at *
 generalize w.alloc (.cells #[.int .i64 0,.int .i64 0,.int .i64 0,.int .i64 0,.int .u64 0,.bool false] 28)=w1 at *
 have HGP:=Lib.hid hgp
 have HX:=Lib.hid xA
 have HKA:=Lib.hid kA
 have HN1:=HN w1 kA
 clear xA kA HN hgp
 go_wp2_with fail
 refine HN1.out.mono ?_
 rintro e w2 ⟨⟨p,rfl,hp,hR⟩,k2⟩
 have hgl:gp<p:=Nat.lt_of_lt_of_le (Array.getElem?_eq_some_iff.1 HX.out).1 hp
 replace HX:=Lib.hid (k2.blockAt HX.out trivial)
 replace HKA:=Lib.hid (HKA.out.new k2)
 have hpg:New w w2:=HKA.out
 have HKE:=Lib.hid (Keep.refl (fun b=>b≠p) w2)
 have HR1:=Lib.hid (rshortD_any _ p _ w2 hR)
 rw [HE.out.1] at HR1
 dsimp only at HR1
 rw [HG.out.1] at HR1
 clear HN1 k2 hR hpg
 go_wp2_with fail
 refine HR1.out.mono ?_
 rintro e w3 ⟨rfl,hR,k3⟩
 replace HKE:=Lib.hid (HKE.out.trans k3)
 have HR2:=Lib.hid (rbyteD_any _ p _ w3 hR)
 rw [HE.out.2.1] at HR2
 dsimp only at HR2
 rw [HG.out.2.1] at HR2
 clear HR1 k3 hR
 go_wp2_with fail
 refine HR2.out.mono ?_
 rintro e w4 ⟨rfl,hR,k4⟩
 replace HKE:=Lib.hid (HKE.out.trans k4)
 have HR3:=Lib.hid (rshortD_any _ p _ w4 hR)
 rw [HE.out.2.2.1] at HR3
 dsimp only at HR3
 rw [HG.out.2.2.1] at HR3
 clear HR2 k4 hR
 go_wp2_with fail
 refine HR3.out.mono ?_
 rintro e w5 ⟨rfl,hR,k5⟩
 replace HKE:=Lib.hid (HKE.out.trans k5)
 have HR4:=Lib.hid (rshortD_any _ p _ w5 hR)
 rw [HE.out.2.2.2.1] at HR4
 dsimp only at HR4
 rw [HG.out.2.2.2.1] at HR4
 clear HR3 k5 hR
 go_wp2_with fail
 refine HR4.out.mono ?_
 rintro e w6 ⟨rfl,hR,k6⟩
 replace HKE:=Lib.hid (HKE.out.trans k6)
 have HR5:=Lib.hid (rlongD_any _ p _ w6 hR)
 rw [HE.out.2.2.2.2.1] at HR5
 dsimp only at HR5
 rw [HG.out.2.2.2.2] at HR5
 clear HR4 k6 hR
 go_wp2_with fail
 refine HR5.out.mono ?_
 rintro e w7 ⟨rfl,hR,k7⟩
 replace HKE:=Lib.hid (HKE.out.trans k7)
 have HR6:=Lib.hid (rflagD_any _ p _ _ sh w7 hR HE.out.2.2.2.2.2)
 clear HR5 k7 hR
 go_wp2_with fail
 refine HR6.out.mono ?_
 rintro e w8 ⟨rfl,hR,k8⟩
 replace HKE:=Lib.hid (HKE.out.trans k8)
 have HRD:=Lib.hid hR
 clear HR6 k8 hR
 go_upto_region 3 with fail
 have kM:=(New.refl w8).alloc (.cells #[.int .i64 id,.int .i64 kd,.int .i64 ln,.int .i64 sz,.int .u64 tl,.bool sh] 28)
 have xM:=heap_alloc_new w8 (.cells #[.int .i64 id,.int .i64 kd,.int .i64 ln,.int .i64 sz,.int .u64 tl,.bool sh] 28)
 generalize w8.alloc (.cells #[.int .i64 id,.int .i64 kd,.int .i64 ln,.int .i64 sz,.int .u64 tl,.bool sh] 28)=w9 at *
 generalize w8.heap.size=gm at *
 have HRE:=Lib.hid (rend_any _ p _ w9 (HRD.out.keep kM))
 rw [show (RdS.mk [] 0).endOf=0 from rfl] at HRE
 have HK9:Hid (Keep (fun b=>b≠p) w2 w9):=Lib.hid (HKE.out.new kM)
 have HXM:=Lib.hid xM
 obtain ⟨m0,m1,m2,m3,m4,m5⟩:=cs6 xM
 have HNR9:=HNR w9
 clear kM xM HRD HKE HNR
 go_wp2_with fail
 refine HRE.out.mono ?_
 rintro e w10 ⟨rfl,rfl⟩
 go_wp2_with fail
 refine HNR9.out.mono ?_
 rintro e w10 ⟨rfl,k10⟩
 replace HXM:=Lib.hid (k10.blockAt HXM.out trivial)
 have HXR:Hid (w10.heap[gp]?=some (.cells #[.int .i64 0,.int .i64 0,.int .i64 0,.int .i64 0,.int .u64 0,.bool false] 28 (0,0))):=Lib.hid (by
  have h1:=(HK9.out.new k10)
  exact (h1.block gp (Array.getElem?_eq_some_iff.1 HX.out).1 (by show gp≠p;omega)).trans HX.out)
 have HKW:Hid (New w w10):=Lib.hid (HKA.out.trans2 (HK9.out.new k10) fun b hb _=>by show b≠p;have:=HGP.out;omega)
 clear k10 HRE HNR9 m0 m1 m2 m3 m4 m5
 obtain ⟨m0,m1,m2,m3,m4,m5⟩:=cs6 HXM.out
 obtain ⟨d0,d1,d2,d3,d4,d5⟩:=cs6 HXR.out
 obtain ⟨z0,z1,z2,z3,z4,z5⟩:=fz6 HXR.out
 go_wp2_with fail
 clear d0 d1 d2 d3 d4 d5 z0 z1 z2 z3 z4 z5 m0 m1 m2 m3 m4 m5
 obtain ⟨hE,hKE⟩:=six_cells22 HXR.out (.int .i64 id) (.int .i64 kd) (.int .i64 ln) (.int .i64 sz) (.int .u64 tl) (.bool sh)
 generalize hwE:World.setCell _ _ _=wE at *
 have f0:wE.cell? ⟨gp,0,none⟩=some (.int .i64 id):=cellOf hE rfl
 have f1:wE.cell? ⟨gp,1,none⟩=some (.int .i64 kd):=cellOf hE rfl
 have f2:wE.cell? ⟨gp,2,none⟩=some (.int .i64 ln):=cellOf hE rfl
 have f3:wE.cell? ⟨gp,3,none⟩=some (.int .i64 sz):=cellOf hE rfl
 have f4:wE.cell? ⟨gp,4,none⟩=some (.int .u64 tl):=cellOf hE rfl
 have f5:wE.cell? ⟨gp,5,none⟩=some (.bool sh):=cellOf hE rfl
 refine bodyPost_ret (v:=.tuple #[.agg #[.int .i64 id,.int .i64 kd,.int .i64 ln,.int .i64 sz,.int .u64 tl,.bool sh],.int .i64 0]) (by simp [results,Tryz.results355,go_sem,f0,f1,f2,f3,f4,f5]) rfl ?_
 exact ⟨rfl,HKW.out.trans2 hKE fun b hb _=>by show b≠gp;have:=HGP.out;omega⟩
def rootItem:ItemP:=freshItem 2
def rootBytes:List UInt8:=(treeBytes stateNew.T).drop 2
theorem tn0:RdS.num ⟨treeBytes stateNew.T,0⟩ 2=(1,⟨rootBytes,0⟩):=by kernel_rfl
theorem tn1:RdS.lenRow ⟨rootBytes,0⟩=(nodeBytes 0 rootItem.n,⟨[0,0,0,0],0⟩):=by kernel_rfl
theorem tn2:RdS.lenRow ⟨[0,0,0,0],0⟩=([],⟨[0,0],0⟩):=by kernel_rfl
theorem tn3:RdS.num ⟨[0,0],0⟩ 2=(0,⟨[],0⟩):=by kernel_rfl
theorem root_ok:NodeOk 0 rootItem.n:=⟨by decide,by decide,by decide,.inr ⟨rfl,rfl,rfl,rfl⟩⟩
theorem rootVal:NodeP.val 0 rootItem.n=.agg #[.int .i64 0,.int .i64 2,.int .i64 1,.int .i64 0,.int .u64 0,.bool true]:=rfl
theorem tread_new {w:World}{p:Nat}(hR:RdD (fun b=>b<p) w p ⟨rootBytes,0⟩):
  Calls Tryz.prog 337 #[.pointer (some ⟨p,0,none⟩)] w fun e w'=>(∃ bi nb A cp,e=.returned (.tuple #[.pointer (some ⟨bi,0,none⟩),.bool true])∧w.heap.size≤bi∧w.heap.size≤nb∧nb<w'.heap.size∧bi≠nb∧w'.heap[bi]?=some (.cells #[.int .i64 0,.int .i64 2,.int .i64 1,.int .i64 0,.int .u64 0,.bool true,.slice A 0 cp,.map (some nb)] 221 (0,0))∧cp≤9223372036854775807∧NamesAt w' nb [])∧RdD (fun b=>b<p) w' p ⟨[],0⟩∧Keep (fun b=>b≠p) w w':=by
 have hmm:=@run_makeMap Tryz.prog
 have HR1:=Lib.hid (rbytesD_any _ p _ w hR)
 rw [tn1] at HR1
 have hpl:=hR.lt
 dsimp only at HR1
 rw [nodeBytes_length] at HR1
 clear hR
 go_enter Tryz.func337,Tryz.ntmps337
 go_wp2_with fail
 refine HR1.out.mono ?_
 rintro e w1 ⟨⟨A1,c1,rfl,o1⟩,hR,k1⟩
 have HND:=Lib.hid (ndecode_any (cp:=c1) root_ok (Row.of_own o1))
 rw [rootVal] at HND
 have HRD:=Lib.hid hR
 have HK:=Lib.hid k1
 clear HR1 hR k1 o1
 go_wp2_with fail
 refine HND.out.mono ?_
 rintro e w2 ⟨rfl,k2⟩
 replace HRD:=Lib.hid (HRD.out.keep k2)
 replace HK:=Lib.hid (HK.out.new k2)
 clear HND k2
 go_upto_region 2 with fail
 have kN:=(New.refl w2).alloc (.cells #[.int .i64 0,.int .i64 2,.int .i64 1,.int .i64 0,.int .u64 0,.bool true] 28)
 have xN:=heap_alloc_new w2 (.cells #[.int .i64 0,.int .i64 2,.int .i64 1,.int .i64 0,.int .u64 0,.bool true] 28)
 have hgp:p<w2.heap.size:=HRD.out.lt
 generalize w2.alloc (.cells #[.int .i64 0,.int .i64 2,.int .i64 1,.int .i64 0,.int .u64 0,.bool true] 28)=w3 at *
 generalize hg4:w2.heap.size=g4 at *
 have hz2:w.heap.size≤g4:=by rw [← hg4];exact HK.out.size
 replace HRD:=Lib.hid (HRD.out.keep kN)
 replace HK:=Lib.hid (HK.out.new kN)
 have HXN:=Lib.hid xN
 have r0:∀ W,Keep (fun b=>b≠p) w3.drew W→W.cell? ⟨g4,0,none⟩=some (.int .i64 0):=fun W hW=>hW.cell_some (cellOf (w:=w3.drew) HXN.out (k:=0) rfl) (by show g4≠p;omega)
 have r1:∀ W,Keep (fun b=>b≠p) w3.drew W→W.cell? ⟨g4,1,none⟩=some (.int .i64 2):=fun W hW=>hW.cell_some (cellOf (w:=w3.drew) HXN.out (k:=1) rfl) (by show g4≠p;omega)
 have r2:∀ W,Keep (fun b=>b≠p) w3.drew W→W.cell? ⟨g4,2,none⟩=some (.int .i64 1):=fun W hW=>hW.cell_some (cellOf (w:=w3.drew) HXN.out (k:=2) rfl) (by show g4≠p;omega)
 have r3:∀ W,Keep (fun b=>b≠p) w3.drew W→W.cell? ⟨g4,3,none⟩=some (.int .i64 0):=fun W hW=>hW.cell_some (cellOf (w:=w3.drew) HXN.out (k:=3) rfl) (by show g4≠p;omega)
 have r4:∀ W,Keep (fun b=>b≠p) w3.drew W→W.cell? ⟨g4,4,none⟩=some (.int .u64 0):=fun W hW=>hW.cell_some (cellOf (w:=w3.drew) HXN.out (k:=4) rfl) (by show g4≠p;omega)
 have r5:∀ W,Keep (fun b=>b≠p) w3.drew W→W.cell? ⟨g4,5,none⟩=some (.bool true):=fun W hW=>hW.cell_some (cellOf (w:=w3.drew) HXN.out (k:=5) rfl) (by show g4≠p;omega)
 have HRB:=Lib.hid (rbytesD_any _ p _ w3.drew (HRD.out.keep (Keep.drew (New.refl w3))))
 rw [tn2] at HRB
 dsimp only at HRB
 rw [show (([]:List UInt8)).length=0 from rfl] at HRB
 clear kN xN
 refine hold_beginS (Keep (fun b=>b≠p) w3.drew) (by kernel_rfl) ?_
 have n0:Keep (fun b=>b≠p) w3.drew w3.drew:=Keep.refl _ _
 refine take0 0 n0 ?_
 refine take0 1 n0 ?_
 refine hold_step0 (i:=2) (by kernel_rfl) rfl rfl (fun K hK=>?_)
 (go_simp;refine HRB.out.mono ?_)
 (rintro e w4 ⟨⟨A4,c4,rfl,o4⟩,hR4,k4⟩;go_wp2_with fail)
 have n1:=n0.trans k4
 refine hK.out _ _ n1 ?_
 clear hK K
 try simp only [Act.put,ly1,ly2,ly3,ly4,ly5,ly6]
 replace n0:=n1
 clear n1
 refine take0 3 n0 ?_
 have H4:=Lib.hid (And.intro (own_capMax o4) hR4)
 have kI:=(New.refl w4).alloc (.cells #[.int .i64 0,.int .i64 2,.int .i64 1,.int .i64 0,.int .u64 0,.bool true,.slice A4 0 c4,.map none] 221)
 clear o4 hR4
 refine hold_step0 (i:=4) (by kernel_rfl) rfl rfl (fun K hK=>?_)
 go_simp
 go_wp2_with fail
 have n1:=Keep.new n0 kI
 refine hK.out _ _ n1 ?_
 clear hK K
 try simp only [Act.put,ly1,ly2,ly3,ly4,ly5,ly6]
 replace n0:=n1
 clear n1
 refine take0 5 n0 ?_
 refine wpAnyH_done (by kernel_rfl) ?_ _
 have xI:=heap_alloc_new w4 (.cells #[.int .i64 0,.int .i64 2,.int .i64 1,.int .i64 0,.int .u64 0,.bool true,.slice A4 0 c4,.map none] 221)
 generalize w4.alloc (.cells #[.int .i64 0,.int .i64 2,.int .i64 1,.int .i64 0,.int .u64 0,.bool true,.slice A4 0 c4,.map none] 221)=w5 at *
 generalize hbi:w4.heap.size=bi at *
 have HK5:=Lib.hid (HK.out.trans (Keep.trans (Keep.drew (Keep.refl _ w3)) n0))
 have hzb:g4<bi:=by
  have h1:=(Keep.trans (Keep.drew (Keep.refl (fun b=>b≠p) w3)) k4).size
  have h2:=(Array.getElem?_eq_some_iff.1 HXN.out).1
  omega
 have HX5:=Lib.hid xI
 have HRD5:=Lib.hid (H4.out.2.keep kI)
 replace HXN:=Lib.hid ((Keep.trans (Keep.drew (Keep.refl (fun b=>b≠p) w3)) n0).block g4 (Array.getElem?_eq_some_iff.1 HXN.out).1 (by show g4≠p;omega) |>.trans HXN.out)
 clear r0 r1 r2 r3 r4 r5 n0 kI xI k4 HRB HRD HK
 have y6:∀ m,(w5.drewN m).cell? ⟨bi,6,none⟩=some (.slice A4 0 c4):=fun m=>cellOf (w:=w5.drewN m) HX5.out (k:=6) rfl
 have y3:∀ m,(w5.drewN m).cell? ⟨g4,3,none⟩=some (.int .i64 0):=fun m=>cellOf (w:=w5.drewN m) HXN.out (k:=3) rfl
 go_upto_region 3 with fail
 go_quiet (fail)
 have kq:=(New.refl w5).drewN nq
 generalize w5.drewN nq=w6 at *
 have HK6:=Lib.hid (HK5.out.new kq)
 replace HX5:=Lib.hid (kq.blockAt HX5.out trivial)
 replace HXN:=Lib.hid (kq.blockAt HXN.out trivial)
 have HR6:=Lib.hid (rshortD_any _ p _ w6 (HRD5.out.keep kq))
 rw [tn3] at HR6
 dsimp only at HR6
 clear kq y6 y3 HRD5 HK5
 go_wp2_with fail
 refine HR6.out.mono ?_
 rintro e w7 ⟨rfl,hR7,k7⟩
 have HRD:=Lib.hid hR7
 have HK7:=Lib.hid (HK6.out.trans k7)
 replace HX5:=Lib.hid ((k7.block bi (Array.getElem?_eq_some_iff.1 HX5.out).1 (by show bi≠p;omega)).trans HX5.out)
 replace HXN:=Lib.hid ((k7.block g4 (Array.getElem?_eq_some_iff.1 HXN.out).1 (by show g4≠p;omega)).trans HXN.out)
 have n1:=cellOf HXN.out (k:=1) rfl
 clear HR6 hR7 k7
 go_upto_region 8 with fail
 have kM:=(New.refl w7).alloc (.map #[] 0)
 have mM:=names_made w7
 have hbl:bi<w7.heap.size:=(Array.getElem?_eq_some_iff.1 HX5.out).1
 have xI:=kM.blockAt HX5.out trivial
 have y7:=cellOf xI (k:=7) rfl
 have z7:=frozenOf xI 7
 go_upto_region 9 with fail
 clear y7 z7
 clear xI kM mM
 have xS:=setCell_block HX5.out 7 (.map (some w7.heap.size))
 have kS:=(Keep.refl (fun b=>b≠bi) w7).setCell (p:=⟨bi,7,none⟩) (fun hd=>absurd rfl hd) (.map (some w7.heap.size))
 have hS:(w7.setCell ⟨bi,7,none⟩ (.map (some w7.heap.size))).heap.size=w7.heap.size:=by simp
 generalize hnb:w7.heap.size=nb at *
 generalize w7.setCell ⟨bi,7,none⟩ (.map (some nb))=w8 at *
 have mM:=names_made w8
 have kM:=(New.refl w8).alloc (.map #[] 0)
 have xS':w8.heap[bi]?=some (.cells #[.int .i64 0,.int .i64 2,.int .i64 1,.int .i64 0,.int .u64 0,.bool true,.slice A4 0 c4,.map (some nb)] 221 (0,0)):=xS
 have xS2:=kM.blockAt xS' trivial
 rw [hS] at mM
 generalize w8.alloc (.map #[] 0)=w9 at *
 have HF:=Lib.hid (And.intro xS2 mM)
 have hz7:w.heap.size≤nb:=by rw [← hnb];exact HK7.out.size
 have HK9:Hid (Keep (fun b=>b≠p) w w9):=Lib.hid ((HK7.out.trans2 kS fun b hb _=>by show b≠bi;omega).new kM)
 have HR9:Hid (RdD (fun b=>b<p) w9 p ⟨[],0⟩):=Lib.hid ((HRD.out.keepE kS (by show p≠bi;omega) fun b _ hb=>by show b≠bi;omega).keep kM)
 have hnbl:nb<w9.heap.size:=mM.lt
 clear hS
 clear kM mM xS xS' xS2 kS HRD HX5 HXN HK7 n1
 go_wp2_with fail
 go_loopw [46] (fun s46 wx=>s46=.int .i64 0∧wx=w9) (fun _ _=>0)
 case atStart=>exact ⟨rfl,rfl⟩
 case round =>
  obtain ⟨rfl,rfl⟩:=hrel
  go_wp2_with fail
  refine bodyPost_ret (v:=.tuple #[.pointer (some ⟨bi,0,none⟩),.bool true]) (by simp [results,Tryz.results337,go_sem]) rfl ?_
  exact ⟨⟨bi,nb,A4,c4,rfl,by omega,hz7,hnbl,by omega,HF.out.1,H4.out.1,HF.out.2⟩,HR9.out,HK9.out⟩
theorem links_new {w:World}{c:Col}{j bt:Nat}{q:TreeB}(h:TreeAt w c j bt q stateNew.T) (cm:Nat):
  Calls Tryz.prog 356 #[.pointer (some ⟨bt,0,none⟩),.int .i64 0,.int .i64 0,.map (some cm)] w fun e w'=>e=.returned (.bool true)∧New w w':=by
 have hlk:=(h.look (id:=0) (by decide) (by decide)).2
 rw [show getK stateNew.T 0=some rootItem from rfl] at hlk
 simp only [Option.elim_some] at hlk
 have c0:w.cell? ⟨bt,0,none⟩=some (.map (some q.bm)):=cellOf h.tree (k:=0) rfl
 have hi:=h.item 0 rootItem rfl
 obtain ⟨A,cp,-,-,-,-,-,-,-,x7,-⟩:=node_cells hi
 rw [if_pos (show rootItem.n.kind=2 from rfl)] at x7
 obtain ⟨h0,E,hown,hsh⟩:=(hi.names rfl).2
 have HS:=Lib.hid (shows_size hown hsh h0)
 rw [show rootItem.names.length=0 from rfl] at HS
 clear h hi h0 hsh
 go_enter Tryz.func356,Tryz.ntmps356
 go_wp2_with (first
  | (at_range;refine wpList_range_own _ rfl _ 219 rfl 9 3 keyS Tryz.underlying219 _ (q.γ 0) 0 _ rfl hown ?_;intro w0 hrg0 hg0 hs0)
  | fail)
 have HG:=Lib.hid (And.intro hrg0 hg0)
 clear hrg0 hg0 c0 x7 hlk
 try simp only [Act.put,ly4,ly5,ly6]
 go_loopw [] (fun wr=>wr=w0) (fun _=>0)
 case atStart=>rfl
 case round =>
  subst hrel
  go_wp2_with (first
   | (at_next;refine wpList_next_ranges _ rfl _ rfl 9 keyS heldR (fun v:Value=>v) (fun c:Value=>c) (fun key _ _=>⟨key,rfl⟩) (fun v y hv=>⟨v,rfl⟩) (q.γ 0) w.heap.size 0 _ _ _ rfl HG.out.1 ?_ ?_)
   | fail)
  ·intro _ _
   go_wp2_with fail
   go_ret
   exact ⟨rfl,grown_new HG.out.2 (fun k e=>by cases e)⟩
  ·intro x cv kl y ps w1 cnt1 hkey hlk hRv hat hrg1 hlt1 hg1 hs1 hen
   exact absurd hlt1 (by rw [HS.out];exact Nat.not_lt_zero _)
theorem tright_new {w:World}{c:Col}{j bt:Nat}{q:TreeB}(h:TreeAt w c j bt q stateNew.T):
  Calls Tryz.prog 338 #[.pointer (some ⟨bt,0,none⟩)] w fun e w'=>e=.returned (.bool true)∧New w w':=by
 have hmm:=@run_makeMap Tryz.prog
 have hlk:=(h.look (id:=0) (by decide) (by decide)).1
 rw [show getK stateNew.T 0=some rootItem from rfl] at hlk
 simp only [Option.elim_some,Option.isSome_some] at hlk
 have hln:=h.own.len Tryz.underlying211 3
 rw [show (stateNew.T.length:Int)=1 from rfl] at hln
 have c0:w.cell? ⟨bt,0,none⟩=some (.map (some q.bm)):=cellOf h.tree (k:=0) rfl
 have hi:=h.item 0 rootItem rfl
 obtain ⟨A,cp,-,x1,x2,-,-,x5,-,-,-⟩:=node_cells hi
 have H:=Lib.hid h
 have k1:=(New.refl w).alloc (.map #[] 0)
 have m1:=MapIs.made (κ:=Int) (α:=Int) w (fun _ n=>.int .i64 n)
 obtain ⟨w2,hrun,m2,k2,z2⟩:=m1.store Tryz.underlying426 (by decide) (k:=0) (wf0 (by decide) (by decide)) (1:Int)
 replace hrun:(Instr.mapUpdate 426 (.map (some w.heap.size)) (.int .i64 0) (.int .i64 1)).run Tryz.prog (w.alloc (.map #[] 0))=.ok () w2:=hrun
 have HM:=Lib.hid (And.intro k1 (And.intro m2 (And.intro k2 z2)))
 clear h hi m1 k1 m2 k2 z2
 go_enter Tryz.func338,Tryz.ntmps338
 go_wp2_with fail
 have kw2:New w w2:=HM.out.1.trans2 HM.out.2.2.1 fun b hb _=>by show b≠w.heap.size;omega
 have HL:=Lib.hid (links_new (H.out.new kw2) w.heap.size)
 have hcm:w.heap.size<w2.heap.size:=HM.out.2.1.lt
 have HK2:=Lib.hid kw2
 clear hlk hln c0 x1 x2 x5 hrun kw2 hmm
 refine HL.out.mono ?_
 rintro e w3 ⟨rfl,k3⟩
 have hT3:=H.out.new (HK2.out.new k3)
 have hM3:MapIs w3 w.heap.size (fun (_:Int) (n:Int)=>.int .i64 n) (putK (0:Int) (1:Int) []):=HM.out.2.1.new k3
 obtain ⟨h0,E,hown,hsh⟩:=hT3.own
 have HT3:=Lib.hid hT3
 have HS:=Lib.hid hsh
 have HM3:=Lib.hid hM3
 have HK3:=Lib.hid (HK2.out.new k3)
 have c0:w3.cell? ⟨bt,0,none⟩=some (.map (some q.bm)):=cellOf hT3.tree (k:=0) rfl
 clear HL k3 hT3 hM3 h0 hsh
 go_wp2_with (first
  | (at_range;refine wpList_range_own _ rfl _ 211 rfl 3 209 keyI Tryz.underlying211 _ q.bm _ _ rfl hown ?_;intro w0 hrg0 hg0 hs0)
  | fail)
 try simp only [Act.put,ly4,ly5,ly6]
 have HG:=Lib.hid (And.intro hrg0 hg0)
 clear hrg0 hg0 c0
 go_loopw [] (fun wr=>∃ (left:Lit→Bool) (cnt:Nat),wr.ranges Tryz.prog 3 heldR q.bm w3.heap.size stateNew.T.length E left cnt∧(∀ kl,left kl=true→Maps.has E kl=true)∧Keep (fun b=>b<w3.heap.size) w3 wr) (fun wr=>wr.rangeLeft q.bm w3.heap.size)
 case atStart=>exact ⟨_,_,HG.out.1,fun _ h=>h,Keep.of_new (grown_new HG.out.2 (fun k e=>by cases e))⟩
 case round =>
  obtain ⟨left,cnt,hrg,hle,hK⟩:=hrel
  have HR:=Lib.hid (And.intro hle hK)
  have HRG:=Lib.hid hrg
  go_wp2_with (first
   | (at_next;refine wpList_next_ranges _ rfl _ rfl 3 keyI heldR (Value.int .i64) (fun c:Value=>c) (fun key kl hkey=>by obtain ⟨x,rfl,_⟩:=Maps.keyOf_int_inv Tryz.underlying3 hkey;exact ⟨x,rfl⟩) (fun v y hv=>⟨v,rfl⟩) q.bm w3.heap.size _ _ _ _ rfl hrg ?_ ?_)
   | fail)
  ·intro _ _
   clear hrg hle hK
   go_wp2_with fail
   go_ret
   exact ⟨rfl,HK3.out.new (HR.out.2.toNew fun b hb=>hb)⟩
  ·intro x cv kl y ps w1 cnt1 hkey hlk hRv hat hrg1 hlt1 hg1 hs1 hen
   obtain ⟨x',ex,rfl,hwx⟩:=Maps.keyOf_int_inv Tryz.underlying3 hkey
   obtain rfl:x'=x:=by injection ex with _ e;exact e.symm
   have hy:y=.held cv:=by injection hRv with hRv;injection hRv with hRv;exact hRv.symm
   subst hy
   have hhas:=hle _ hlk
   obtain ⟨it,hgt⟩:∃ it,getK stateNew.T x'=some it:=by
    cases hg:getK stateNew.T x' with
    | none=>have:=(HS.out x').1 hg;rw [show (KeyL.lit x':Lit)=.int .i64 x' from rfl] at this;rw [this] at hhas;cases hhas
    | some it=>exact ⟨it,rfl⟩
   have hx0:x'=0:=by
    have:stateNew.T=[(0,rootItem)]:=rfl
    rw [this] at hgt
    unfold getK at hgt
    split at hgt
    ·rename_i e;exact e.symm
    ·cases hgt
   subst hx0
   have hcv:cv=.pointer (some ⟨q.β 0,0,none⟩):=by
    have:=(hat .nil).symm.trans (((HS.out 0).2 it hgt).2 .nil)
    injection this
   subst hcv
   have hKr:Keep (fun b=>b≠w3.heap.size) wr w1:=⟨hg1.os,hg1.tape,hg1.output,hg1.size,fun j hj hd=>hg1.block j hj (fun e=>hd (by injection e))⟩
   have hKw:Keep (fun b=>b<w3.heap.size) w3 w1:=hK.trans2 hKr fun b hb _=>by show b≠w3.heap.size;omega
   have HKw:=Lib.hid hKw
   have HRG1:=Lib.hid (And.intro hrg1 hlt1)
   have hlt3:w.heap.size<w3.heap.size:=HM3.out.lt
   have l1:∀ m,(Instr.lookup 426 (.map (some w.heap.size)) (.int .i64 0) false).run Tryz.prog (w1.drewN m)=.ok (.int .i64 1) (w1.drewN m):=fun m=>by
    have:=((HM3.out.keep (hKw.drewN m) hlt3).look Tryz.underlying426 (zero_int _) (k:=0) (wf0 (by decide) (by decide))).2
    exact this
   obtain ⟨A,cp,-,x1,x2,-,-,x5,-,-,-⟩:=node_cells (HT3.out.item 0 rootItem rfl)
   have hbl:=(HT3.out.item 0 rootItem rfl).lt
   have y2:∀ m,(w1.drewN m).cell? ⟨q.β 0,2,none⟩=some (.int .i64 1):=fun m=>(hKw.drewN m).cell_some x2 hbl
   have y5:∀ m,(w1.drewN m).cell? ⟨q.β 0,5,none⟩=some (.bool true):=fun m=>(hKw.drewN m).cell_some x5 hbl
   clear hkey hRv hat hrg1 hlt1 hg1 hs1 hhas hgt hKr hKw hle hK hrg hlk hwx x1 x2 x5
   go_upto_region 10 with fail
   go_quiet (fail)
   go_wp2_with fail
   refine ⟨⟨fun z=>left z && !z.sameKey (Lit.int IntKind.i64 0),cnt1,HRG1.out.1,fun kl h=>HR.out.1 kl (by rw [Bool.and_eq_true] at h;exact h.1),HKw.out.drewN nq⟩,?_⟩
   have e1:=HRG1.out.1.left_eq
   have e2:=HRG.out.left_eq
   show w1.rangeLeft q.bm w3.heap.size<_
   rw [e1,e2]
   exact HRG1.out.2
theorem tload_new:LoadsT stateNew.T:=by
 intro w c j hj D A n cp hB hc hc9
 have hmm:=@run_makeMap Tryz.prog
 have hl:=hB.len
 have hn:n=24:=by rw [← hl];kernel_rfl
 have HN:=Lib.hid (newReaderD_any D A n cp _ w hB (by omega))
 have HJ:=Lib.hid hj
 clear hB hl hn hc hc9 hj
 go_enter Tryz.func304,Tryz.ntmps304
 go_wp2_with fail
 refine HN.out.mono ?_
 rintro e w1 ⟨⟨p,rfl,hp,hR⟩,k1⟩
 have HRD:=Lib.hid hR
 have HK:=Lib.hid k1
 have hpl:=hR.lt
 clear HN hR k1
 go_upto_region 3 with fail
 have m1:=MapIs.made (κ:=Int) (α:=ItemP) w1 (fun _ _=>.pointer (some ⟨0,0,none⟩))
 have kA:=(New.refl w1).alloc (.map #[] 0)
 have z2:(w1.alloc (.map #[] 0)).heap.size=w1.heap.size+1:=by simp
 generalize hbm:w1.heap.size=bm at *
 generalize w1.alloc (.map #[] 0)=w2 at *
 have kB:=(New.refl w2).alloc (.cells #[.map (some bm)] 213)
 have xB:=heap_alloc_new w2 (.cells #[.map (some bm)] 213)
 have z3:(w2.alloc (.cells #[.map (some bm)] 213)).heap.size=w2.heap.size+1:=by simp
 rw [z2] at xB z3
 generalize w2.alloc (.cells #[.map (some bm)] 213)=w3 at *
 have hwb:w.heap.size≤bm:=by rw [← hbm];exact HK.out.size
 have HR1:=Lib.hid (rshortD_any _ p _ w3 ((HRD.out.keep kA).keep kB))
 rw [tn0] at HR1
 dsimp only at HR1
 have HB:=Lib.hid (And.intro xB (And.intro (m1.new kB) (HK.out.new (kA.new kB))))
 have HZ3:=Lib.hid z3
 clear kA kB xB m1 z2 z3 hbm HRD HK
 go_wp2_with fail
 refine HR1.out.mono ?_
 rintro e w4 ⟨rfl,hR4,k4⟩
 have HRD:=Lib.hid hR4
 have HK4:=Lib.hid (HB.out.2.2.trans2 k4 fun b hb _=>by show b≠p;omega)
 have HX4:Hid (w4.heap[bm+1]?=some (.cells #[.map (some bm)] 213 (0,0))∧MapIs w4 bm (fun (_:Int) (_:ItemP)=>.pointer (some ⟨0,0,none⟩)) []):=Lib.hid ⟨(k4.block (bm+1) (Array.getElem?_eq_some_iff.1 HB.out.1).1 (by show bm+1≠p;omega)).trans HB.out.1,HB.out.2.1.keep k4 (by show bm≠p;omega)⟩
 have hz4:bm+2≤w4.heap.size:=by have:=k4.size;have:=HZ3.out;omega
 clear HR1 hR4 k4 HB
 go_wp2_with fail
 go_loopw [6,16] (fun s6 s16 wx=>(s6=.int .i64 (-1)∧s16=.int .i64 0∧wx=w4)∨(s6=.int .i64 0∧s16=.int .i64 1∧New w wx∧RdD (fun b=>b<p) wx p ⟨[],0⟩∧∃ q,TreeAt wx (c.on w.heap.size fun _=>j) j (bm+1) q stateNew.T)) (fun _ s16 _=>1-(intOf s16).toNat)
 case atStart=>exact .inl ⟨rfl,rfl,rfl⟩
 case round =>
  rcases hrel with ⟨rfl,rfl,rfl⟩|⟨rfl,rfl,hK,hR,q,hT⟩
  ·have HRN:=Lib.hid (tread_new HRD.out)
   go_wp2_with fail
   refine HRN.out.mono ?_
   rintro e w5 ⟨⟨bi,nb,A5,cp5,rfl,hbi,hnb,hnbl,hne,hx5,hcp5,hn5⟩,hR5,k5⟩
   have t5:w5.heap[bm+1]?=some (.cells #[.map (some bm)] 213 (0,0)):=(k5.block (bm+1) (Array.getElem?_eq_some_iff.1 HX4.out.1).1 (by show bm+1≠p;omega)).trans HX4.out.1
   have m5:MapIs w5 bm (fun (_:Int) (_:ItemP)=>.pointer (some ⟨bi,0,none⟩)) []:=(HX4.out.2.keep k5 (by show bm≠p;omega)).fn fun k x h=>by cases h
   obtain ⟨w6,hrun,m6,k6,z6⟩:=m5.store Tryz.underlying211 (by decide) (k:=0) (wf0 (by decide) (by decide)) rootItem
   replace hrun:(Instr.mapUpdate 211 (.map (some bm)) (.int .i64 0) (.pointer (some ⟨bi,0,none⟩))).run Tryz.prog w5=.ok () w6:=hrun
   have c5:=cellOf t5 (k:=0) rfl
   have i5:=cellOf hx5 (k:=0) rfl
   have hbl5:bi<w5.heap.size:=(Array.getElem?_eq_some_iff.1 hx5).1
   have x6:=(k6.block bi hbl5 (by show bi≠bm;omega)).trans hx5
   have t6:=(k6.block (bm+1) (Array.getElem?_eq_some_iff.1 t5).1 (by show bm+1≠bm;omega)).trans t5
   have n6:=MapIs.keep hn5 k6 (by show nb≠bm;omega)
   have HF:Hid (New w w6∧RdD (fun b=>b<p) w6 p ⟨[],0⟩∧∃ q,TreeAt w6 (c.on w.heap.size fun _=>j) j (bm+1) q stateNew.T):=Lib.hid ⟨(HK4.out.trans2 k5 fun b hb _=>by show b≠p;omega).trans2 k6 fun b hb _=>by show b≠bm;omega,hR5.keepE k6 (by show p≠bm;omega) fun b _ hb=>by show b≠bm;omega,⟨bm,fun _=>bi,fun _=>nb⟩,by
    have hon:∀ b,w.heap.size≤b→(c.on w.heap.size fun _=>j) b=j:=fun b hb=>c.on_new _ hb
    refine ⟨t6,m6,fun k it hg=>?_,⟨hon _ (by omega),hon _ hwb⟩,fun k k' it it' h1 h2 h3=>?_,fun k it _ _=>by show nb≠bm;omega⟩
    ·have h0:k=0∧it=rootItem:=by
      rw [show stateNew.T=[(0,rootItem)] from rfl] at hg
      unfold getK at hg
      split at hg
      ·rename_i e;injection hg with hg;exact ⟨e.symm,hg.symm⟩
      ·cases hg
     obtain ⟨rfl,rfl⟩:=h0
     exact ⟨hon bi (by omega),⟨A5,cp5,x6,Nat.zero_le _,hcp5,⟨by simp [rootItem,freshItem],fun h=>absurd h (by simp [rootItem,freshItem])⟩⟩,fun _=>⟨hon nb (by omega),n6⟩,fun _=>rfl⟩
    ·exfalso
     have hz:∀ k it,getK stateNew.T k=some it→k=0:=fun k it hg=>by
      rw [show stateNew.T=[(0,rootItem)] from rfl] at hg
      unfold getK at hg
      split at hg
      ·rename_i e;exact e.symm
      ·cases hg
     exact h3 ((hz k it h1).trans (hz k' it' h2).symm)⟩
   clear HRN hx5 hn5 hR5 k5 t5 m5 m6 k6 z6 x6 t6 n6 hbi hnb hnbl hne hbl5
   go_wp2_with fail
   go_roundw
   case rel=>exact .inr ⟨rfl,by go_num,HF.out⟩
   case measure=>simp [intOf]
  ·have HRE:=Lib.hid (rend_any _ p _ wr hR)
   rw [show (RdS.mk [] 0).endOf=0 from rfl] at HRE
   have HRI:=Lib.hid (tright_new hT)
   have HT:=Lib.hid (And.intro hK hT)
   clear hR hK hT
   go_wp2_with fail
   refine HRE.out.mono ?_
   rintro e w7 ⟨rfl,rfl⟩
   go_wp2_with fail
   refine HRI.out.mono ?_
   rintro e w8 ⟨rfl,k8⟩
   have HF:=Lib.hid (And.intro (HT.out.1.new k8) (HT.out.2.new k8))
   clear k8 HRI HRE
   go_wp2_with fail
   refine bodyPost_ret (v:=.tuple #[.pointer (some ⟨bm+1,0,none⟩),.int .i64 0]) (by simp [results,Tryz.results304,go_sem]) rfl ?_
   exact ⟨bm+1,q,c.on w.heap.size fun _=>j,rfl,HF.out.1,by omega,c.on_ext w _,HF.out.2⟩
end Go.Proofs.YtdodbdednpnddaaGreatDoor
