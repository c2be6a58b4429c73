/-
  PROVED HERE: what mount.Format does to a disk; conditions: an id of 16 bytes, no more than 1000 sectors.
-/
import Derived.Test.YtdodbdednpnddaaGreatDoorPkT28
set_option maxRecDepth 100000
set_option maxHeartbeats 4000000
namespace Go.Proofs.YtdodbdednpnddaaGreatDoor
open Go.RowKit
def fmtMark (id:List UInt8) (gen:Int):MarkP:=⟨gen,0,0,genesisOf id,stBytes stateNew⟩
def fmtDirt (M:Dirt) (k:Nat) (id:List UInt8):Nat→Dirt
 | 0=>dirtRows (dirtRows M 0 1 (superBytes k id)) 1 (k-1) (List.replicate ((k-1)*128) 0)
 | j+1=>dirtRows (fmtDirt M k id j) (1+(((j+1:Nat):Int)%2).toNat*(k/4)) (k/4) (pointBytes ((k/4:Nat):Int) (fmtMark id ((j+1:Nat):Int)))
theorem stNew_length:(stBytes stateNew).length=51:=by decide
theorem fmtMark_ok {id:List UInt8}{p g:Nat}{gen:Nat}(h1:1≤gen) (h2:gen≤2) (hp:16≤p):MarkOk p g (fmtMark id gen)∧(fmtMark id gen).data.length≤128*p-94∧(fmtMark id gen).data.length=51:=by
 have e:(fmtMark id gen).data.length=51:=stNew_length
 refine ⟨⟨⟨?_,?_⟩,⟨by show (0:Int)≤0;omega,by show (0:Int)≤1099511627776;omega⟩,⟨by show (0:Int)≤0;omega,by show (0:Int)≤g;omega⟩,shaSum_length _⟩,?_,e⟩
 ·show (1:Int)≤gen;omega
 ·show (gen:Int)≤1099511627776;omega
 ·rw [e];omega
theorem mformat_any {w:World}{D:Nat→Prop}{q:DiskB}{S:List UInt8}{M:Dirt}{n:Nat}{wr0:Int}{k:Nat}(h:DiskAt w D q S M n wr0) (hk:S.length=k*128) (hk0:64≤k) (hk1:k≤1000) (hD:∀ b,w.heap.size≤b→D b) (hn:n≤100000)
  {D1:Nat→Prop} {A:Option Addr} {c:Nat} {id:List UInt8} (hM:∀ (i:Nat) b,fmtDirt M k id 2 i=some b→i*128+128≤S.length) (hid:Bs w D1 A 16 id) (hD1:∀ b,D1 b→b≠q.bd∧b≠q.bm) (hc:16≤c):
  Calls Tryz.prog 57 #[.pointer (some ⟨q.bd,0,none⟩),.slice A 16 c] w fun e w'=>e=.returned (.int .i64 0)∧Keep (fun j=>j≠q.bd∧j≠q.bs∧j≠q.bm) w w' ∧
   ∃ wr',DiskAt w' D q (flushed S (fmtDirt M k id 2)) Dirt.no 0 wr':=by
 obtain ⟨p,hp⟩:∃ p,p=k/4:=⟨_,rfl⟩
 obtain ⟨g,hg⟩:∃ g,g=(k-1-2*p)/8:=⟨_,rfl⟩
 obtain ⟨k1,hk1'⟩:∃ k1,k1=k-1:=⟨_,rfl⟩
 have hplan:planOf (k:Int)=((k:Int),(p:Int),(g:Int),0):=by
  rw [planOf_mid (by omega) (by omega)]
  have e1:(k:Int)/4=(p:Int):=by omega
  have e2:((k:Int)-1-2*(p:Int))/8=(g:Int):=by omega
  rw [e1,e2]
 have hright:planRight (k:Int) p g=true:=planRight_iff.2 (by omega)
 have hpb:16≤p∧p≤250:=by omega
 have HOF:=fun W=>Lib.hid (of21_any (k:Int) (by omega) W)
 rw [hplan] at HOF
 dsimp only at HOF
 have hF0:fmtDirt M k id 0=dirtRows (dirtRows M 0 1 (superBytes k id)) 1 k1 (List.replicate (k1*128) 0):=by rw [hk1'];rfl
 have hFS:∀ j,fmtDirt M k id (j+1)=dirtRows (fmtDirt M k id j) (1+(((j+1:Nat):Int)%2).toNat*p) p (pointBytes (p:Int) (fmtMark id ((j+1:Nat):Int))):=fun j=>by rw [hp];rfl
 have HFD:=Lib.hid (And.intro hF0 hFS)
 have HDK:=Lib.hid h.lt
 have HID:=Lib.hid hid
 have HH:=Lib.hid (And.intro hk (And.intro hD (And.intro hM (And.intro hD1 (And.intro hn (And.intro hright hpb))))))
 have HSEC:=fun W (w0:World) (S0:List UInt8) (M0:Dirt) (n0:Nat) (wr1:Int) (hd:DiskAt W D q S0 M0 n0 wr1) (hs:S0.length=k*128)=>Lib.hid (sectors_any hd hs)
 have HD:=Lib.hid h
 have HK1:=Lib.hid (And.intro hk1' (And.intro hk0 hk1))
 have HNE:=Lib.hid h.ne
 obtain ⟨FD,hFDe⟩:∃ FD,FD=fmtDirt M k id:=⟨_,rfl⟩
 rw [← hFDe] at HFD HH ⊢
 clear h hk hid hD hM hD1 hn hright hplan hF0 hFS hp hg hk1' hFDe
 go_enter Tryz.func57,Tryz.ntmps57
 go_wp2_with fail
 refine (HSEC _ w _ _ _ _ HD.out HH.out.1).out.mono ?_
 rintro e w1 ⟨rfl,rfl⟩
 go_wp2_with fail
 refine (super_any (n:=(k:Int)) (c:=c) (by omega) (by omega) HID.out).mono ?_
 rintro e w1 ⟨⟨As,cs,rfl,os⟩,k1_⟩
 have HK1w:=Lib.hid k1_
 have HOS:=Lib.hid os
 clear k1_ os
 go_wp2_with fail
 refine (HSEC _ w _ _ _ _ (HD.out.new HK1w.out) HH.out.1).out.mono ?_
 rintro e w2 ⟨rfl,rfl⟩
 go_wp2_with fail
 refine (HOF _).out.mono ?_
 rintro e w2 ⟨rfl,k2⟩
 go_upto_region 7 with fail
 have kA:=(New.refl w2).alloc (.cells #[.int .i64 k,.int .i64 p,.int .i64 g] 33)
 have xA:=heap_alloc_new w2 (.cells #[.int .i64 k,.int .i64 p,.int .i64 g] 33)
 generalize w2.alloc (.cells #[.int .i64 k,.int .i64 p,.int .i64 g] 33)=w3 at *
 obtain ⟨gp,hgp⟩:∃ gp,gp=w2.heap.size:=⟨_,rfl⟩
 rw [← hgp] at xA ⊢
 have HX3:=Lib.hid xA
 have HK3:=Lib.hid ((HK1w.out.new k2).new kA)
 have HOS3:=Lib.hid ((Row.of_own HOS.out).new (k2.new kA))
 have HCS:=Lib.hid (And.intro (own_cap HOS.out) (own_capMax HOS.out))
 have HGP:=Lib.hid (show w.heap.size≤gp by have:=HK1w.out.size;have:=k2.size;omega)
 clear k2 kA xA hgp HOF HOS
 have HL1:=Lib.hid (mlay_any (first:=0) (m:=1) (HD.out.new HK3.out) HH.out.1 (fun b hb=>HH.out.2.1 b (Nat.le_trans HK3.out.size hb)) (by omega) (by have:=HH.out.2.2.2.2.1;omega) (by decide) (by decide) As cs _ HOS3.out (by have:=HCS.out;omega) (by have:=HCS.out;omega) (fun j hj=>⟨fun e=>by have:=HDK.out q.bd (.inl rfl);omega,fun e=>by have:=HDK.out q.bm (.inr (.inr rfl));omega⟩))
 rw [Nat.one_mul] at HL1
 go_wp2_with fail
 refine HL1.out.mono ?_
 rintro e w4 ⟨rfl,k4,wr4,hd4⟩
 have HK4:=Lib.hid ((Keep.of_new (D:=fun j=>j≠q.bd∧j≠q.bm) HK3.out).trans k4)
 have HD4:=Lib.hid hd4
 have HX4:=Lib.hid ((k4.block gp (Array.getElem?_eq_some_iff.1 HX3.out).1 ⟨fun e=>by have:=HDK.out q.bd (.inl rfl);have:=HGP.out;omega,fun e=>by have:=HDK.out q.bm (.inr (.inr rfl));have:=HGP.out;omega⟩).trans HX3.out)
 clear k4 hd4 HL1
 go_wp2_with fail
 refine (HSEC _ w _ _ _ _ HD4.out HH.out.1).out.mono ?_
 rintro e w5 ⟨rfl,rfl⟩
 obtain ⟨zn,hzn⟩:∃ zn,zn=k1*128:=⟨_,rfl⟩
 have HZN:=Lib.hid hzn
 have q5:IntKind.i64.wrap ((k:Int)-1)=(k:Int)-1:=IntWalk.i64_in _ (by omega)
 have q6:IntKind.i64.wrap (128*((k:Int)-1))=(zn:Int):=by rw [IntWalk.i64_in _ (by omega)];have:=HK1.out;omega
 obtain ⟨Zc,hZc⟩:∃ Z,Z=((List.replicate zn (0:UInt8)).map byteVal).toArray:=⟨_,rfl⟩
 have hmk:∀ W,(Instr.makeSlice 24 (.int .i64 (zn:Int)) (.int .i64 (zn:Int))).run Tryz.prog W=.ok (.slice (some ⟨W.heap.size,0,none⟩) zn zn) (W.alloc (.cells Zc 5)):=fun W=>by rw [hZc];exact make_noughts zn (by have:=HK1.out;omega) W
 have HZC:Hid (Zc.toList=(List.replicate zn (0:UInt8)).map byteVal∧Zc.size=zn):=Lib.hid ⟨by rw [hZc],by rw [hZc];simp⟩
 have kz:=(New.refl w4).alloc (.cells Zc 5)
 have hz:=Row.made w4 5 Zc zn 1 (by rw [HZC.out.2,Nat.mul_one])
 rw [HZC.out.1] at hz
 have HKZ:=Lib.hid kz
 have HZ:=Lib.hid hz
 have q7:IntKind.i64.wrap (zn:Int)=(zn:Int):=IntWalk.i64_in _ (by have:=HK1.out;omega)
 clear hZc hzn kz hz
 go_wp2_with fail
 have HL2:=Lib.hid (mlay_any (first:=1) (m:=k1) (HD4.out.new HKZ.out) HH.out.1 (fun b hb=>HH.out.2.1 b (by have:=HK4.out.size;have:=HKZ.out.size;omega)) (by have:=HK1.out;omega) (by have:=HH.out.2.2.2.2.1;have:=HK1.out;omega) (by have:=HK1.out;omega) (by have:=HK1.out;omega) (some ⟨w4.heap.size,0,none⟩) zn _ (by rw [← HZN.out];exact HZ.out) (by rw [← HZN.out];exact Nat.le_refl _) (by have:=HZN.out;have:=HK1.out;omega) (fun j hj=>⟨fun e=>by have:=HDK.out q.bd (.inl rfl);have:=HK4.out.size;omega,fun e=>by have:=HDK.out q.bm (.inr (.inr rfl));have:=HK4.out.size;omega⟩))
 rw [← HZN.out] at HL2
 refine HL2.out.mono ?_
 rintro e w5 ⟨rfl,k5,wr5,hd5⟩
 rw [HZN.out,← HFD.out.1] at hd5
 have HK5:=Lib.hid ((HK4.out.new HKZ.out).trans k5)
 have HD5:=Lib.hid hd5
 have HX5:=Lib.hid ((k5.block gp (Nat.lt_of_lt_of_le (Array.getElem?_eq_some_iff.1 HX4.out).1 HKZ.out.size) ⟨fun e=>by have:=HDK.out q.bd (.inl rfl);have:=HGP.out;omega,fun e=>by have:=HDK.out q.bm (.inr (.inr rfl));have:=HGP.out;omega⟩).trans ((HKZ.out.block gp (Array.getElem?_eq_some_iff.1 HX4.out).1 trivial).trans HX4.out))
 clear k5 hd5 HL2 q5 q6 q7 hmk HZC HKZ HZ HD4 HX4 HK4 HX3 HOS3 HCS
 go_wp2_with fail
 go_loopw [38] (fun s38 wx=>∃ j:Nat,s38=.int .u64 (j:Int)∧j≤2∧Keep (fun b=>b≠q.bd∧b≠q.bm) w wx∧wx.heap[gp]?=some (.cells #[.int .i64 k,.int .i64 p,.int .i64 g] 33 (0,0))∧∃ wr,DiskAt wx D q S (FD j) (n+1+k1+j*p) wr) (fun s38 _=>2-(intOf s38).toNat)
 case atStart=>exact ⟨0,rfl,by decide,HK5.out,HX5.out,wr5,by rw [Nat.zero_mul,Nat.add_zero];exact HD5.out⟩
 case round =>
  obtain ⟨j,rfl,hj2,hKw,hXw,wrj,hdj⟩:=hrel
  have HST:=Lib.hid (And.intro hKw (And.intro hXw hdj))
  clear hKw hXw hdj
  by_cases hlt:j<2
  ·skip
   have hl2:(j:Int)<2:=by omega
   have q1:IntKind.u64.wrap ((j:Int)+1)=((j:Int)+1):=by rw [IntKind.wrap_u64];omega
   have hgl:gp<wr.heap.size:=(Array.getElem?_eq_some_iff.1 HST.out.2.1).1
   have hgd:gp≠q.bd∧gp≠q.bm:=⟨fun e=>by have:=HDK.out q.bd (.inl rfl);have:=HGP.out;omega,fun e=>by have:=HDK.out q.bm (.inr (.inr rfl));have:=HGP.out;omega⟩
   have r0:∀ W,Keep (fun b=>b≠q.bd∧b≠q.bm) wr.drew W→W.cell? ⟨gp,0,none⟩=some (.int .i64 k):=fun W hW=>hW.cell_some (cellOf (w:=wr.drew) HST.out.2.1 (k:=0) rfl) hgd
   have r1:∀ W,Keep (fun b=>b≠q.bd∧b≠q.bm) wr.drew W→W.cell? ⟨gp,1,none⟩=some (.int .i64 p):=fun W hW=>hW.cell_some (cellOf (w:=wr.drew) HST.out.2.1 (k:=1) rfl) hgd
   have r2:∀ W,Keep (fun b=>b≠q.bd∧b≠q.bm) wr.drew W→W.cell? ⟨gp,2,none⟩=some (.int .i64 g):=fun W hW=>hW.cell_some (cellOf (w:=wr.drew) HST.out.2.1 (k:=2) rfl) hgd
   have hdd:=Lib.hid (HST.out.2.2.new (Keep.drew (New.refl wr)))
   have hidw:Hid (Bs wr.drew D1 A 16 id):=Lib.hid (Row.keep (E:=fun b=>b≠q.bd∧b≠q.bm) HID.out (HST.out.1.drew) fun b _ hb=>HH.out.2.2.2.1 b hb)
   go_upto_region 12 with fail
   refine hold_beginS (Keep (fun b=>b≠q.bd∧b≠q.bm) wr.drew) (by kernel_rfl) ?_
   have n0:Keep (fun b=>b≠q.bd∧b≠q.bm) wr.drew wr.drew:=Keep.refl _ _
   refine take0 0 n0 ?_
   refine take0 1 n0 ?_
   refine take0 2 n0 ?_
   refine take0 3 n0 ?_
   refine take0 4 n0 ?_
   refine hold_step0 (i:=5) (by kernel_rfl) rfl rfl (fun K hK=>?_)
   go_simp
   refine (genesis_any D1 A 16 c id _ hidw.out hc (by decide)).mono ?_
   rintro e w6 ⟨⟨Ag,cg,rfl,og⟩,k6⟩
   go_wp2_with fail
   have n1:=Keep.new n0 k6
   refine hK.out _ _ n1 ?_
   clear hK K
   try simp only [Act.put,ly1,ly2,ly3,ly4,ly5,ly6]
   replace n0:=n1
   clear n1
   have HOG:=Lib.hid og
   have hd6:=Lib.hid (hdd.out.new k6)
   clear og
   refine hold_step0 (i:=6) (by kernel_rfl) rfl rfl (fun K hK=>?_)
   go_simp
   refine (stnew_any (fun _=>0) ⟨1,2,3⟩ ⟨⟨by decide,by decide,by decide⟩,by decide,by decide,by decide⟩ _).mono ?_
   rintro e w7 ⟨bst,Bst,cst,rfl,k7,z7,x7,st7⟩
   go_wp2_with fail
   have n1:=Keep.new n0 k7
   refine hK.out _ _ n1 ?_
   clear hK K
   try simp only [Act.put,ly1,ly2,ly3,ly4,ly5,ly6]
   replace n0:=n1
   clear n1
   have hd7:=Lib.hid (hd6.out.new k7)
   have HST7:=Lib.hid (stsave_any st7 stateNew_ok)
   clear z7 x7 st7
   refine hold_step0 (i:=7) (by kernel_rfl) rfl rfl (fun K hK=>?_)
   go_simp
   refine HST7.out.mono ?_
   rintro e w8 ⟨⟨Av,cv,rfl,ov⟩,k8⟩
   go_wp2_with fail
   have n1:=Keep.new n0 k8
   refine hK.out _ _ n1 ?_
   clear hK K
   try simp only [Act.put,ly1,ly2,ly3,ly4,ly5,ly6]
   replace n0:=n1
   clear n1
   have hd8:=Lib.hid (hd7.out.new k8)
   have HOV:=Lib.hid ov
   have HOG8:=Lib.hid (((Row.of_own HOG.out).new k7).new k8)
   clear ov
   refine take0 8 n0 ?_
   have hmo:=fmtMark_ok (id:=id) (p:=p) (g:=g) (gen:=j+1) (by omega) (by omega) HH.out.2.2.2.2.2.2.1
   have HSV:=Lib.hid (msave_any (c1:=cg) (c2:=cv) hd8.out HH.out.1 (fun b hb=>HH.out.2.1 b (by have:=HST.out.1.size;have:wr.drew.heap.size=wr.heap.size:=rfl;have:=k6.size;have:=k7.size;have:=k8.size;omega)) (by have:=HH.out.2.2.2.2.1;have:=HH.out.2.2.2.2.2.2;have:=HK1.out;have:j*p≤2*p:=Nat.mul_le_mul_right _ (by omega);omega) (by have:=HH.out.2.2.2.2.2.2;omega) HH.out.2.2.2.2.2.1 hmo.1 HOG8.out (Row.of_own HOV.out) (own_cap HOV.out) (by have:=hmo.2.1;have:=HH.out.2.2.2.2.2.2.1;omega))
   dsimp only [fmtMark] at HSV
   rw [show (((j+1:Nat)):Int)=(j:Int)+1 from by omega] at HSV
   refine hold_step0 (i:=9) (by kernel_rfl) rfl rfl (fun K hK=>?_)
   (go_simp;refine HSV.out.mono ?_)
   (rintro e w9 ⟨rfl,k9,wr9,hd9⟩;go_wp2_with fail)
   have n1:=n0.trans k9
   refine hK.out _ _ n1 ?_
   clear hK K
   try simp only [Act.put,ly1,ly2,ly3,ly4,ly5,ly6]
   replace n0:=n1
   clear n1
   refine wpAnyH_done (by kernel_rfl) ?_ _
   have HF:=Lib.hid (And.intro n0 hd9)
   clear n0 hd9 r0 r1 r2 HSV
   go_wp2_with fail
   go_roundw
   case rel =>
    obtain ⟨f1,f2⟩:=HF.out
    have hcast:((j:Int)+1)=((j+1:Nat):Int):=by omega
    refine ⟨j+1,by go_num,by omega,HST.out.1.drew.trans f1,(f1.block gp hgl hgd).trans HST.out.2.1,wr9,?_⟩
    rw [HFD.out.2,Nat.succ_mul,← Nat.add_assoc,← hcast]
    exact f2
   case measure=>simp [intOf];omega
  ·obtain rfl:j=2:=by omega
   have HFL:=Lib.hid (flush_any HST.out.2.2 HH.out.2.2.1)
   go_wp2_with fail
   refine HFL.out.mono ?_
   rintro e w9 ⟨rfl,k9,hd9⟩
   have HF:=Lib.hid (And.intro k9 hd9)
   clear k9 hd9 HFL
   go_wp2_with fail
   go_ret
   obtain ⟨k9,hd9⟩:=HF.out
   exact ⟨rfl,(HST.out.1.imp (E:=fun j=>j≠q.bd∧j≠q.bs∧j≠q.bm) fun _ _ hj=>⟨hj.1,hj.2.2⟩).trans2 k9 fun _ _ hj=>⟨hj.2.1,hj.2.2⟩,_,hd9⟩
end Go.Proofs.YtdodbdednpnddaaGreatDoor
