/-
  PROVED HERE: texts that belong together, one behind the other; what each proves, and under which conditions, its own opening remark says: SuperRead22, Save22, Snap22, SnapSave22, State22, StateSave22.
-/
import Derived.Test.YtdodbdednpnddaaGreatDoorPkT27
set_option maxRecDepth 100000
set_option maxHeartbeats 8000000
namespace Go.Proofs.YtdodbdednpnddaaGreatDoor
open Go.RowKit
theorem sliceEqual_any (D D2:Nat→Prop) (A A2:Option Addr) (n c n2 c2:Nat) (a b:List UInt8) (w:World) (hB:Bs w D A n a) (hB2:Bs w D2 A2 n2 b) (hn:n≤1099511627776) (hn2:n2≤1099511627776):
  Calls Tryz.prog 278 #[.slice A n c,.slice A2 n2 c2] w fun e w'=>e=.returned (.bool (decide (a=b)))∧New w w':=by
 have hl:=hB.len
 have hl2:=hB2.len
 by_cases hne:n=n2
 ·subst hne
  have HB:=Lib.hid hB
  have HB2:=Lib.hid hB2
  have HL:=Lib.hid (And.intro hl hl2)
  clear hB hB2 hl hl2
  go_enter Tryz.func278,Tryz.ntmps278
  go_wp2_with fail
  go_loopw [13] (fun i wx=>∃ k:Nat,k≤n∧i=.int .i64 (k:Int)∧(∀ j (h1:j<a.length) (h2:j<b.length),j<k→a[j]=b[j])∧New w wx) (fun i _=>n-(intOf i).toNat)
  case atStart=>exact ⟨0,Nat.zero_le _,rfl,fun j _ _ hj=>absurd hj (Nat.not_lt_zero j),New.refl w⟩
  case round =>
   obtain ⟨k,hk,rfl,hsm,hK⟩:=hrel
   have HSM:=Lib.hid hsm
   have HK:=Lib.hid hK
   clear hsm hK
   by_cases hlt:k<n
   ·have h1:k<a.length:=by have:=HL.out;omega
    have h2:k<b.length:=by have:=HL.out;omega
    obtain ⟨g1,o1,rfl,-,-,x1⟩:=HB.out.cellAt (by omega)
    obtain ⟨g2,o2,rfl,-,-,x2⟩:=HB2.out.cellAt (by omega)
    have y1:∀ m,(wr.drewN m).cell? ⟨g1,o1+k,none⟩=some (.int .u8 (bv a[k])):=fun m=>(HK.out.drewN m).cell_some (x1 k h1) trivial
    have y2:∀ m,(wr.drewN m).cell? ⟨g2,o2+k,none⟩=some (.int .u8 (bv b[k])):=fun m=>(HK.out.drewN m).cell_some (x2 k h2) trivial
    have HNX:Hid (a[k]=b[k]→∀ j (h1:j<a.length) (h2:j<b.length),j<k+1→a[j]=b[j]):=Lib.hid fun h j hj1 hj2 hj=>by
     by_cases e:j=k
     ·subst e;exact h
     ·exact HSM.out j hj1 hj2 (by omega)
    have HNE:Hid (a[k]≠b[k]→decide (a=b)=false):=Lib.hid fun h=>decide_eq_false fun e=>h (by subst e;rfl)
    generalize a[k]=u at *
    generalize b[k]=v at *
    clear x1 x2 HSM
    by_cases huv:u=v
    ·have HNX:=Lib.hid (HNX.out huv)
     have hd:(bv u !=bv v)=false:=by rw [huv];simp
     clear HNE huv
     go_upto_region 6 with fail
     go_quiet (fail)
     go_wp2_with fail
     go_roundw
     case rel=>exact ⟨k+1,by omega,by go_num,HNX.out,HK.out.drewN _⟩
     case measure=>simp [intOf];omega
    ·have HNE:=Lib.hid (HNE.out huv)
     have hd:(bv u !=bv v)=true:=by simpa using fun e=>huv (bv_inj e)
     clear HNX huv
     go_upto_region 6 with fail
     go_quiet (fail)
     go_wp2_with fail
     go_ret
     exact ⟨by rw [HNE.out];rfl,HK.out.drewN _⟩
   ·obtain rfl:k=n:=by omega
    have HE:Hid (decide (a=b)=true):=Lib.hid (decide_eq_true (List.ext_getElem (by have:=HL.out;omega) fun j h1 h2=>HSM.out j h1 h2 (by have:=HL.out;omega)))
    clear HSM
    go_wp2_with fail
    go_ret
    exact ⟨by rw [HE.out];rfl,HK.out⟩
 ·have hd:((n:Int) !=(n2:Int))=true:=by simp;omega
  have HE:Hid (decide (a=b)=false):=Lib.hid (decide_eq_false fun e=>hne (by rw [← hl,← hl2,e]))
  clear hl hl2 hB hB2 hne
  go_enter Tryz.func278,Tryz.ntmps278
  go_wp2_with fail
  go_ret
  exact ⟨by rw [HE.out];rfl,New.refl w⟩
def superOf (b:List UInt8):Option (Nat×List UInt8) :=
 if 64≤beNat ((b.drop 6).take 2)∧beNat ((b.drop 6).take 2)≤4096∧superBytes (beNat ((b.drop 6).take 2):Nat) ((b.drop 8).take 16)=b then some (beNat ((b.drop 6).take 2),(b.drop 8).take 16) else none
theorem superOf_super {n:Nat}{id:List UInt8}(h0:64≤n) (h1:n≤4096) (hid:id.length=16):superOf (superBytes n id)=some (n,id):=by
 have e:superBytes (n:Int) id=[87,79,82,77,0,1]++(beI 2 n++(id++(be4 (crcSum (sup24 n id))++List.replicate 100 0))):=by
  unfold superBytes
  generalize be4 (crcSum (sup24 (n:Int) id))=x
  unfold sup24
  rw [show beI 2 1=[0,1] from by decide]
  simp only [List.append_assoc]
  rfl
 have d6:(superBytes (n:Int) id).drop 6=beI 2 n++(id++(be4 (crcSum (sup24 n id))++List.replicate 100 0)):=by rw [e];rfl
 have e1:beNat (((superBytes (n:Int) id).drop 6).take 2)=n:=by
  rw [d6,List.take_append_of_le_length (by rw [beI_length];omega),List.take_of_length_le (by rw [beI_length];omega)]
  have:=beNat_beI 2 (n:Int) (by omega) (by omega)
  omega
 have e2:((superBytes (n:Int) id).drop 8).take 16=id:=by
  rw [show 8=6+2 from rfl,← List.drop_drop,d6,List.drop_append_of_le_length (by rw [beI_length];omega),List.drop_eq_nil_of_le (by rw [beI_length];omega),List.nil_append,List.take_append_of_le_length (by omega),List.take_of_length_le (by omega)]
 unfold superOf
 rw [e1,e2,if_pos ⟨h0,h1,rfl⟩]
def SuperRet (w:World) (r:Option (Nat×List UInt8)) (e:Ending) (w':World):Prop :=
 (match r with
 | some (n,id)=>∃ A' c',e=.returned (.tuple #[.int .i64 (n:Int),.slice A' 16 c',.int .i64 0])∧OwnB w' w.heap.size 5 A' 16 c' id
 | none=>e=.returned (.tuple #[.int .i64 0,.slice none 0 0,.int .i64 41]))∧New w w'
theorem readSuper_any (D:Nat→Prop) (A:Option Addr) (c:Nat) (b:List UInt8) (w:World) (hB:Bs w D A 128 b):
  Calls Tryz.prog 221 #[.slice A 128 c] w (SuperRet w (superOf b)):=by
 have hl:=hB.len
 obtain ⟨a4,b1,ha4,hb1⟩:∃ a4 b1,a4=b.take 4∧b1=b.drop 4:=⟨_,_,rfl,rfl⟩
 have e1:RdS.raw ⟨b,0⟩ 4=(a4,⟨b1,0⟩):=by rw [RdS.raw_some _ _ rfl (by decide) (by show (4:Int)≤b.length;omega),ha4,hb1];rfl
 obtain ⟨x,b2,hx,hb2⟩:∃ x b2,x=beNat ((b.drop 4).take 2)∧b2=b.drop 6:=⟨_,_,rfl,rfl⟩
 have e2:RdS.num ⟨b1,0⟩ 2=(x,⟨b2,0⟩):=by
  unfold RdS.num
  rw [RdS.raw_some _ _ rfl (by decide) (by rw [hb1];show (2:Int)≤(b.drop 4).length;rw [List.length_drop];omega),hx,hb2,hb1]
  simp
 obtain ⟨n,b3,hn,hb3⟩:∃ n b3,n=beNat ((b.drop 6).take 2)∧b3=b.drop 8:=⟨_,_,rfl,rfl⟩
 have e3:RdS.num ⟨b2,0⟩ 2=(n,⟨b3,0⟩):=by
  unfold RdS.num
  rw [RdS.raw_some _ _ rfl (by decide) (by rw [hb2];show (2:Int)≤(b.drop 6).length;rw [List.length_drop];omega),hn,hb3,hb2]
  simp
 obtain ⟨id,b4,hid,hb4⟩:∃ id b4,id=(b.drop 8).take 16∧b4=b.drop 24:=⟨_,_,rfl,rfl⟩
 have e4:RdS.raw ⟨b3,0⟩ 16=(id,⟨b4,0⟩):=by
  rw [RdS.raw_some _ _ rfl (by decide) (by rw [hb3];show (16:Int)≤(b.drop 8).length;rw [List.length_drop];omega),hid,hb4,hb3]
  simp
 have hidl:id.length=16:=by rw [hid,List.length_take,List.length_drop,hl];rfl
 have hnl:n≤65535:=by
  rw [hn]
  have:=beNat_lt ((b.drop 6).take 2)
  rw [List.length_take,List.length_drop,hl,show 256^min 2 (128-6)=65536 from by decide] at this
  omega
 have HSO:Hid (superOf b=if 64≤n∧n≤4096∧superBytes (n:Int) id=b then some (n,id) else none):=Lib.hid (by rw [hn,hid];rfl)
 have HE1:=Lib.hid e1
 have HE2:=Lib.hid e2
 have HE3:=Lib.hid e3
 have HE4:=Lib.hid e4
 have HB:=Lib.hid hB
 have HL:=Lib.hid hl
 have HID:=Lib.hid hidl
 clear ha4 hb1 hx hb2 hn hb3 hid hb4 e1 e2 e3 e4 hB hl hidl
 have HNR:=Lib.hid (newReader_any D A 128 c b w HB.out (by decide))
 go_enter Tryz.func221,Tryz.ntmps221
 go_wp2_with fail
 refine HNR.out.mono ?_
 rintro e w1 ⟨⟨p,rfl,hp,hR⟩,k1⟩
 have HR:=Lib.hid (rraw_any p ⟨b,0⟩ 4 w1 hR)
 have HK:=Lib.hid k1
 clear HNR k1 hR
 go_wp2_with fail
 refine HR.out.mono ?_
 rintro e w2 ⟨⟨A2,c2,rfl,-⟩,hR,k2⟩
 rw [HE1.out] at hR
 have HR2:=Lib.hid (rshort_any p ⟨b1,0⟩ w2 hR)
 have HKE:=Lib.hid k2
 clear HR k2 hR
 go_wp2_with fail
 refine HR2.out.mono ?_
 rintro e w3 ⟨rfl,hR,k3⟩
 rw [HE2.out] at hR ⊢
 have HR3:=Lib.hid (rshort_any p ⟨b2,0⟩ w3 hR)
 rw [HE3.out] at HR3
 replace HKE:=Lib.hid (HKE.out.trans k3)
 clear HR2 k3 hR
 go_wp2_with fail
 refine HR3.out.mono ?_
 rintro e w4 ⟨rfl,hR,k4⟩
 have HR4:=Lib.hid (rraw_any p ⟨b3,0⟩ 16 w4 hR)
 rw [HE4.out] at HR4
 replace HKE:=Lib.hid (HKE.out.trans k4)
 have HZ4:=Lib.hid (Nat.le_trans HK.out.size HKE.out.size)
 clear HR3 k4 hR
 go_wp2_with fail
 refine HR4.out.mono ?_
 rintro e w5 ⟨⟨A5,c5,rfl,ho⟩,-,k5⟩
 dsimp only at ho ⊢
 rw [HID.out] at ho ⊢
 replace HKE:=Lib.hid (HKE.out.trans k5)
 have HN5:Hid (New w w5):=Lib.hid ((HK.out.trans2 HKE.out fun i hi _=>Nat.ne_of_lt (Nat.lt_of_lt_of_le hi hp)))
 have HO:=Lib.hid (own_base (base:=w.heap.size) ho HZ4.out)
 clear HR4 k5 ho
 by_cases hr:64≤n∧n≤4096
 ·obtain ⟨h0,h1⟩:=hr
  have HSP:=Lib.hid (super_any (n:=(n:Int)) (A:=A5) (c:=c5) (by omega) (by omega) (Row.of_own HO.out))
  go_wp2_with fail
  refine HSP.out.mono ?_
  rintro e w6 ⟨⟨A6,c6,rfl,o6⟩,k6⟩
  have HEQ:=Lib.hid (sliceEqual_any _ _ A6 A 128 c6 128 c _ b w6 (Row.of_own o6) (HB.out.new (HN5.out.new k6)) (by decide) (by decide))
  have HN6:=Lib.hid (HN5.out.new k6)
  have HO6:=Lib.hid (Own.keepNew HO.out k6)
  clear HSP k6 o6
  by_cases hb:superBytes (n:Int) id=b
  ·rw [decide_eq_true hb] at HEQ
   rw [if_pos ⟨h0,h1,hb⟩] at HSO
   clear hb
   go_wp2_with fail
   refine HEQ.out.mono ?_
   rintro e w7 ⟨rfl,k7⟩
   have HF:=Lib.hid (And.intro (HN6.out.new k7) (Own.keepNew HO6.out k7))
   clear k7
   go_wp2_with fail
   refine bodyPost_ret (v:=.tuple #[.int .i64 (n:Int),.slice A5 16 c5,.int .i64 0]) (by simp [results,Tryz.results221,go_sem]) rfl ?_
   rw [HSO.out]
   exact ⟨⟨A5,c5,rfl,HF.out.2⟩,HF.out.1⟩
  ·rw [decide_eq_false hb] at HEQ
   rw [if_neg (fun h=>hb h.2.2)] at HSO
   clear hb
   go_wp2_with fail
   refine HEQ.out.mono ?_
   rintro e w7 ⟨rfl,k7⟩
   have HF:=Lib.hid (HN6.out.new k7)
   clear k7
   go_wp2_with fail
   refine bodyPost_ret (v:=.tuple #[.int .i64 0,.slice none 0 0,.int .i64 41]) (by simp [results,Tryz.results221,go_sem]) rfl ?_
   rw [HSO.out]
   exact ⟨rfl,HF.out⟩
 ·have HSP:=Lib.hid (fun W=>super_bad (n:=(n:Int)) (A:=A5) (m:=16) (c:=c5) (by omega) (by omega) W)
  rw [if_neg (fun h=>hr ⟨h.1,h.2.1⟩)] at HSO
  clear hr
  go_wp2_with fail
  refine (HSP.out _).mono ?_
  rintro e w6 ⟨rfl,k6⟩
  have HF:=Lib.hid (HN5.out.new k6)
  clear k6 HSP
  go_wp2_with fail
  refine bodyPost_ret (v:=.tuple #[.int .i64 0,.slice none 0 0,.int .i64 41]) (by simp [results,Tryz.results221,go_sem]) rfl ?_
  rw [HSO.out]
  exact ⟨rfl,HF.out⟩
theorem three_cells {w:World}{g:Nat}{c0 c1 c2:Value}{t:TypeId}(h:w.heap[g]?=some (.cells #[c0,c1,c2] t (0,0))) (x0 x1 x2:Value):
  (((w.setCell ⟨g,0,none⟩ x0).setCell ⟨g,1,none⟩ x1).setCell ⟨g,2,none⟩ x2).heap[g]?=some (.cells #[x0,x1,x2] t (0,0))∧Keep (fun b=>b≠g) w (((w.setCell ⟨g,0,none⟩ x0).setCell ⟨g,1,none⟩ x1).setCell ⟨g,2,none⟩ x2):=by
 have no:∀ (W:World) (k:Nat) (u:Value),Keep (fun b=>b≠g) w W→Keep (fun b=>b≠g) w (W.setCell ⟨g,k,none⟩ u):=fun W k u hW=>hW.setCell (p:=⟨g,k,none⟩) (fun hd=>absurd rfl hd) u
 exact ⟨setCell_block (setCell_block (setCell_block h 0 x0) 1 x1) 2 x2,no _ _ _ (no _ _ _ (no _ _ _ (Keep.refl _ w)))⟩
def MSuperRet (w:World) (k:Nat) (S:List UInt8) (e:Ending) (w':World):Prop :=
 (match superOf (S.take 128) with
 | some (n,id)=>if n=k then ∃ A' c',e=.returned (.tuple #[.agg #[.int .i64 (k:Int),.int .i64 ((k/4:Nat):Int),.int .i64 (((k-1-2*(k/4))/8:Nat):Int)],.slice A' 16 c',.int .i64 0])∧OwnB w' w.heap.size 5 A' 16 c' id
  else e=.returned (.tuple #[.agg #[.int .i64 0,.int .i64 0,.int .i64 0],.slice none 0 0,.int .i64 41])
 | none=>e=.returned (.tuple #[.agg #[.int .i64 0,.int .i64 0,.int .i64 0],.slice none 0 0,.int .i64 41]))∧New w w'
theorem msuper_any {w:World}{q:DiskB}{S:List UInt8}{k:Nat}(h:Clean w q S) (hk:S.length=k*128):
  Calls Tryz.prog 159 #[.pointer (some ⟨q.bd,0,none⟩)] w (MSuperRet w k S):=by
 obtain ⟨k',e',h64,h4096⟩:=h.size
 obtain rfl:k'=k:=by omega
 clear e'
 obtain ⟨wr0,hd⟩:=h
 have HDR:=fun W (hW:New w W)=>Lib.hid (dread_any (hd.new hW) hk 0 (by omega))
 have HSC:=fun W (hW:New w W)=>Lib.hid (sectors_any (hd.new hW) hk)
 have hsec:sectorOf S Dirt.no 0=S.take 128:=by rw [sector_no];rfl
 rw [hsec] at HDR
 clear hsec hd
 obtain ⟨b,hb⟩:∃ b,b=S.take 128:=⟨_,rfl⟩
 have HSB:=Lib.hid hb
 rw [← hb] at HDR
 clear hb
 have kA:=(New.refl w).alloc (.cells #[.int .i64 0,.int .i64 0,.int .i64 0] 33)
 have xA:=heap_alloc_new w (.cells #[.int .i64 0,.int .i64 0,.int .i64 0] 33)
 go_enter Tryz.func159,Tryz.ntmps159
 go_upto_region 1 with fail
 generalize hgp:w.heap.size=gp at *
 generalize w.alloc (.cells #[.int .i64 0,.int .i64 0,.int .i64 0] 33)=w1 at *
 have HG:=Lib.hid hgp
 have HX:=Lib.hid xA
 have HK:=Lib.hid kA
 clear xA kA hgp
 go_wp2_with fail
 refine (HDR _ HK.out).out.mono ?_
 rintro e w2 ⟨⟨A2,c2,rfl,o2⟩,k2⟩
 have HRS:=Lib.hid (readSuper_any _ A2 c2 b w2 (Row.of_own o2))
 replace HX:=Lib.hid (k2.blockAt HX.out trivial)
 replace HK:=Lib.hid (HK.out.new k2)
 have hgl:gp+1≤w2.heap.size:=(Array.getElem?_eq_some_iff.1 HX.out).1
 clear k2 o2 HDR
 go_wp2_with fail
 refine HRS.out.mono ?_
 rintro e w3 ⟨hr,k3⟩
 replace HX:=Lib.hid (k3.blockAt HX.out trivial)
 replace HK:=Lib.hid (HK.out.new k3)
 clear k3 HRS
 have HRET:Hid (∀ e w',MSuperRet w k' S e w'=MSuperRet w k' S e w'):=Lib.hid fun _ _=>rfl
 cases hso:superOf b with
 | none =>
  rw [hso] at hr
  dsimp only at hr
  subst hr
  have HSO:Hid (superOf (S.take 128)=none):=Lib.hid (by rw [← HSB.out];exact hso)
  clear hso
  obtain ⟨d0,d1,d2⟩:=cs3 HX.out
  obtain ⟨z0,z1,z2⟩:=fz3 HX.out
  go_wp2_with fail
  clear d0 d1 d2 z0 z1 z2
  obtain ⟨hE,hKE⟩:=three_cells HX.out (.int .i64 0) (.int .i64 0) (.int .i64 0)
  generalize hwE:World.setCell _ _ _=wE at *
  have f0:wE.cell? ⟨gp,0,none⟩=some (.int .i64 0):=cellOf hE rfl
  have f1:wE.cell? ⟨gp,1,none⟩=some (.int .i64 0):=cellOf hE rfl
  have f2:wE.cell? ⟨gp,2,none⟩=some (.int .i64 0):=cellOf hE rfl
  refine bodyPost_ret (v:=.tuple #[.agg #[.int .i64 0,.int .i64 0,.int .i64 0],.slice none 0 0,.int .i64 41]) (by simp [results,Tryz.results159,go_sem,f0,f1,f2]) rfl ?_
  unfold MSuperRet
  rw [HSO.out]
  exact ⟨rfl,HK.out.trans2 hKE fun b hb _=>by rw [HG.out] at hb;omega⟩
 | some r =>
  obtain ⟨n,id⟩:=r
  have HSO:Hid (superOf (S.take 128)=some (n,id)):=Lib.hid (by rw [← HSB.out];exact hso)
  rw [hso] at hr
  dsimp only at hr
  obtain ⟨A3,c3,rfl,o3⟩:=hr
  have HO3:=Lib.hid (own_base (base:=gp+1) o3 hgl)
  have HSC3:=HSC w3 HK.out
  have hn4:n≤4096:=by
   have hso':=hso
   unfold superOf at hso'
   split at hso'
   ·rename_i hc
    injection hso' with hso'
    injection hso' with e1 e2
    rw [← e1];exact hc.2.1
   ·cases hso'
  clear hso o3 HSC
  by_cases hnk:n=k'
  ·subst hnk
   have HOF:=Lib.hid (of21_any (n:Int) (by omega) w3)
   rw [planOf_mid (by omega) (by omega)] at HOF
   dsimp only at HOF
   have e1:(n:Int)/4=((n/4:Nat):Int):=by omega
   have e2:((n:Int)-1-2*((n:Int)/4))/8=(((n-1-2*(n/4))/8:Nat):Int):=by omega
   rw [e2,e1] at HOF
   have HF:Hid (∀ e w',((∃ A' c',e=Ending.returned (.tuple #[.agg #[.int .i64 (n:Int),.int .i64 ((n/4:Nat):Int),.int .i64 (((n-1-2*(n/4))/8:Nat):Int)],.slice A' 16 c',.int .i64 0])∧OwnB w' w.heap.size 5 A' 16 c' id)∧New w w')→MSuperRet w n S e w'):=Lib.hid fun e w' hh=>by
    unfold MSuperRet
    rw [HSO.out]
    dsimp only
    rw [if_pos rfl]
    exact hh
   clear e1 e2
   generalize ((n/4:Nat):Int)=p at *
   generalize (((n-1-2*(n/4))/8:Nat):Int)=g at *
   go_wp2_with fail
   refine HSC3.out.mono ?_
   rintro e w4 ⟨rfl,rfl⟩
   go_wp2_with fail
   refine HOF.out.mono ?_
   rintro e w4 ⟨rfl,k4⟩
   have kB:=k4.alloc (.cells #[.int .i64 n,.int .i64 p,.int .i64 g] 33)
   have xB:=heap_alloc_new w4 (.cells #[.int .i64 n,.int .i64 p,.int .i64 g] 33)
   go_upto_region 6 with fail
   generalize w4.alloc (.cells #[.int .i64 n,.int .i64 p,.int .i64 g] 33)=w5 at *
   generalize w4.heap.size=gB at *
   replace HX:=Lib.hid (kB.blockAt HX.out trivial)
   replace HK:=Lib.hid (HK.out.new kB)
   replace HO3:=Lib.hid (Own.keepNew HO3.out kB)
   clear k4 kB HSC3 HOF
   obtain ⟨y0,y1,y2⟩:=cs3 xB
   obtain ⟨d0,d1,d2⟩:=cs3 HX.out
   obtain ⟨z0,z1,z2⟩:=fz3 HX.out
   clear xB
   go_wp2_with fail
   clear d0 d1 d2 z0 z1 z2 y0 y1 y2
   obtain ⟨hE,hKE⟩:=three_cells HX.out (.int .i64 n) (.int .i64 p) (.int .i64 g)
   generalize hwE:World.setCell _ _ _=wE at *
   have f0:wE.cell? ⟨gp,0,none⟩=some (.int .i64 n):=cellOf hE rfl
   have f1:wE.cell? ⟨gp,1,none⟩=some (.int .i64 p):=cellOf hE rfl
   have f2:wE.cell? ⟨gp,2,none⟩=some (.int .i64 g):=cellOf hE rfl
   refine bodyPost_ret (v:=.tuple #[.agg #[.int .i64 n,.int .i64 p,.int .i64 g],.slice A3 16 c3,.int .i64 0]) (by simp [results,Tryz.results159,go_sem,f0,f1,f2]) rfl ?_
   refine HF.out _ _ ⟨⟨A3,c3,rfl,?_⟩,HK.out.trans2 hKE fun b hb _=>by rw [HG.out] at hb;omega⟩
   rw [HG.out]
   exact own_base (own_keep HO3.out hKE fun b hb e=>by have:=(own_lt HO3.out b hb).1;omega) (Nat.le_succ _)
  ·have hne:((n:Int) !=(k':Int))=true:=by simp;omega
   obtain ⟨d0,d1,d2⟩:=cs3 HX.out
   obtain ⟨z0,z1,z2⟩:=fz3 HX.out
   have HNK:=Lib.hid hnk
   clear hnk
   go_wp2_with fail
   refine HSC3.out.mono ?_
   rintro e w4 ⟨rfl,rfl⟩
   go_wp2_with fail
   clear d0 d1 d2 z0 z1 z2
   obtain ⟨hE,hKE⟩:=three_cells HX.out (.int .i64 0) (.int .i64 0) (.int .i64 0)
   generalize hwE:World.setCell _ _ _=wE at *
   have f0:wE.cell? ⟨gp,0,none⟩=some (.int .i64 0):=cellOf hE rfl
   have f1:wE.cell? ⟨gp,1,none⟩=some (.int .i64 0):=cellOf hE rfl
   have f2:wE.cell? ⟨gp,2,none⟩=some (.int .i64 0):=cellOf hE rfl
   refine bodyPost_ret (v:=.tuple #[.agg #[.int .i64 0,.int .i64 0,.int .i64 0],.slice none 0 0,.int .i64 41]) (by simp [results,Tryz.results159,go_sem,f0,f1,f2]) rfl ?_
   unfold MSuperRet
   rw [HSO.out]
   dsimp only
   rw [if_neg HNK.out]
   exact ⟨rfl,HK.out.trans2 hKE fun b hb _=>by rw [HG.out] at hb;omega⟩
section
variable {w w':World}{nb bm p base:Nat}{c:Col}{i bt:Nat}{q:TreeB}{T:TreeP}{bs:List UInt8}
theorem Wr.newW {w w':World}(h:Wr w base p bs) (hk:New w w'):Wr w' base p bs:=h.keep hk fun _ _=>trivial
theorem Writ.cell_row {w0:World}{g k:Nat}{u:Value}(h:Writ w0 w' p) (_hW:Wr w0 base p bs) (hg:w.heap.size≤g) (hp:p<w.heap.size) (hr:∀ b,rowBlk w0 p=some b→b<w.heap.size) (hc:w0.cell? ⟨g,k,none⟩=some u):w'.cell? ⟨g,k,none⟩=some u :=
 h.keep.cell_some hc ⟨by show g≠p;omega,fun e=>by have:=hr g e.symm;omega⟩
theorem rowBlk_new {w0 w1:World}(h:Wr w0 base p bs) (hk:New w0 w1):∀ b,rowBlk w1 p=some b→b<w0.heap.size:=fun b hb=>by
 obtain ⟨A,cc,hc,hown,_⟩:=h.row
 rw [rowBlk_of (hk.cell_some hc trivial)] at hb
 exact (own_lt hown b hb).2
theorem tsave_any (h:TreeAt w c i bt q T) (hT:TreeOk T):
  Calls Tryz.prog 121 #[.pointer (some ⟨bt,0,none⟩)] w fun e w'=>(∃ A' c',e=.returned (.slice A' (treeBytes T).length c')∧OwnB w' w.heap.size 5 A' (treeBytes T).length c' (treeBytes T))∧New w w':=by
 have HT:=Lib.hid h
 have HO:=Lib.hid hT
 have hfew:=hT.few
 have htl:=treeBytes_le hT
 have c0:w.cell? ⟨bt,0,none⟩=some (.map (some q.bm)):=cellOf h.tree (k:=0) rfl
 have hbtl:=h.ltT
 clear h hT
 go_enter Tryz.func121,Tryz.ntmps121
 go_wp2_with fail
 refine (newWriter_any w).mono ?_
 rintro e w1 ⟨⟨p,rfl,hW1⟩,k1⟩
 replace c0:=k1.cell_some c0 trivial
 have hlen:=(HT.out.own.new k1).len Tryz.underlying211
 have HW1:=Lib.hid hW1
 have HK1:=Lib.hid k1
 clear hW1 k1
 go_wp2_with fail
 refine (wshortW_any _ _ _ (T.length:Int) w1 HW1.out (by simp)).mono ?_
 rintro e w2 ⟨rfl,hW2,hR2⟩
 have HB2:Hid (Keep (fun b=>b<w.heap.size) w w2):=Lib.hid ((Keep.of_new HK1.out).trans (HW1.out.low hR2))
 have HW2:=Lib.hid hW2
 have HI:=Lib.hid (ids_any (HT.out.keep HB2.out (Ext.refl _ _) fun b hb _=>hb) (by omega))
 clear hW2 hR2 hlen c0
 go_wp2_with fail
 refine HI.out.mono ?_
 rintro e w3 ⟨⟨A,cp,rfl,ho⟩,k3⟩
 have HROW:=Lib.hid ho
 have HK3:=Lib.hid k3
 have HW3:Hid (Wr w3 w.heap.size p (beI 2 T.length)):=Lib.hid (by have:=HW2.out.newW k3;rwa [List.nil_append] at this)
 have HB3:=Lib.hid (HB2.out.new k3)
 clear ho k3 HI
 go_wp2_with fail
 go_loopw [22] (fun s22 wx=>∃ n:Nat,s22=.int .i64 (n:Int)∧n≤T.length∧Keep (fun b=>b<w.heap.size) w wx∧Writ w3 wx p∧Wr wx w.heap.size p (beI 2 T.length++((T.take n).map itemBytes).flatten)) (fun s22 _=>T.length-(intOf s22).toNat)
 case atStart=>exact ⟨0,rfl,Nat.zero_le _,HB3.out,Writ.refl _ _,by simpa using HW3.out⟩
 case round =>
  obtain ⟨n,rfl,hnl,hKw,hWr,hW⟩:=hrel
  by_cases hlt:n<T.length
  ·skip
   have hl2:(n:Int)<(T.length:Int):=by omega
   obtain ⟨id,hid⟩:∃ id,id=T[n].1:=⟨_,rfl⟩
   obtain ⟨it,hit⟩:∃ it,it=T[n].2:=⟨_,rfl⟩
   have hpair:T[n]=(id,it):=by rw [hid,hit]
   have hg:getK T id=some it:=HT.out.own.1.get (by rw [← hpair];exact List.getElem_mem hlt)
   have hok:=HO.out.node T[n] (List.getElem_mem hlt)
   have hnm:=HO.out.names T[n] (List.getElem_mem hlt)
   rw [hpair] at hok hnm
   have hnm:it.names.length≤10000:=hnm
   have hok:NodeOk id it.n:=hok
   have hTx:=HT.out.keep hKw (Ext.refl _ _) fun b hb _=>hb
   have hlk:=(hTx.look (id:=id) (by have:=hok.id;omega) (by have:=hok.id;omega)).2
   rw [hg,Option.elim_some] at hlk
   have c0:wr.cell? ⟨bt,0,none⟩=some (.map (some q.bm)):=cellOf hTx.tree (k:=0) rfl
   obtain ⟨An,cpn,x0,x1,x2,x3,x4,x5,x6,x7,hcp,hcm,hBb⟩:=node_cells (HT.out.item id it hg)
   have hbl:=(HT.out.item id it hg).lt
   have HBb:Hid (∀ W,Keep (fun b=>b<w.heap.size) w W→Bs W (fun b=>b<w.heap.size) An it.b.length it.b):=Lib.hid fun W hW=>((hBb.imp (E:=fun b=>b<w.heap.size) fun b hb _=>hb).keep hW fun b _ hb=>hb)
   have hrow:=(Row.of_own HROW.out)
   obtain ⟨g,off,hA,hgb,hgl,hcell⟩:=hrow.2 (by omega)
   subst hA
   have hplt:=HW2.out.lt
   have cn:wr.cell? ⟨g,off+n,none⟩=some (.int .i64 id):=hWr.cell_row (w:=w2) HW3.out hgb hplt (rowBlk_new HW2.out HK3.out) (hcell n _ (by rw [List.getElem?_map,List.getElem?_eq_getElem hlt,hpair];rfl))
   have hbnd:(beI 2 T.length++((T.take n).map itemBytes).flatten).length≤700000000002:=by
    have h1:=flatten_le itemBytes 700000000 (T.take n) fun p hp=>itemBytes_le (HO.out.names p (List.mem_of_mem_take hp))
    rw [List.length_append,beI_length]
    have:(T.take n).length*700000000≤1000*700000000:=Nat.mul_le_mul_right _ (by rw [List.length_take];omega)
    omega
   obtain ⟨pre,hpre⟩:∃ pre,pre=beI 2 T.length++((T.take n).map itemBytes).flatten:=⟨_,rfl⟩
   rw [← hpre] at hW hbnd
   have hbl2:(itemBytes (id,it)).length≤700000000:=itemBytes_le hnm
   have HST:=Lib.hid (And.intro hKw (And.intro hWr (And.intro hW (And.intro hpre (And.intro hpair hg)))))
   have HTX:=Lib.hid hTx
   have HX:Hid (∀ W,Keep (fun b=>b<w.heap.size) w W→∀ k u,w.cell? ⟨q.β id,k,none⟩=some u→W.cell? ⟨q.β id,k,none⟩=some u):=Lib.hid fun W hW k u hc=>hW.cell_some hc hbl
   have y0:wr.cell? ⟨q.β id,0,none⟩=some (.int .i64 id):=HX.out wr hKw 0 _ x0
   have y1:wr.cell? ⟨q.β id,1,none⟩=some (.int .i64 it.n.kind):=HX.out wr hKw 1 _ x1
   have y2:wr.cell? ⟨q.β id,2,none⟩=some (.int .i64 it.n.links):=HX.out wr hKw 2 _ x2
   have y3:wr.cell? ⟨q.β id,3,none⟩=some (.int .i64 it.n.size):=HX.out wr hKw 3 _ x3
   have y4:wr.cell? ⟨q.β id,4,none⟩=some (.int .u64 it.n.till):=HX.out wr hKw 4 _ x4
   have y5:wr.cell? ⟨q.β id,5,none⟩=some (.bool it.n.shut):=HX.out wr hKw 5 _ x5
   have HX67:=Lib.hid (And.intro x6 x7)
   have HCP:=Lib.hid (And.intro hcp hcm)
   have HEN:=Lib.hid (nencode_any hok wr)
   replace hid:=Lib.hid hid
   replace hit:=Lib.hid hit
   clear hW hWr hKw hTx hrow hcell hBb x0 x1 x2 x3 x4 x5 x6 x7 hcp hcm hpre hpair hg hok hbl
   go_wp2_with fail
   refine HEN.out.mono ?_
   rintro e w5 ⟨⟨A5,c5,rfl,o5⟩,k5⟩
   have HKw5:=Lib.hid (HST.out.1.new k5)
   have HWr5:=Lib.hid (HST.out.2.1.trans (Writ.of_new k5 HST.out.2.2.1.lt))
   have HW5:=Lib.hid (HST.out.2.2.1.newW k5)
   have H5:=Lib.hid (And.intro o5 k5)
   clear o5 k5 HEN y0 y1 y2 y3 y4 y5 cn hlk c0
   go_wp2_with fail
   refine (wbytesW_any _ _ _ A5 16 c5 pre (nodeBytes id it.n) w5 HW5.out (Row.of_own H5.out.1) (fun b hb=>⟨by have:=HST.out.2.2.1.lt;omega,fun e=>by have:=rowBlk_new HST.out.2.2.1 H5.out.2 b e.symm;omega⟩) (own_cap H5.out.1) (by decide) (by omega)).mono ?_
   rintro e w6 ⟨rfl,hW6,hR6⟩
   have HKw6:=Lib.hid (HKw5.out.trans (HW5.out.low hR6))
   have HWr6:=Lib.hid (HWr5.out.trans hR6)
   have HW6:=Lib.hid hW6
   clear hW6 hR6
   have y6:w6.cell? ⟨q.β id,6,none⟩=some (.slice An it.b.length cpn):=HX.out w6 HKw6.out 6 _ HX67.out.1
   go_wp2_with fail
   refine (wbytesW_any _ _ _ An it.b.length cpn _ it.b w6 HW6.out (HBb.out w6 HKw6.out) (fun b hb=>⟨by have:=HW6.out.hp;omega,fun e=>by have:=(HW6.out.rowLt b e.symm).1;omega⟩) HCP.out.1 (Nat.le_trans HCP.out.1 HCP.out.2) (by have:=lenBytes_le (nodeBytes id it.n);rw [List.length_append];omega)).mono ?_
   rintro e w7 ⟨rfl,hW7,hR7⟩
   have HKw7:=Lib.hid (HKw6.out.trans (HW6.out.low hR7))
   have HWr7:=Lib.hid (HWr6.out.trans hR7)
   have HW7:=Lib.hid hW7
   clear hW7 hR7 y6
   have y7:w7.cell? ⟨q.β id,7,none⟩=some (.map (if it.n.kind=2 then some (q.γ id) else none)):=HX.out w7 HKw7.out 7 _ HX67.out.2
   obtain ⟨mv,hmv⟩:∃ mv,mv=(if it.n.kind=2 then some (q.γ id) else none):=⟨_,rfl⟩
   rw [← hmv] at y7
   have HNM:Hid (∀ W,Keep (fun b=>b<w.heap.size) w W→it.n.kind=2→NamesAt W (q.γ id) it.names):=Lib.hid fun W hW hk=>((HT.out.item id it HST.out.2.2.2.2.2).names hk).2.keep hW ((HT.out.item id it HST.out.2.2.2.2.2).names hk).2.lt
   have hlen:∀ ty,(Builtin.len_ #[219] ty #[.map mv]).run Tryz.prog w7=.ok (.int .i64 it.names.length) w7:=fun ty=>by
    by_cases hk:it.n.kind=2
    ·rw [hmv,if_pos hk];exact (HNM.out w7 HKw7.out hk).len Tryz.underlying219 ty
    ·rw [hmv,if_neg hk,(HT.out.item id it HST.out.2.2.2.2.2).bare hk];exact Maps.len_nil Tryz.underlying219 ty
   have HMV:=Lib.hid hmv
   clear hmv
   go_wp2_with fail
   refine (wshortW_any _ _ _ (it.names.length:Int) w7 HW7.out (by have:=lenBytes_le (nodeBytes id it.n);have:=lenBytes_le it.b;rw [List.length_append,List.length_append];omega)).mono ?_
   rintro e w8 ⟨rfl,hW8,hR8⟩
   have HKw8:=Lib.hid (HKw7.out.trans (HW7.out.low hR8))
   have HWr8:=Lib.hid (HWr7.out.trans hR8)
   have HW8:=Lib.hid hW8
   clear hW8 hR8 hlen
   replace y7:w8.cell? ⟨q.β id,7,none⟩=some (.map mv):=by rw [HMV.out];exact HX.out w8 HKw8.out 7 _ HX67.out.2
   have HKY:Hid (Calls Tryz.prog 158 #[.map mv] w8 fun e w'=>e=.returned (.func (.func 219) #[] #[.pointer (some ⟨w8.heap.size,0,none⟩)])∧w'=w8.alloc (.cells #[.map mv] 219)):=Lib.hid (by cases mv with|none=>exact keysNil_any w8|some b=>exact keysN_any b w8)
   have k9:=(New.refl w8).alloc (.cells #[.map mv] 219)
   have x9:=heap_alloc_new w8 (.cells #[.map mv] 219)
   have HSO:Hid (Calls Tryz.prog 157 #[.func (.func 219) #[] #[.pointer (some ⟨w8.heap.size,0,none⟩)]] (w8.alloc (.cells #[.map mv] 219)) fun e w'=>(∃ (A:Option Addr) (c:Nat),e=.returned (.slice A it.names.length c)∧Own w' (w8.alloc (.cells #[.map mv] 219)).heap.size 9 1 A it.names.length c (it.names.map fun p=>.string (strOf p.1)))∧New (w8.alloc (.cells #[.map mv] 219)) w'):=Lib.hid (by
    by_cases hk:it.n.kind=2
    ·have hm:mv=some (q.γ id):=by rw [HMV.out,if_pos hk]
     rw [hm] at k9 x9 ⊢
     exact sortedN_any (((HNM.out w8 HKw8.out hk)).new k9) (by omega) _ x9
    ·have hm:mv=none:=by rw [HMV.out,if_neg hk]
     have hn:=(HT.out.item id it HST.out.2.2.2.2.2).bare hk
     rw [hm] at k9 x9 ⊢
     rw [hn]
     refine (sortedN_nil _ x9).mono ?_
     rintro e w' ⟨he,hk'⟩
     exact ⟨⟨none,0,he,Own.nil _ _ _ _⟩,hk'⟩)
   have HK9:=Lib.hid k9
   clear k9 x9
   go_wp2_with fail
   refine HKY.out.mono ?_
   rintro e w9 ⟨rfl,rfl⟩
   go_wp2_with fail
   refine HSO.out.mono ?_
   rintro e w10 ⟨⟨A10,c10,rfl,o10⟩,k10⟩
   have HK10:=Lib.hid (HK9.out.new k10)
   have H10:=Lib.hid o10
   have HKw10:=Lib.hid (HKw8.out.new HK10.out)
   have HWr10:=Lib.hid (HWr8.out.trans (Writ.of_new HK10.out HW8.out.lt))
   have HW10:=Lib.hid (HW8.out.newW HK10.out)
   clear o10 k10 HKY HSO y7
   go_wp2_with fail
   obtain ⟨pre2,hpre2⟩:∃ pre2,pre2=pre++lenBytes (nodeBytes id it.n)++lenBytes it.b++beI 2 it.names.length:=⟨_,rfl⟩
   have hb2:pre2.length≤pre.length+131076:=by rw [hpre2];have:=lenBytes_le (nodeBytes id it.n);have:=lenBytes_le it.b;rw [List.length_append,List.length_append,List.length_append,beI_length];omega
   rw [← hpre2] at HW10
   generalize wr=w4 at *
   go_loopw [63] (fun s63 wx=>∃ m:Nat,s63=.int .i64 (m:Int)∧m≤it.names.length∧Keep (fun b=>b<w.heap.size) w wx∧Writ w10 wx p∧Wr wx w.heap.size p (pre2++((it.names.take m).map nameBytes).flatten)) (fun s63 _=>it.names.length-(intOf s63).toNat)
   case atStart=>exact ⟨0,rfl,Nat.zero_le _,HKw10.out,Writ.refl _ _,by simpa using HW10.out⟩
   case round =>
    obtain ⟨m,rfl,hml,hKx,hWx,hWw⟩:=hrel
    by_cases hmt:m<it.names.length
    ·skip
     have hl3:(m:Int)<(it.names.length:Int):=by omega
     obtain ⟨nm,hnm1⟩:∃ nm,nm=it.names[m].1:=⟨_,rfl⟩
     obtain ⟨kk,hkk⟩:∃ kk,kk=it.names[m].2:=⟨_,rfl⟩
     have hpr:it.names[m]=(nm,kk):=by rw [hnm1,hkk]
     have hkd:it.n.kind=2:=by
      rcases Decidable.em (it.n.kind=2) with h|h
      ·exact h
      ·have:=(HT.out.item id it HST.out.2.2.2.2.2).bare h
       rw [this] at hmt
       exact absurd hmt (Nat.not_lt_zero _)
     have hmvs:mv=some (q.γ id):=by rw [HMV.out,if_pos hkd]
     have hrow:=(Row.of_own H10.out)
     obtain ⟨g2,off2,hA,hgb2,hgl2,hcell⟩:=hrow.2 (by omega)
     subst hA
     have cm:wr.cell? ⟨g2,off2+m,none⟩=some (.string (strOf nm)):=hWx.cell_row (w:=w8) HW10.out (by have:=HK9.out.size;omega) HW8.out.lt (rowBlk_new HW8.out HK10.out) (hcell m _ (by rw [List.getElem?_map,List.getElem?_eq_getElem hmt,hpr];rfl))
     have hgn:getK it.names nm=some kk:=(HNM.out wr hKx hkd).1.get (by rw [← hpr];exact List.getElem_mem hmt)
     obtain ⟨cpc,wc,hconv,hcpc,hkc,hBc⟩:=conv_name nm wr
     have hbm:(pre2++((it.names.take m).map nameBytes).flatten).length≤pre2.length+655390000:=by
      have h1:=flatten_le nameBytes 65539 (it.names.take m) fun x _=>by unfold nameBytes;rw [List.length_append,beI_length];have:=lenBytes_le x.1;omega
      rw [List.length_append]
      have:(it.names.take m).length*65539≤10000*65539:=Nat.mul_le_mul_right _ (by rw [List.length_take];omega)
      omega
     obtain ⟨pre3,hpre3⟩:∃ pre3,pre3=pre2++((it.names.take m).map nameBytes).flatten:=⟨_,rfl⟩
     rw [← hpre3] at hWw hbm
     have hnw:nm.length≤9223372036854775807:=by
      have h1:=HO.out.short T[n] (List.getElem_mem hlt)
      rw [HST.out.2.2.2.2.1] at h1
      have h2:it.names[m].1.length≤16:=h1 it.names[m] (List.getElem_mem hmt)
      rw [hpr] at h2
      have h2:nm.length≤16:=h2
      omega
     have HXX:=Lib.hid (And.intro hKx (And.intro hWx (And.intro hWw (And.intro hpre3 (And.intro hpr (And.intro hgn (And.intro hkc (And.intro hBc (And.intro hcpc hkd)))))))))
     replace hnm1:=Lib.hid hnm1
     replace hkk:=Lib.hid hkk
     have HMVS:=Lib.hid hmvs
     clear hKx hWx hWw hpre3 hpr hgn hkc hBc hcpc hrow hcell hkd hmvs hpre2
     go_wp2_with fail
     obtain ⟨hKx,hWx,hWw,hpre3,hpr,hgn,hkc,hBc,hcpc,hkd⟩:=HXX.out
     refine (wbytesW_any _ _ _ _ nm.length cpc pre3 nm wc (hWw.newW hkc) hBc (fun b hb=>⟨by have:=hWw.lt;omega,fun e=>by have:=rowBlk_new hWw hkc b e.symm;omega⟩) hcpc hnw (by omega)).mono ?_
     rintro e w12 ⟨rfl,hW12,hR12⟩
     have HKx12:=Lib.hid ((hKx.new hkc).trans ((hWw.newW hkc).low hR12))
     have HWx12:=Lib.hid ((hWx.trans (Writ.of_new hkc hWw.lt)).trans hR12)
     have HW12:=Lib.hid hW12
     clear hKx hWx hWw hpre3 hpr hgn hkc hBc hcpc hkd hW12 hR12 hconv cm
     have y7:w12.cell? ⟨q.β id,7,none⟩=some (.map (some (q.γ id))):=by rw [← HMVS.out,HMV.out];exact HX.out w12 HKx12.out 7 _ HX67.out.2
     have hlk:(Instr.lookup 219 (.map (some (q.γ id))) (.string (strOf nm)) false).run Tryz.prog w12=.ok (.int .i64 kk) w12:=by
      have:=((HNM.out w12 HKx12.out HXX.out.2.2.2.2.2.2.2.2.2).look Tryz.underlying219 (zero_int w12) (k:=nm) hnw).2
      rw [HXX.out.2.2.2.2.2.1,Option.elim_some] at this
      exact this
     go_wp2_with fail
     refine (wshortW_any _ _ _ kk w12 HW12.out (by have:=lenBytes_le nm;rw [List.length_append];omega)).mono ?_
     rintro e w13 ⟨rfl,hW13,hR13⟩
     have HF:=Lib.hid (And.intro (HKx12.out.trans (HW12.out.low hR13)) (And.intro (HWx12.out.trans hR13) hW13))
     clear hW13 hR13 hlk y7
     go_wp2_with fail
     go_roundw
     case rel =>
      obtain ⟨f1,f2,f3⟩:=HF.out
      refine ⟨m+1,by go_num,hmt,f1,f2,?_⟩
      have e1:(it.names.take (m+1))=it.names.take m++[(nm,kk)]:=by rw [List.take_succ_eq_append_getElem hmt,HXX.out.2.2.2.2.1]
      rw [e1,List.map_append,List.flatten_append]
      rw [HXX.out.2.2.2.1] at f3
      simpa [nameBytes] using f3
     case measure=>simp [intOf];omega
    ·have hl3:¬ (m:Int)<(it.names.length:Int):=by omega
     have hTn:it.names.take m=it.names:=List.take_of_length_le (by omega)
     rw [hTn] at hWw
     have HF:=Lib.hid (And.intro hKx (And.intro hWx hWw))
     clear hKx hWx hWw hTn
     go_wp2_with fail
     go_roundw
     case rel =>
      obtain ⟨f1,f2,f3⟩:=HF.out
      refine ⟨n+1,by go_num,hlt,f1,HWr10.out.trans f2,?_⟩
      have e1:(T.take (n+1))=T.take n++[(id,it)]:=by rw [List.take_succ_eq_append_getElem hlt,HST.out.2.2.2.2.1]
      rw [e1,List.map_append,List.flatten_append]
      rw [hpre2,HST.out.2.2.2.1] at f3
      simpa [itemBytes] using f3
     case measure=>simp [intOf];omega
  ·skip
   have hl2:¬ (n:Int)<(T.length:Int):=by omega
   have hTn:T.take n=T:=List.take_of_length_le (by omega)
   rw [hTn] at hW
   have HW:Hid (Wr wr w.heap.size p (treeBytes T)):=Lib.hid hW
   have HKw:=Lib.hid hKw
   clear hW hKw hWr hTn
   go_wp2_with fail
   refine (done_any _ _ _ wr HW.out (by omega)).mono ?_
   rintro e w9 ⟨⟨A',c',rfl,ho⟩,k9⟩
   have HF:=Lib.hid (And.intro ho k9)
   clear ho k9
   generalize hL:(treeBytes T).length=L at *
   go_wp2_with fail
   go_ret
   obtain ⟨ho,k9⟩:=HF.out
   subst hL
   exact ⟨⟨A',c',rfl,ownsRow_base_a ho HKw.out.size⟩,(HKw.out.new k9).toNew fun b hb=>hb⟩
end
structure SnapP where
 id:Int
 hash:List UInt8
 T:TreeP
structure SnapsP where
 list:List SnapP
 next:Int
 last:List UInt8
def noSnaps:SnapsP:=⟨[],1,[]⟩
structure SnapB where
 A:Option Addr
 ca:Nat
 bt:Nat
 q:TreeB
structure SnapsB where
 A:Option Addr
 ca:Nat
 L:Option Addr
 cl:Nat
 β:Nat→SnapB
structure SnapAt (w:World) (c:Col) (vs:List Value) (i:Nat) (β:SnapB) (s:SnapP):Prop where
 id:vs[i]?=some (.int .i64 s.id)
 hash:vs[i+1]?=some (.slice β.A s.hash.length β.ca)
 tree:vs[i+2]?=some (.pointer (some ⟨β.bt,0,none⟩))
 cap:s.hash.length≤β.ca∧β.ca≤9223372036854775807
 bytes:Bs w (fun b=>c b=0) β.A s.hash.length s.hash
 at_:TreeAt w c 0 β.bt β.q s.T
structure SnapsAt (w:World) (c:Col) (i:Nat) (bs:Nat) (Q:SnapsB) (ns:SnapsP):Prop where
 snaps:w.heap[bs]?=some (.cells #[.slice Q.A ns.list.length Q.ca,.int .i64 ns.next,.slice Q.L ns.last.length Q.cl] 216 (0,0))
 col:c bs=i∧∀ g,blk Q.A=some g→c g=i∧g≠bs
 last:ns.last.length≤Q.cl∧Q.cl≤9223372036854775807∧Bs w (fun b=>c b=0) Q.L ns.last.length ns.last
 row:∃ vs,Own w 0 227 3 Q.A ns.list.length Q.ca vs∧∀ k (h:k<ns.list.length),SnapAt w c vs (k*3) (Q.β k) ns.list[k]
section
variable {w w':World}{c c':Col}{i bs:Nat}{Q:SnapsB}{ns:SnapsP}{F:Nat→Prop}{vs:List Value}{k:Nat}{β:SnapB}{s:SnapP}
theorem bs_col {A:Option Addr}{n:Nat}{b:List UInt8}(h:Bs w (fun b=>c b=0) A n b) (hk:Keep F w w') (hx:Ext w c c') (h0:∀ b,b<w.heap.size→c b=0→F b):Bs w' (fun b=>c' b=0) A n b :=
 (((h.imp (E:=fun b=>c b=0∧c' b=0) fun b hb hd=>⟨hd,(hx b hb).trans hd⟩).keep hk (fun b hb hd=>h0 b hb hd.1)).imp fun _b _ hd=>hd.2)
theorem SnapAt.keep (h:SnapAt w c vs k β s) (hk:Keep F w w') (hx:Ext w c c') (h0:∀ b,b<w.heap.size→c b=0→F b):SnapAt w' c' vs k β s :=
 ⟨h.id,h.hash,h.tree,h.cap,bs_col h.bytes hk hx h0,h.at_.keep hk hx fun b hb hc=>h0 b hb (hc.elim (fun x=>x) fun x=>x)⟩
theorem SnapsAt.lt (h:SnapsAt w c i bs Q ns):bs<w.heap.size:=(Array.getElem?_eq_some_iff.1 h.snaps).1
theorem SnapsAt.keep (h:SnapsAt w c i bs Q ns) (hk:Keep F w w') (hx:Ext w c c') (hF:∀ b,b<w.heap.size→c b=i∨c b=0→F b):SnapsAt w' c' i bs Q ns:=by
 obtain ⟨vs,h1,h2⟩:=h.row
 exact ⟨(hk.block bs h.lt (hF _ h.lt (.inl h.col.1))).trans h.snaps,⟨(hx _ h.lt).trans h.col.1,fun g hg=>⟨(hx _ (own_lt h1 g hg).2).trans (h.col.2 g hg).1,(h.col.2 g hg).2⟩⟩,
  ⟨h.last.1,h.last.2.1,bs_col h.last.2.2 hk hx fun b hb hc=>hF b hb (.inr hc)⟩,
  vs,own_keep h1 hk (fun g hg=>hF g (own_lt h1 g hg).2 (.inl (h.col.2 g hg).1)),fun k hk'=>(h2 k hk').keep hk hx fun b hb hc=>hF b hb (.inr hc)⟩
theorem SnapsAt.new (h:SnapsAt w c i bs Q ns) (hk:New w w'):SnapsAt w' c i bs Q ns:=h.keep hk (Ext.refl _ _) fun _ _ _=>trivial
theorem SnapsAt.at3 (h:SnapsAt w c i bs Q ns){k:Nat}(hk:k<ns.list.length):∃ g,Q.A=some ⟨g,0,none⟩∧g<w.heap.size∧w.cell? ⟨g,k*3,none⟩=some (.int .i64 ns.list[k].id)∧w.cell? ⟨g,k*3+1,none⟩=some (.slice (Q.β k).A ns.list[k].hash.length (Q.β k).ca)∧w.cell? ⟨g,k*3+2,none⟩=some (.pointer (some ⟨(Q.β k).bt,0,none⟩)) ∧
  ns.list[k].hash.length≤(Q.β k).ca∧(Q.β k).ca≤9223372036854775807∧Bs w (fun b=>c b=0) (Q.β k).A ns.list[k].hash.length ns.list[k].hash∧TreeAt w c 0 (Q.β k).bt (Q.β k).q ns.list[k].T:=by
 obtain ⟨vs,h1,h2⟩:=h.row
 have hs:=h2 k hk
 obtain ⟨g,cap,hv,hb,hlt⟩:=h1.form (by omega)
 have hA:Q.A=some ⟨g,0,none⟩:=by injection hv
 have hc:∀ j u,vs[j]?=some u→w.cell? ⟨g,j,none⟩=some u:=fun j u hu=>by
  have:=h1.cells (g:=g) (by rw [hA];rfl) j u hu
  simpa [Addr.add_lit] using this
 exact ⟨g,hA,hlt,hc _ _ hs.id,hc _ _ hs.hash,hc _ _ hs.tree,hs.cap.1,hs.cap.2,hs.bytes,hs.at_⟩
theorem snew_any (c:Col) (i:Nat) (w:World):
  Calls Tryz.prog 119 #[] w fun e w'=>∃ (bs:Nat) (Q:SnapsB) (c':Col),e=.returned (.pointer (some ⟨bs,0,none⟩))∧New w w'∧w.heap.size≤bs∧Ext w c c'∧SnapsAt w' c' i bs Q noSnaps:=by
 go_enter Tryz.func119,Tryz.ntmps119
 go_wp2_with fail
 go_ret
 refine ⟨w.heap.size,⟨none,0,none,0,fun _=>⟨none,0,0,⟨0,fun _=>0,fun _=>0⟩⟩⟩,c.on w.heap.size fun _=>i,rfl,(New.refl w).alloc _,Nat.le_refl _,c.on_ext w _,heap_alloc_new w _,⟨c.on_new _ (Nat.le_refl _),fun g hg=>by cases hg⟩,⟨Nat.le_refl _,by decide,Row.nil _ _ _ _⟩,[],Own.nil _ _ _ _,fun k hk=>absurd hk (Nat.not_lt_zero k)⟩
end
def snapBytes (s:SnapP):List UInt8:=beI 8 s.id++lenBytes s.hash++beI 8 (treeBytes s.T).length++treeBytes s.T
def snapsBytes (ns:SnapsP):List UInt8:=beI 8 ns.next++lenBytes ns.last++beI 1 ns.list.length++(ns.list.map snapBytes).flatten
structure SnapsOk (ns:SnapsP):Prop where
 few:ns.list.length≤8
 tree:∀ s∈ns.list,TreeOk s.T∧(treeBytes s.T).length≤100000000000
theorem snapBytes_le {s:SnapP}(h:(treeBytes s.T).length≤100000000000):(snapBytes s).length≤100000100000:=by
 unfold snapBytes
 have:=lenBytes_le s.hash
 rw [List.length_append,List.length_append,List.length_append,beI_length,beI_length]
 omega
theorem snapsBytes_le {ns:SnapsP}(h:SnapsOk ns):(snapsBytes ns).length≤800001000000:=by
 unfold snapsBytes
 have h1:=flatten_le snapBytes 100000100000 ns.list fun s hs=>snapBytes_le (h.tree s hs).2
 have h2:=lenBytes_le ns.last
 rw [List.length_append,List.length_append,List.length_append,beI_length,beI_length]
 have:ns.list.length*100000100000≤8*100000100000:=Nat.mul_le_mul_right _ h.few
 omega
section
variable {w:World}{c:Col}{i bs:Nat}{Q:SnapsB}{ns:SnapsP}
theorem Writ.cell_ne {w0 w':World}{p g k:Nat}{u:Value}(h:Writ w0 w' p) (hn:g≠p∧some g≠rowBlk w0 p) (hc:w0.cell? ⟨g,k,none⟩=some u):w'.cell? ⟨g,k,none⟩=some u:=h.keep.cell_some hc hn
theorem ssave_any (h:SnapsAt w c i bs Q ns) (hN:SnapsOk ns):
  Calls Tryz.prog 122 #[.pointer (some ⟨bs,0,none⟩)] w fun e w'=>(∃ A' c',e=.returned (.slice A' (snapsBytes ns).length c')∧OwnB w' w.heap.size 5 A' (snapsBytes ns).length c' (snapsBytes ns))∧New w w':=by
 have HT:=Lib.hid h
 have HO:=Lib.hid hN
 have hfew:=hN.few
 have htl:=snapsBytes_le hN
 have hlt:=h.lt
 have c0:w.cell? ⟨bs,0,none⟩=some (.slice Q.A ns.list.length Q.ca):=cellOf h.snaps (k:=0) rfl
 have c1:w.cell? ⟨bs,1,none⟩=some (.int .i64 ns.next):=cellOf h.snaps (k:=1) rfl
 have c2:w.cell? ⟨bs,2,none⟩=some (.slice Q.L ns.last.length Q.cl):=cellOf h.snaps (k:=2) rfl
 have HC:=Lib.hid (And.intro c0 (And.intro c1 c2))
 have hr:=wrap_u64_bd ns.next
 have HE:=Lib.hid (beI_wrap 8 ns.next (by decide))
 clear h hN c0 c1 c2
 go_enter Tryz.func122,Tryz.ntmps122
 go_wp2_with fail
 refine (newWriter_any w).mono ?_
 rintro e w1 ⟨⟨p,rfl,hW1⟩,k1⟩
 have y1:=k1.cell_some HC.out.2.1 trivial
 have HB:=Lib.hid (Keep.of_new (D:=fun b=>b<w.heap.size) k1)
 have HW:=Lib.hid hW1
 clear hW1 k1
 go_wp2_with fail
 refine (wlong_any _ _ _ (IntKind.u64.wrap ns.next) w1 HW.out hr.1 hr.2 (by decide)).mono ?_
 rintro e w2 ⟨rfl,hW,hk⟩
 rw [HE.out] at hW
 replace HB:=Lib.hid (HB.out.trans hk)
 replace HW:=Lib.hid hW
 clear hW hk y1
 have y2:=HB.out.cell_some HC.out.2.2 hlt
 go_wp2_with fail
 refine (wbytes_any _ _ (fun b=>b<w.heap.size) Q.L ns.last.length Q.cl _ ns.last w2 HW.out ((HT.out.last.2.2.imp (E:=fun b=>b<w.heap.size) fun b hb _=>hb).keep HB.out fun b hb _=>by assumption) (fun b hb=>hb) HT.out.last.1 (Nat.le_trans HT.out.last.1 HT.out.last.2.1) (by simp [beI_length])).mono ?_
 rintro e w3 ⟨rfl,hW,hk⟩
 replace HB:=Lib.hid (HB.out.trans hk)
 replace HW:=Lib.hid hW
 clear hW hk y2
 have y0:=HB.out.cell_some HC.out.1 hlt
 go_wp2_with fail
 refine (wbyte_any _ _ _ (ns.list.length:Int) w3 HW.out (by have:=lenBytes_le ns.last;simp [beI_length];omega)).mono ?_
 rintro e w4 ⟨rfl,hW,hk⟩
 replace HB:=Lib.hid (HB.out.trans hk)
 replace HW:=Lib.hid hW
 clear hW hk y0
 have y0:=HB.out.cell_some HC.out.1 hlt
 obtain ⟨pre0,hpre0⟩:∃ x,x=[]++beI 8 ns.next++lenBytes ns.last++beI 1 ns.list.length:=⟨_,rfl⟩
 have hp0:pre0.length≤70000:=by rw [hpre0];have:=lenBytes_le ns.last;simp [beI_length];omega
 have HP0:=Lib.hid hpre0
 rw [← hpre0] at HW
 clear hpre0
 go_wp2_with fail
 clear y0
 go_loopw [33] (fun s33 wx=>∃ n:Nat,s33=.int .i64 (n:Int)∧n≤ns.list.length∧Keep (fun b=>b<w.heap.size) w wx∧Wr wx w.heap.size p (pre0++((ns.list.take n).map snapBytes).flatten)) (fun s33 _=>ns.list.length-(intOf s33).toNat)
 case atStart=>exact ⟨0,rfl,Nat.zero_le _,HB.out,by simpa using HW.out⟩
 case round =>
  obtain ⟨n,rfl,hnl,hKw,hW⟩:=hrel
  by_cases hlt2:n<ns.list.length
  ·skip
   have hl2:(n:Int)<(ns.list.length:Int):=by omega
   obtain ⟨s,hs⟩:∃ s,s=ns.list[n]:=⟨_,rfl⟩
   obtain ⟨g,hA,hgl,z0,z1,z2,hh1,hh2,hbs,htr⟩:=HT.out.at3 hlt2
   have hok:=HO.out.tree ns.list[n] (List.getElem_mem hlt2)
   rw [← hs] at z0 z1 hh1 hbs htr hok
   have hbnd:(pre0++((ns.list.take n).map snapBytes).flatten).length≤800001000000:=by
    have h1:=flatten_le snapBytes 100000100000 (ns.list.take n) fun s hs=>snapBytes_le (HO.out.tree s (List.mem_of_mem_take hs)).2
    rw [List.length_append]
    have:(ns.list.take n).length*100000100000≤8*100000100000:=Nat.mul_le_mul_right _ (by rw [List.length_take];omega)
    omega
   obtain ⟨pre,hpre⟩:∃ x,x=pre0++((ns.list.take n).map snapBytes).flatten:=⟨_,rfl⟩
   rw [← hpre] at hW hbnd
   have q0:=hKw.cell_some z0 hgl
   have q1:=hKw.cell_some z1 hgl
   have q2:=hKw.cell_some z2 hgl
   have hA2:Q.A=some ⟨g,0,none⟩:=hA
   have HST:=Lib.hid (And.intro hKw (And.intro hW (And.intro hpre (And.intro hs (And.intro hbs (And.intro htr (And.intro hok (And.intro hh1 hh2))))))))
   rw [hA]
   obtain ⟨bq,hbq⟩:∃ b,b=(Q.β n).bt:=⟨_,rfl⟩
   obtain ⟨aq,haq⟩:∃ b,b=(Q.β n).A:=⟨_,rfl⟩
   obtain ⟨cq,hcq⟩:∃ b,b=(Q.β n).ca:=⟨_,rfl⟩
   rw [← haq,← hcq] at q1
   rw [← hbq] at q2
   have HQ:=Lib.hid (And.intro hbq (And.intro haq hcq))
   clear hKw hW hpre hs hbs htr hok hh1 hh2 z0 z1 z2 hA hA2 hbq haq hcq
   go_upto_region 8 with fail
   have kA:=(New.refl wr).alloc (.cells #[.int .i64 s.id,.slice aq s.hash.length cq,.pointer (some ⟨bq,0,none⟩)] 227)
   have xA:=heap_alloc_new wr (.cells #[.int .i64 s.id,.slice aq s.hash.length cq,.pointer (some ⟨bq,0,none⟩)] 227)
   generalize wr.alloc (.cells #[.int .i64 s.id,.slice aq s.hash.length cq,.pointer (some ⟨bq,0,none⟩)] 227)=w5 at *
   obtain ⟨gs,hgs⟩:∃ gs,gs=wr.heap.size:=⟨_,rfl⟩
   rw [← hgs] at xA ⊢
   obtain ⟨s0,s1,s2⟩:=cs3 xA
   have HS:=Lib.hid (And.intro s0 s1)
   have HKA:=Lib.hid kA
   have HGS:=Lib.hid hgs
   clear kA xA q0 q1 q2 s0 s1 hgs
   have HTS:=Lib.hid (tsave_any (((HST.out.2.2.2.2.2.1).keep (Keep.new HST.out.1 HKA.out) (Ext.refl _ _) fun b hb _=>hb)) HST.out.2.2.2.2.2.2.1.1)
   rw [← HQ.out.1] at HTS
   go_wp2_with fail
   refine HTS.out.mono ?_
   rintro e w6 ⟨⟨At,ct,rfl,ot⟩,k6⟩
   obtain ⟨hKw,hW,hpre,hs,hbs,htr,hok,hh1,hh2⟩:=HST.out
   have HNE:Hid (gs≠p∧some gs≠rowBlk w6 p):=Lib.hid ⟨by have:=hW.lt;have:=HGS.out;omega,fun e=>by have:=rowBlk_new hW (HKA.out.new k6) gs e.symm;have:=HGS.out;omega⟩
   have hs0:=k6.cell_some HS.out.1 trivial
   have HS6:=Lib.hid (And.intro hs0 (k6.cell_some HS.out.2 trivial))
   have HB6:=Lib.hid ((hKw.new HKA.out).new k6)
   have HW6:=Lib.hid ((hW.newW HKA.out).newW k6)
   have HOT:=Lib.hid ot
   have HK6:=Lib.hid k6
   have HTL:=Lib.hid hok.2
   have hlp:pre.length≤800001000000:=hbnd
   have hsr:=wrap_u64_bd s.id
   have HSE:=Lib.hid (beI_wrap 8 s.id (by decide))
   obtain ⟨tb,htb⟩:∃ tb,tb=treeBytes s.T:=⟨_,rfl⟩
   rw [← htb] at HOT HTL ⊢
   obtain ⟨tn,htn⟩:∃ tn,tn=tb.length:=⟨_,rfl⟩
   rw [← htn] at HOT HTL ⊢
   have HTN:=Lib.hid (And.intro htb htn)
   clear hKw hW hpre hs hbs htr hok hh1 hh2 ot k6 s2 HS HTS htb htn
   go_wp2_with fail
   refine (wlongW_any _ _ _ (IntKind.u64.wrap s.id) w6 HW6.out hsr.1 hsr.2 (by omega)).mono ?_
   rintro e w7 ⟨rfl,hW,hR⟩
   rw [HSE.out] at hW
   have HB7:=Lib.hid (HB6.out.trans (HW6.out.low hR))
   have HR7:=Lib.hid hR
   have HW7:=Lib.hid hW
   have s1:=hR.cell_ne HNE.out HS6.out.2
   clear hW hR hs0
   go_wp2_with fail
   refine (wbytesW_any _ _ (fun b=>b<w.heap.size) aq s.hash.length cq _ s.hash w7 HW7.out (by rw [HQ.out.2.1];exact ((HST.out.2.2.2.2.1).imp (E:=fun b=>b<w.heap.size) fun b hb _=>hb).keep HB7.out fun b hb _=>by assumption) (fun b hb=>⟨by have:=HW7.out.hp;omega,fun e=>by have:=(HW7.out.rowLt b e.symm).1;omega⟩) (by rw [HQ.out.2.2];exact HST.out.2.2.2.2.2.2.2.1) (by have:=HST.out.2.2.2.2.2.2.2;omega) (by rw [List.length_append,beI_length];omega)).mono ?_
   rintro e w8 ⟨rfl,hW,hR⟩
   have HB8:=Lib.hid (HB7.out.trans (HW7.out.low hR))
   have HR8:=Lib.hid (HR7.out.trans hR)
   have HW8:=Lib.hid hW
   clear hW hR s1
   go_wp2_with fail
   have hhl:=lenBytes_le s.hash
   have hl8:(pre++beI 8 s.id++lenBytes s.hash).length≤pre.length+70000:=by rw [List.length_append,List.length_append,beI_length];omega
   have htl2:=HTL.out
   have htr2:=wrap_u64_bd (tn:Int)
   refine (wlongW_any _ _ _ (IntKind.u64.wrap (tn:Int)) w8 HW8.out htr2.1 htr2.2 (by omega)).mono ?_
   rintro e w9 ⟨rfl,hW,hR⟩
   rw [beI_wrap 8 (tn:Int) (by decide)] at hW
   have HB9:=Lib.hid (HB8.out.trans (HW8.out.low hR))
   have HR9:=Lib.hid (HR8.out.trans hR)
   have HW9:=Lib.hid hW
   clear hW hR
   have hbt:=((Row.of_own HOT.out).imp (E:=fun b=>b≠p∧some b≠rowBlk w6 p) fun b hb hd=>⟨by have:=HNE.out.1;have:=HST.out.2.1.lt;have:=HKA.out.size;omega,fun e=>by have:=rowBlk_new (HST.out.2.1.newW HKA.out) HK6.out b e.symm;omega⟩)
   go_wp2_with fail
   refine (rawW_any _ _ _ At tn ct _ tb w9 HW9.out (hbt.keep HR9.out.keep fun b _ hb=>hb) (by rw [List.length_append,beI_length];omega)).mono ?_
   rintro e w10 ⟨rfl,hW,hR⟩
   have HF:=Lib.hid (And.intro (HB9.out.trans (HW9.out.low hR)) hW)
   clear hW hR hbt
   go_wp2_with fail
   go_roundw
   case rel =>
    obtain ⟨f1,f2⟩:=HF.out
    refine ⟨n+1,by go_num,hlt2,f1,?_⟩
    have e1:(ns.list.take (n+1))=ns.list.take n++[s]:=by rw [List.take_succ_eq_append_getElem hlt2,HST.out.2.2.2.1]
    rw [e1,List.map_append,List.flatten_append]
    rw [HST.out.2.2.1,HTN.out.2,HTN.out.1] at f2
    simpa [snapBytes] using f2
   case measure=>simp [intOf];omega
  ·skip
   have hl2:¬ (n:Int)<(ns.list.length:Int):=by omega
   have hTn:ns.list.take n=ns.list:=List.take_of_length_le (by omega)
   rw [hTn,HP0.out,List.nil_append] at hW
   have HW:Hid (Wr wr w.heap.size p (snapsBytes ns)):=Lib.hid hW
   have HKw:=Lib.hid hKw
   clear hW hKw hTn
   go_wp2_with fail
   refine (done_any _ _ _ wr HW.out (by omega)).mono ?_
   rintro e w9 ⟨⟨A',c',rfl,ho⟩,k9⟩
   have HF:=Lib.hid (And.intro ho k9)
   clear ho k9
   generalize hL:(snapsBytes ns).length=L at *
   go_wp2_with fail
   go_ret
   obtain ⟨ho,k9⟩:=HF.out
   subst hL
   exact ⟨⟨A',c',rfl,ownsRow_base_a ho HKw.out.size⟩,(HKw.out.new k9).toNew fun b hb=>hb⟩
end
structure FdP where
 writing:Bool
 id:Int
 b:List UInt8
structure StateP where
 T:TreeP
 S:SnapsP
 now:Int
 fd:Nat→Option FdP
def stateNew:StateP:=⟨[(0,freshItem 2)],noSnaps,0,fun _=>none⟩
structure StateB where
 bt:Nat
 q:TreeB
 bs:Nat
 Q:SnapsB
 fd:Nat→Option Nat
def StateB.ptr (B:StateB) (k:Nat):Value:=.pointer ((B.fd k).map fun b=>⟨b,0,none⟩)
def FdAt (w:World) (c:Col):Option Nat→Option FdP→Prop
 | none,none=>True
 | some b,some f=>c b=0∧∃ A cp,w.heap[b]?=some (.cells #[.bool f.writing,.int .i64 f.id,.slice A f.b.length cp] 312 (0,0))∧f.b.length≤cp∧cp≤9223372036854775807∧Bs w (fun b=>c b=0) A f.b.length f.b
 | _,_=>False
def stateCells (B:StateB) (now:Int):Array Value:=#[.pointer (some ⟨B.bt,0,none⟩),.pointer (some ⟨B.bs,0,none⟩),.int .u64 now,B.ptr 0,B.ptr 1,B.ptr 2,B.ptr 3,B.ptr 4,B.ptr 5,B.ptr 6,B.ptr 7]
structure Cols where
 t:Nat
 s:Nat
 o:Nat
structure Cols.Ok (i:Cols):Prop where
 nz:i.t≠0∧i.s≠0∧i.o≠0
 ne:i.t≠i.s∧i.t≠i.o∧i.s≠i.o
def Cols.has (i:Cols) (k:Nat):Prop:=k=i.t∨k=i.s∨k=i.o
structure StateAt (w:World) (c:Col) (i:Cols) (b:Nat) (B:StateB) (s:StateP):Prop where
 state:w.heap[b]?=some (.cells (stateCells B s.now) 180 (0,0))
 col:c b=i.o
 tree:TreeAt w c i.t B.bt B.q s.T
 snaps:SnapsAt w c i.s B.bs B.Q s.S
 fd:∀ k,k<8→FdAt w c (B.fd k) (s.fd k)
 ok:i.Ok
section
variable {w w':World}{c c':Col}{i:Cols}{b:Nat}{B:StateB}{s:StateP}{F:Nat→Prop}
theorem FdAt.keep {a:Option Nat}{f:Option FdP}(h:FdAt w c a f) (hk:Keep F w w') (hx:Ext w c c') (h0:∀ b,b<w.heap.size→c b=0→F b):FdAt w' c' a f:=by
 cases a with
 | none=>cases f with|none=>trivial|some _=>exact h.elim
 | some b=>cases f with
  | none=>exact h.elim
  | some f =>
   obtain ⟨h1,A,cp,h2,h3,h4,h5⟩:=h
   have hl:=(Array.getElem?_eq_some_iff.1 h2).1
   exact ⟨(hx b hl).trans h1,A,cp,(hk.block b hl (h0 b hl h1)).trans h2,h3,h4,bs_col h5 hk hx h0⟩
theorem StateAt.lt (h:StateAt w c i b B s):b<w.heap.size:=(Array.getElem?_eq_some_iff.1 h.state).1
theorem StateAt.keep (h:StateAt w c i b B s) (hk:Keep F w w') (hx:Ext w c c') (hF:∀ b,b<w.heap.size→i.has (c b)∨c b=0→F b):StateAt w' c' i b B s :=
 ⟨(hk.block b h.lt (hF _ h.lt (.inl (.inr (.inr h.col))))).trans h.state,(hx b h.lt).trans h.col,h.tree.keep hk hx fun b hb hc=>hF b hb (hc.imp_left .inl),h.snaps.keep hk hx fun b hb hc=>hF b hb (hc.imp_left fun e=>.inr (.inl e)),fun k hk'=>(h.fd k hk').keep hk hx fun b hb hc=>hF b hb (.inr hc),h.ok⟩
theorem StateAt.new (h:StateAt w c i b B s) (hk:New w w'):StateAt w' c i b B s:=h.keep hk (Ext.refl _ _) fun _ _ _=>trivial
def StateRet (w:World) (c:Col) (i:Cols) (s:StateP) (e:Ending) (w':World):Prop:=∃ (b:Nat) (B:StateB) (c':Col),e=.returned (.pointer (some ⟨b,0,none⟩))∧New w w'∧w.heap.size≤b∧Ext w c c'∧StateAt w' c' i b B s
theorem stnew_any (c:Col) (i:Cols) (hi:i.Ok) (w:World):Calls Tryz.prog 93 #[] w (StateRet w c i stateNew):=by
 have HT:=Lib.hid (tnew_any c i.t hi.nz.1 w)
 go_enter Tryz.func93,Tryz.ntmps93
 go_wp2_with fail
 refine HT.out.mono ?_
 rintro e w1 ⟨bt,q,c1,rfl,k1,z1,x1,t1⟩
 have H1:=Lib.hid (And.intro k1 (And.intro z1 (And.intro x1 t1)))
 clear k1 z1 x1 t1 HT
 go_wp2_with fail
 refine (snew_any c1 i.s w1).mono ?_
 rintro e w2 ⟨bs,Q,c2,rfl,k2,z2,x2,t2⟩
 have H2:=Lib.hid (And.intro k2 (And.intro z2 (And.intro x2 t2)))
 clear k2 z2 x2 t2
 go_wp2_with fail
 go_ret
 obtain ⟨k1,z1,x1,t1⟩:=H1.out
 obtain ⟨k2,z2,x2,t2⟩:=H2.out
 have k3:=(New.refl w2).alloc (.cells (stateCells ⟨bt,q,bs,Q,fun _=>none⟩ 0) 180)
 have x3:=heap_alloc_new w2 (.cells (stateCells ⟨bt,q,bs,Q,fun _=>none⟩ 0) 180)
 have e3:=c2.on_ext w2 fun _=>i.o
 refine ⟨w2.heap.size,⟨bt,q,bs,Q,fun _=>none⟩,c2.on w2.heap.size fun _=>i.o,rfl,(k1.new k2).new k3,Nat.le_trans k1.size k2.size,(x1.trans x2 k1.size).trans e3 (Nat.le_trans k1.size k2.size),x3,c2.on_new _ (Nat.le_refl _),(t1.keep k2 x2 fun _ _ _=>trivial).keep k3 e3 fun _ _ _=>trivial,t2.keep k3 e3 fun _ _ _=>trivial,fun k _=>trivial,hi⟩
end
def stBytes (s:StateP):List UInt8:=beI 8 s.now++beI 8 (treeBytes (committedT s.T)).length++treeBytes (committedT s.T)++snapsBytes s.S
structure StateOk (s:StateP):Prop where
 now:0≤s.now∧s.now≤18446744073709551615
 few:s.T.length≤100000
 key:∀ p∈s.T,-9223372036854775808≤p.1∧p.1≤9223372036854775807
 tree:TreeOk (committedT s.T)
 size:(treeBytes (committedT s.T)).length≤100000000000
 snaps:SnapsOk s.S
theorem stBytes_le {s:StateP}(h:StateOk s):(stBytes s).length≤900002000000:=by
 unfold stBytes
 have:=snapsBytes_le h.snaps
 have:=h.size
 rw [List.length_append,List.length_append,List.length_append,beI_length,beI_length]
 omega
section
variable {w:World}{c:Col}{i:Cols}{b:Nat}{B:StateB}{s:StateP}
theorem stsave_any (h:StateAt w c i b B s) (hS:StateOk s):
  Calls Tryz.prog 94 #[.pointer (some ⟨b,0,none⟩)] w fun e w'=>(∃ A' c',e=.returned (.slice A' (stBytes s).length c')∧OwnB w' w.heap.size 5 A' (stBytes s).length c' (stBytes s))∧New w w':=by
 have HS:=Lib.hid h
 have HO:=Lib.hid hS
 have hlt:=h.lt
 have c0:w.cell? ⟨b,0,none⟩=some (.pointer (some ⟨B.bt,0,none⟩)):=cellOf h.state (k:=0) rfl
 have c1:w.cell? ⟨b,1,none⟩=some (.pointer (some ⟨B.bs,0,none⟩)):=cellOf h.state (k:=1) rfl
 have c2:w.cell? ⟨b,2,none⟩=some (.int .u64 s.now):=cellOf h.state (k:=2) rfl
 have HC:=Lib.hid (And.intro c1 c2)
 have HCM:=Lib.hid (committed_any h.tree hS.few hS.key 0)
 obtain ⟨tb,htb⟩:∃ tb,tb=treeBytes (committedT s.T):=⟨_,rfl⟩
 obtain ⟨tn,htn⟩:∃ tn,tn=tb.length:=⟨_,rfl⟩
 have htl:tn≤100000000000:=by rw [htn,htb];exact hS.size
 have hsl:=snapsBytes_le hS.snaps
 obtain ⟨sb,hsb⟩:∃ sb,sb=snapsBytes s.S:=⟨_,rfl⟩
 obtain ⟨sn,hsn⟩:∃ sn,sn=sb.length:=⟨_,rfl⟩
 have hsl2:sn≤800001000000:=by rw [hsn,hsb];exact hsl
 have HSB:Hid (stBytes s=[]++beI 8 s.now++beI 8 tn++tb++sb):=Lib.hid (by rw [hsb,htn,htb];unfold stBytes;simp)
 have HLEN:Hid ((stBytes s).length≤1000000000000):=Lib.hid (by have:=stBytes_le hS;omega)
 have HTB:=Lib.hid (And.intro htb htn)
 have HSN:=Lib.hid (And.intro hsb hsn)
 have hnow:=hS.now
 obtain ⟨L,hL⟩:∃ L,L=(stBytes s).length:=⟨_,rfl⟩
 have HL:=Lib.hid hL
 rw [← hL]
 clear h hS c1 c2 htb htn hsb hsn hsl hL
 go_enter Tryz.func94,Tryz.ntmps94
 go_wp2_with fail
 refine HCM.out.mono ?_
 rintro e w1 ⟨bt',q',c',rfl,k1,z1,x1,t1⟩
 have HTS:=Lib.hid (tsave_any t1 HO.out.tree)
 rw [← HTB.out.1,← HTB.out.2] at HTS
 have HK1:=Lib.hid k1
 clear k1 z1 x1 t1 c0 HCM
 go_wp2_with fail
 refine HTS.out.mono ?_
 rintro e w2 ⟨⟨At,ct,rfl,ot⟩,k2⟩
 have HK2:=Lib.hid (HK1.out.new k2)
 have HOT:=Lib.hid ot
 clear ot k2 HTS
 go_wp2_with fail
 refine (newWriter_any w2).mono ?_
 rintro e w3 ⟨⟨p,rfl,hW3⟩,k3⟩
 have HB:=Lib.hid (Keep.of_new (D:=fun b=>b<w2.heap.size) k3)
 have HW:=Lib.hid hW3
 have hz:b<w2.heap.size:=Nat.lt_of_lt_of_le hlt HK2.out.size
 have y2:=(HK2.out.new k3).cell_some HC.out.2 trivial
 clear hW3 k3
 go_wp2_with fail
 refine (wlong_any _ _ _ s.now w3 HW.out hnow.1 hnow.2 (by decide)).mono ?_
 rintro e w4 ⟨rfl,hW,hk⟩
 replace HB:=Lib.hid (HB.out.trans hk)
 replace HW:=Lib.hid hW
 clear hW hk y2
 go_wp2_with fail
 refine (wlong_any _ _ _ (tn:Int) w4 HW.out (by omega) (by omega) (by simp [beI_length])).mono ?_
 rintro e w5 ⟨rfl,hW,hk⟩
 replace HB:=Lib.hid (HB.out.trans hk)
 replace HW:=Lib.hid hW
 clear hW hk
 go_wp2_with fail
 refine (raw_any _ _ (fun b=>b<w2.heap.size) At tn ct _ tb w5 HW.out (((Row.of_own HOT.out).imp (E:=fun b=>b<w2.heap.size) fun b hb _=>hb).keep HB.out fun b hb _=>by assumption) (by rw [List.length_append,List.length_append,beI_length,beI_length];simp;omega)).mono ?_
 rintro e w6 ⟨rfl,hW,hk⟩
 replace HB:=Lib.hid (HB.out.trans hk)
 replace HW:=Lib.hid hW
 clear hW hk
 have y1:w6.cell? ⟨b,1,none⟩=some (.pointer (some ⟨B.bs,0,none⟩)):=HB.out.cell_some (HK2.out.cell_some HC.out.1 trivial) hz
 have HSS:=Lib.hid (ssave_any ((HS.out.snaps.new HK2.out).keep HB.out (Ext.refl _ _) fun b hb _=>hb) HO.out.snaps)
 rw [← HSN.out.1,← HSN.out.2] at HSS
 go_wp2_with fail
 refine HSS.out.mono ?_
 rintro e w7 ⟨⟨As,cs,rfl,os⟩,k7⟩
 replace HB:=Lib.hid (HB.out.new k7)
 replace HW:=Lib.hid (HW.out.keep k7 fun _ _=>trivial)
 have HOS:=Lib.hid os
 clear os k7 HSS y1
 go_wp2_with fail
 refine (raw_any _ _ _ As sn cs _ sb w7 HW.out (Row.of_own HOS.out) (by rw [List.length_append,List.length_append,List.length_append,beI_length,beI_length,← HTB.out.2];simp;omega)).mono ?_
 rintro e w8 ⟨rfl,hW,hk⟩
 replace HB:=Lib.hid (HB.out.trans hk)
 rw [← HSB.out] at hW
 replace HW:=Lib.hid hW
 clear hW hk
 go_wp2_with fail
 refine (done_any _ _ _ w8 HW.out (by have:=HLEN.out;omega)).mono ?_
 rintro e w9 ⟨⟨A',c'',rfl,ho⟩,k9⟩
 rw [← HL.out] at ho ⊢
 have HF:=Lib.hid (And.intro ho k9)
 clear ho k9
 go_wp2_with fail
 go_ret
 obtain ⟨ho,k9⟩:=HF.out
 exact ⟨⟨A',c'',rfl,ownsRow_base_a ho (by have:=HB.out.size;have:=HK2.out.size;omega)⟩,HK2.out.new ((HB.out.new k9).toNew fun b hb=>hb)⟩
end
theorem committed_new:committedT stateNew.T=stateNew.T:=rfl
theorem stateNew_ok:StateOk stateNew where
 now:=by decide
 few:=by decide
 key:=by intro p hp;simp [stateNew] at hp;subst hp;decide
 tree:=by
  rw [committed_new]
  refine ⟨by decide,fun p hp=>?_,fun p hp=>?_,fun p hp=>?_⟩ <;> simp [stateNew] at hp <;> subst hp
  ·exact ⟨by decide,by decide,by decide,.inr ⟨rfl,rfl,rfl,rfl⟩⟩
  ·decide
  ·intro x hx;simp [freshItem] at hx
 size:=by decide
 snaps:=⟨by decide,fun s hs=>by simp [stateNew,noSnaps] at hs⟩
end Go.Proofs.YtdodbdednpnddaaGreatDoor
