/-
  PROVED HERE: what record.Decode answers; condition: fewer than 2^40 bytes.
-/
import Derived.Test.YtdodbdednpnddaaGreatDoorPkT10
set_option maxRecDepth 100000
set_option maxHeartbeats 2000000
namespace Go.Proofs.YtdodbdednpnddaaGreatDoor
open Go.RowKit
def noRec:RecP:=⟨0,0,[]⟩
def recParts (bs:List UInt8):RecP×Nat×List UInt8 :=
 let s1:=(RdS.mk bs 0).num 1
 let s2:=s1.2.num 8
 let s3:=s2.2.lenRow
 (⟨s1.1,s2.1,s3.1⟩,bs.length-s3.2.left,(s3.2.raw 4).1)
def recBad (bs:List UInt8):Bool:=decide (0<bs.length∧bs.getD 0 0≠1∧bs.getD 0 0≠2)
def recDec (bs:List UInt8):RecP×Nat×Int :=
 if recBad bs=true then (noRec,0,12)
 else if (recParts bs).2.2.length<4 then (noRec,0,10)
 else if (recParts bs).2.2≠be4 (crcSum (bs.take (recParts bs).2.1)) then (noRec,0,14)
 else if recRight (recParts bs).1=false then (noRec,0,12)
 else ((recParts bs).1,(recParts bs).2.1+4,0)
def RecRet (d:RecP×Nat×Int) (w:World) (e:Ending) (w':World):Prop :=
 (∃ A' c',e=.returned (.tuple #[.agg #[.int .i64 d.1.kind,.int .u64 d.1.seq,.slice A' d.1.body.length c'],.int .i64 (d.2.1:Nat),.int .i64 d.2.2])∧OwnB w' w.heap.size 5 A' d.1.body.length c' d.1.body)∧New w w'
theorem decode_bad (D:Nat→Prop) (A:Option Addr) (n c:Nat) (bs:List UInt8) (w:World) (hB:Bs w D A n bs) (hn:n≤1099511627776) (h:recBad bs=true):
  Calls Tryz.prog 300 #[.slice A n c] w (RecRet (noRec,0,12) w):=by
 have hl:=hB.len
 unfold recBad at h
 rw [decide_eq_true_eq] at h
 obtain ⟨h0,h1,h2⟩:=h
 obtain ⟨b,off,rfl,_,hlt,hc⟩:=hB.cellAt (by omega)
 have c0:=hc 0 h0
 rw [Nat.add_zero] at c0
 have e:bs.getD 0 0=bs[0]:=by rw [List.getD_eq_getElem?_getD,List.getElem?_eq_getElem h0];rfl
 rw [e] at h1 h2
 generalize bs[0]=x at *
 have t1:(bv x !=1)=true:=by rw [bne_iff_ne];exact fun h=>h1 (bv_inj (h.trans (by decide)))
 have t2:(bv x !=2)=true:=by rw [bne_iff_ne];exact fun h=>h2 (bv_inj (h.trans (by decide)))
 have hn0:(0:Int)<n:=by omega
 clear hc hB hl e h0 h1 h2
 go_enter Tryz.func300,Tryz.ntmps300
 go_wp2_with fail
 refine bodyPost_ret (v:=.tuple #[.agg #[.int .i64 0,.int .u64 0,.slice none 0 0],.int .i64 0,.int .i64 12]) (by simp [results,Tryz.results300,go_sem]) rfl ?_
 exact ⟨⟨none,0,rfl,Own.nil _ _ _ _⟩,(New.refl w).alloc _⟩
theorem set_three {w:World}{g:Nat}{a b c:Value}{t:TypeId}(h:w.heap[g]?=some (.cells #[a,b,c] t (0,0))) (x y z:Value):
  (((w.setCell ⟨g,0,none⟩ x).setCell ⟨g,1,none⟩ y).setCell ⟨g,2,none⟩ z).heap[g]?=some (.cells #[x,y,z] t (0,0)):=setCell_block (setCell_block (setCell_block h 0 x) 1 y) 2 z
theorem new_three {w0 w:World}(h:New w0 w){g:Nat}(hg:w0.heap.size≤g) (x y z:Value):New w0 (((w.setCell ⟨g,0,none⟩ x).setCell ⟨g,1,none⟩ y).setCell ⟨g,2,none⟩ z) :=
 ((h.setCell (p:=⟨g,0,none⟩) (fun _=>hg) x).setCell (p:=⟨g,1,none⟩) (fun _=>hg) y).setCell (p:=⟨g,2,none⟩) (fun _=>hg) z
theorem own_three {w:World}{base:Nat}{e:TypeId}{size n c:Nat}{A:Option Addr}{xs:List Value}(h:Own w base e size A n c xs){g:Nat}(hg:g<base) (x y z:Value):
  Own (((w.setCell ⟨g,0,none⟩ x).setCell ⟨g,1,none⟩ y).setCell ⟨g,2,none⟩ z) base e size A n c xs:=by
 have hne:blk A≠some g:=fun e=>by have:=(own_lt h g e).1;omega
 exact own_set (p:=⟨g,2,none⟩) (own_set (p:=⟨g,1,none⟩) (own_set (p:=⟨g,0,none⟩) h hne _) hne _) hne _
theorem lenRow_le (s:RdS):s.lenRow.2.bs.length≤s.bs.length∧s.lenRow.1.length≤s.bs.length:=by
 unfold RdS.lenRow
 have h1:=(s.raw_le 2).2.1
 have h2:=(s.num 2).2.raw_le (s.num 2).1
 have e:(s.num 2).2=(s.raw 2).2:=rfl
 rw [e] at h2 ⊢
 omega
theorem num_le (s:RdS) (k:Nat):(s.num k).2.bs.length≤s.bs.length:=(s.raw_le k).2.1
theorem left_le (s:RdS):s.left≤s.bs.length:=by unfold RdS.left;split <;> omega
theorem decode_go (D:Nat→Prop) (A:Option Addr) (n c:Nat) (bs:List UInt8) (w:World) (hB:Bs w D A n bs) (hnc:n≤c) (hn:n≤1099511627776) (h:recBad bs=false):
  Calls Tryz.prog 300 #[.slice A n c] w (RecRet (recDec bs) w):=by
 have hl:=hB.len
 have hD:Hid (recDec bs=if (recParts bs).2.2.length<4 then (noRec,0,10)
  else if (recParts bs).2.2≠be4 (crcSum (bs.take (recParts bs).2.1)) then (noRec,0,14)
  else if recRight (recParts bs).1=false then (noRec,0,12)
  else ((recParts bs).1,(recParts bs).2.1+4,0)):=Lib.hid (by unfold recDec;rw [if_neg (by rw [h];decide)])
 have hP:Hid (recParts bs=(⟨((RdS.mk bs 0).num 1).1,(((RdS.mk bs 0).num 1).2.num 8).1,(((RdS.mk bs 0).num 1).2.num 8).2.lenRow.1⟩,bs.length-(((RdS.mk bs 0).num 1).2.num 8).2.lenRow.2.left,((((RdS.mk bs 0).num 1).2.num 8).2.lenRow.2.raw 4).1)):=Lib.hid rfl
 rw [hP.out] at hD
 have k1:=num_le (RdS.mk bs 0) 1
 have k2:=num_le ((RdS.mk bs 0).num 1).2 8
 have k3:=lenRow_le (((RdS.mk bs 0).num 1).2.num 8).2
 have k4:=left_le (((RdS.mk bs 0).num 1).2.num 8).2.lenRow.2
 have r1:=num_lt (RdS.mk bs 0) 1
 have r2:=num_lt ((RdS.mk bs 0).num 1).2 8
 have hbk:Hid (RdS.mk bs 0=RdS.mk bs 0):=Lib.hid rfl
 have G1:=Lib.hid (fun p w' h=>rbyte_any p (RdS.mk bs 0) w' h)
 have hs0:(RdS.mk bs 0).bs.length=n:=hl
 rw [hs0] at k1
 generalize ((RdS.mk bs 0).num 1).1=ki at *
 generalize ((RdS.mk bs 0).num 1).2=s1 at *
 have G2:=Lib.hid (fun p w' h=>rlong_any p s1 w' h)
 generalize (s1.num 8).1=se at *
 generalize (s1.num 8).2=s2 at *
 have G3:=Lib.hid (fun p w' h=>rbytes_any p s2 w' h)
 generalize s2.lenRow.1=body at *
 generalize s2.lenRow.2=s3 at *
 have G4:=Lib.hid (fun p w' h=>rleft_any p s3 w' h)
 have G5:=Lib.hid (fun p w' h=>rraw_any p s3 4 w' h)
 generalize s3.left=lf at *
 generalize (s3.raw 4).1=want at *
 generalize (s3.raw 4).2=s4 at *
 rw [hl] at hD
 have hbl:body.length≤1099511627776:=by omega
 have hlf:lf≤n:=by omega
 have hse:se<18446744073709551616:=r2
 have hki:ki<256:=r1
 clear hP hbk k1 k2 k3 k4 r1 r2
 have hcuts:Bs w D A (n-lf) (bs.take (n-lf)):=hB.cutTo (by omega)
 have HCT:=Lib.hid hcuts
 have hsub:(n:Int)-lf=((n-lf:Nat):Int):=by omega
 have HSUB:=Lib.hid hsub
 have hB0:Bs (w.alloc (.cells #[.int .i64 0,.int .u64 0,.slice none 0 0] 188)) D A n bs:=hB.alloc _
 have hO0:=heap_alloc_new w (.cells #[.int .i64 0,.int .u64 0,.slice none 0 0] 188)
 have hK0:New w (w.alloc (.cells #[.int .i64 0,.int .u64 0,.slice none 0 0] 188)):=(New.refl w).alloc _
 have HB0:=Lib.hid hB0
 have HO0:=Lib.hid hO0
 clear hcuts hsub hB0 hO0
 have hcase:(¬ (0:Int)<n)∨∃ b off,A=some ⟨b,off,none⟩∧b<w.heap.size∧0<(n:Int)∧(w.cell? ⟨b,off,none⟩=some (.int .u8 (bv 1))∨w.cell? ⟨b,off,none⟩=some (.int .u8 (bv 2))):=by
  by_cases hz:n=0
  ·exact .inl (by omega)
  ·obtain ⟨b,off,rfl,_,hlt,hcell⟩:=hB.cellAt (by omega)
   have c0:=hcell 0 (by omega)
   rw [Nat.add_zero] at c0
   have hh:bs.getD 0 0=bs[0]'(by omega):=by rw [List.getD_eq_getElem?_getD,List.getElem?_eq_getElem (by omega)];rfl
   refine .inr ⟨b,off,rfl,hlt,by omega,?_⟩
   unfold recBad at h
   rw [decide_eq_false_iff_not,hh] at h
   by_cases e1:bs[0]'(by omega)=1
   ·rw [e1] at c0;exact .inl c0
   ·by_cases e2:bs[0]'(by omega)=2
    ·rw [e2] at c0;exact .inr c0
    ·exact absurd ⟨by omega,e1,e2⟩ h
 have HSM:Hid (∀ W,New w W→Calls Tryz.prog 326 #[.slice A (n-lf) c] W fun e w'=>(∃ A' c',e=.returned (.slice A' 4 c')∧∀ W',New w' W'→(convert 24 9 (.slice A' 4 c')).run Tryz.prog W'=.ok (.string (strOf (be4 (crcSum (bs.take (n-lf)))))) W')∧New W w') :=
  Lib.hid fun W h=>(recsum_any D A (n-lf) c _ W (HCT.out.new h) (by omega)).mono fun e w' ⟨⟨A',c',he,ho⟩,hk⟩=>⟨⟨A',c',he,fun W' hW'=>run_str (Row.of_own (Own.keepNew ho hW'))⟩,hk⟩
 generalize be4 (crcSum (bs.take (n-lf)))=sm at *
 clear hB hl h hs0 HCT
 rcases hcase with hn0|⟨b,off,rfl,hltb,hn0,c0|c0⟩
 all_goals
  have t11:(bv 1 !=1)=false:=by decide
  have t21:(bv 2 !=1)=true:=by decide
  have t22:(bv 2 !=2)=false:=by decide
  go_enter Tryz.func300,Tryz.ntmps300
  go_wp2_with fail
  clear t11 t21 t22
  refine (newReader_any D _ n c bs _ HB0.out hn).mono ?_
  rintro e w1 ⟨⟨p,rfl,hp,hR1⟩,hK1⟩
  have hpg:w.heap.size<p:=by rw [World.size_alloc] at hp;omega
  have HO1:=Lib.hid (hK1.blockAt HO0.out trivial)
  have hK01:=hK0.new hK1
  have hpl1:=hR1.lt
  clear hK1 hp
  go_wp2_with fail
  refine (G1.out p w1 hR1).mono ?_
  rintro e w2 ⟨rfl,hR2,hK2⟩
  clear hR1
  go_wp2_with fail
  refine (G2.out p w2 hR2).mono ?_
  rintro e w3 ⟨rfl,hR3,hK3⟩
  clear hR2
  go_wp2_with fail
  refine (G3.out p w3 hR3).mono ?_
  rintro e w4 ⟨⟨A4,c4,rfl,hown4⟩,hR4,hK4⟩
  clear hR3
  have hK14:=(hK2.trans hK3).trans hK4
  have HO4:=Lib.hid (hK14.blockAt HO1.out (Nat.ne_of_lt hpg))
  have hK04:New w w4:=(Keep.trans2 (D:=fun b=>b<w.heap.size) (Keep.of_new hK01) hK14 (fun i hi _=>by omega)).toNew (fun i hi=>hi)
  have hlt3:w.heap.size<w3.heap.size:=Nat.lt_of_lt_of_le (Array.getElem?_eq_some_iff.1 HO1.out).1 (hK2.trans hK3).size
  have hown4':=own_base (base:=w.heap.size+1) hown4 hlt3
  have hpn4:blk A4≠some p:=fun e=>by have h1:=(own_lt hown4 p e).1;have h2:=hR4.lt;have h3:p<w3.heap.size:=Nat.lt_of_lt_of_le hpl1 (hK2.trans hK3).size;omega
  clear hK2 hK3 hK4 hK14 hown4 hK01
  go_wp2_with fail
  have hN5:New w4 (w4.alloc (.cells #[.int .i64 (ki:Int),.int .u64 (se:Int),.slice A4 body.length c4] 188)):=(New.refl w4).alloc _
  have HX5:=Lib.hid (heap_alloc_new w4 (.cells #[.int .i64 (ki:Int),.int .u64 (se:Int),.slice A4 body.length c4] 188))
  have hx5:w4.heap.size<(w4.alloc (.cells #[.int .i64 (ki:Int),.int .u64 (se:Int),.slice A4 body.length c4] 188)).heap.size:=by simp
  generalize w4.alloc _=w5 at *
  have hR5:=hR4.keep hN5
  refine (G4.out p w5 hR5).mono ?_
  rintro e w5' ⟨rfl,rfl⟩
  go_wp2_with fail
  rw [HSUB.out]
  refine (G5.out p w5 hR5).mono ?_
  rintro e w6 ⟨⟨A6,c6,rfl,hown6⟩,hR6,hK6⟩
  have HO6:=Lib.hid (hK6.blockAt (hN5.blockAt HO4.out trivial) (Nat.ne_of_lt hpg))
  have HX6:=Lib.hid (hK6.blockAt HX5.out (by have:=hR4.lt;omega))
  have hown46:=own_keep (Own.keepNew hown4' hN5) hK6 (fun k hk e=>hpn4 (by rw [hk,e]))
  have hK06:New w w6:=(Keep.trans2 (D:=fun b=>b<w.heap.size) (Keep.of_new (hK04.new hN5)) hK6 (fun i hi _=>by omega)).toNew (fun i hi=>hi)
  have hgw:w.heap.size≤w.heap.size:=Nat.le_refl _
  clear hN5 hR4 hR5 hR6 hK6 hpn4 hown4' hlt3 HO4 HO1 HX5 hpl1 hx5 hK04 hK0 HO0 G1 G2 G3 G4 G5
  by_cases h10:want.length<4
  ·have h10':(want.length:Int)<4:=by omega
   have HO:=HO6
   have d0:w6.cell? ⟨w.heap.size,0,none⟩=some (.int .i64 0):=cellOf HO.out rfl
   have d1:w6.cell? ⟨w.heap.size,1,none⟩=some (.int .u64 0):=cellOf HO.out rfl
   have d2:w6.cell? ⟨w.heap.size,2,none⟩=some (.slice none 0 0):=cellOf HO.out rfl
   obtain ⟨z0,z1,z2⟩:=fz3 HO.out
   go_wp2_with fail
   clear d0 d1 d2 z0 z1 z2
   have hE:=set_three HO.out (.int .i64 0) (.int .u64 0) (.slice none 0 0)
   have hKE:=new_three hK06 (g:=w.heap.size) (Nat.le_refl _) (.int .i64 0) (.int .u64 0) (.slice none 0 0)
   generalize World.setCell _ _ _=wE at *
   have f0:wE.cell? ⟨w.heap.size,0,none⟩=some (.int .i64 0):=cellOf hE rfl
   have f1:wE.cell? ⟨w.heap.size,1,none⟩=some (.int .u64 0):=cellOf hE rfl
   have f2:wE.cell? ⟨w.heap.size,2,none⟩=some (.slice none 0 0):=cellOf hE rfl
   refine bodyPost_ret (v:=.tuple #[.agg #[.int .i64 0,.int .u64 0,.slice none 0 0],.int .i64 0,.int .i64 10]) (by simp [results,Tryz.results300,go_sem,f0,f1,f2]) rfl ?_
   rw [hD.out,if_pos h10]
   exact ⟨⟨none,0,rfl,Own.nil _ _ _ _⟩,hKE⟩
  ·have h10':¬ (want.length:Int)<4:=by omega
   have HH10:=Lib.hid h10
   clear h10
   go_wp2_with fail
   have x0:∀ W,New w6 W→(convert 24 9 (.slice A6 want.length c6)).run Tryz.prog W=.ok (.string (strOf want)) W:=fun W h=>run_str (Row.of_own (Own.keepNew hown6 h))
   have hle1:(0:Int)≤((n-lf:Nat):Int):=by omega
   have hle2:((n-lf:Nat):Int)≤c:=by omega
   have hxl:w4.heap.size<w6.heap.size:=(Array.getElem?_eq_some_iff.1 HX6.out).1
   by_cases h14:want=sm
   ·have hne:(want==sm)=true:=by simpa using h14
    have H14:=Lib.hid h14
    clear h14
    refine hold_begin (by kernel_rfl) ?_
    have n0:New w6 w6.drew:=(New.refl w6).drew
    replace x0:=fun W (hW:New w6.drew W)=>x0 W (Keep.new n0 hW)
    refine take1 0 ?_
    refine take1 1 ?_
    refine take1 2 ?_
    refine take1 3 ?_
    refine take1 4 ?_
    refine hold_step (i:=5) (by kernel_rfl) rfl rfl (fun K hK=>?_)
    go_simp
    refine (HSM.out _ (hK06.new n0)).mono ?_
    rintro e w7 ⟨⟨A7,c7,rfl,v7⟩,k7⟩
    go_wp2_with fail
    refine hK.out _ _ k7 ?_
    clear hK K
    try simp only [Act.put,ly1,ly2,ly3,ly4,ly5,ly6]
    replace n0:=Keep.new n0 k7
    replace x0:=fun W (hW:New w7 W)=>x0 W (Keep.new k7 hW)
    refine take1 6 ?_
    refine take1 7 ?_
    refine take1 8 ?_
    refine wpAnyH_done (by kernel_rfl) ?_ _
    have HO7:=Lib.hid (n0.blockAt HO6.out trivial)
    have HX7:=Lib.hid (n0.blockAt HX6.out trivial)
    have hown47:=Own.keepNew hown46 n0
    have hK07:=hK06.new n0
    have e0:w7.cell? ⟨w4.heap.size,0,none⟩=some (.int .i64 (ki:Int)):=cellOf HX7.out rfl
    have e1:w7.cell? ⟨w4.heap.size,1,none⟩=some (.int .u64 (se:Int)):=cellOf HX7.out rfl
    have e2:w7.cell? ⟨w4.heap.size,2,none⟩=some (.slice A4 body.length c4):=cellOf HX7.out rfl
    have HRI:=Lib.hid (fun w'=>right_any ki se A4 body.length c4 ⟨ki,se,body⟩ w' rfl rfl rfl (by omega))
    clear hne k7 hown46 hK06 hown6
    go_wp2_with fail
    clear e0 e1 e2
    refine (HRI.out _).mono ?_
    rintro e w8 ⟨rfl,hK8⟩
    have HO:=Lib.hid (hK8.blockAt HO7.out trivial)
    have HX8:=Lib.hid (hK8.blockAt HX7.out trivial)
    have hK08:=hK07.new hK8
    have hown48:=Own.keepNew hown47 hK8
    clear hK8 hown47 hK07
    by_cases hr:recRight ⟨ki,se,body⟩=true
    ·have HRR:=Lib.hid hr
     rw [hr]
     clear hr
     have e0:w8.cell? ⟨w4.heap.size,0,none⟩=some (.int .i64 (ki:Int)):=cellOf HX8.out rfl
     have e1:w8.cell? ⟨w4.heap.size,1,none⟩=some (.int .u64 (se:Int)):=cellOf HX8.out rfl
     have e2:w8.cell? ⟨w4.heap.size,2,none⟩=some (.slice A4 body.length c4):=cellOf HX8.out rfl
     have d0:w8.cell? ⟨w.heap.size,0,none⟩=some (.int .i64 0):=cellOf HO.out rfl
     have d1:w8.cell? ⟨w.heap.size,1,none⟩=some (.int .u64 0):=cellOf HO.out rfl
     have d2:w8.cell? ⟨w.heap.size,2,none⟩=some (.slice none 0 0):=cellOf HO.out rfl
     obtain ⟨z0,z1,z2⟩:=fz3 HO.out
     go_wp2_with fail
     clear d0 d1 d2 z0 z1 z2
     have hE:=set_three HO.out (.int .i64 (ki:Int)) (.int .u64 (se:Int)) (.slice A4 body.length c4)
     have hKE:=new_three hK08 (g:=w.heap.size) (Nat.le_refl _) (.int .i64 (ki:Int)) (.int .u64 (se:Int)) (.slice A4 body.length c4)
     generalize hwE:World.setCell _ _ _=wE at *
     have f0:wE.cell? ⟨w.heap.size,0,none⟩=some (.int .i64 (ki:Int)):=cellOf hE rfl
     have f1:wE.cell? ⟨w.heap.size,1,none⟩=some (.int .u64 (se:Int)):=cellOf hE rfl
     have f2:wE.cell? ⟨w.heap.size,2,none⟩=some (.slice A4 body.length c4):=cellOf hE rfl
     refine bodyPost_ret (v:=.tuple #[.agg #[.int .i64 (ki:Int),.int .u64 (se:Int),.slice A4 body.length c4],.int .i64 ((n-lf:Nat)+4:Int),.int .i64 0]) (by simp [results,Tryz.results300,go_sem,f0,f1,f2]) rfl ?_
     rw [hD.out,if_neg HH10.out,if_neg (fun h=>h H14.out),if_neg (by rw [HRR.out];decide)]
     exact ⟨⟨A4,c4,by simp,by rw [← hwE];exact own_base (own_three hown48 (by omega) _ _ _) (by omega)⟩,hKE⟩
    ·have hr':recRight ⟨ki,se,body⟩=false:=by simpa using hr
     have HRR:=Lib.hid hr'
     rw [hr']
     clear hr hr'
     have d0:w8.cell? ⟨w.heap.size,0,none⟩=some (.int .i64 0):=cellOf HO.out rfl
     have d1:w8.cell? ⟨w.heap.size,1,none⟩=some (.int .u64 0):=cellOf HO.out rfl
     have d2:w8.cell? ⟨w.heap.size,2,none⟩=some (.slice none 0 0):=cellOf HO.out rfl
     obtain ⟨z0,z1,z2⟩:=fz3 HO.out
     go_wp2_with fail
     clear d0 d1 d2 z0 z1 z2
     have hE:=set_three HO.out (.int .i64 0) (.int .u64 0) (.slice none 0 0)
     have hKE:=new_three hK08 (g:=w.heap.size) (Nat.le_refl _) (.int .i64 0) (.int .u64 0) (.slice none 0 0)
     generalize hwE:World.setCell _ _ _=wE at *
     have f0:wE.cell? ⟨w.heap.size,0,none⟩=some (.int .i64 0):=cellOf hE rfl
     have f1:wE.cell? ⟨w.heap.size,1,none⟩=some (.int .u64 0):=cellOf hE rfl
     have f2:wE.cell? ⟨w.heap.size,2,none⟩=some (.slice none 0 0):=cellOf hE rfl
     refine bodyPost_ret (v:=.tuple #[.agg #[.int .i64 0,.int .u64 0,.slice none 0 0],.int .i64 0,.int .i64 12]) (by simp [results,Tryz.results300,go_sem,f0,f1,f2]) rfl ?_
     rw [hD.out,if_neg HH10.out,if_neg (fun h=>h H14.out),if_pos HRR.out]
     exact ⟨⟨none,0,rfl,Own.nil _ _ _ _⟩,hKE⟩
   ·have hne:(want==sm)=false:=by simpa using h14
    have H14:=Lib.hid h14
    clear h14
    refine hold_begin (by kernel_rfl) ?_
    have n0:New w6 w6.drew:=(New.refl w6).drew
    replace x0:=fun W (hW:New w6.drew W)=>x0 W (Keep.new n0 hW)
    refine take1 0 ?_
    refine take1 1 ?_
    refine take1 2 ?_
    refine take1 3 ?_
    refine take1 4 ?_
    refine hold_step (i:=5) (by kernel_rfl) rfl rfl (fun K hK=>?_)
    go_simp
    refine (HSM.out _ (hK06.new n0)).mono ?_
    rintro e w7 ⟨⟨A7,c7,rfl,v7⟩,k7⟩
    go_wp2_with fail
    refine hK.out _ _ k7 ?_
    clear hK K
    try simp only [Act.put,ly1,ly2,ly3,ly4,ly5,ly6]
    replace n0:=Keep.new n0 k7
    replace x0:=fun W (hW:New w7 W)=>x0 W (Keep.new k7 hW)
    refine take1 6 ?_
    refine take1 7 ?_
    refine take1 8 ?_
    refine wpAnyH_done (by kernel_rfl) ?_ _
    have HO:=Lib.hid (n0.blockAt HO6.out trivial)
    have hK07:=hK06.new n0
    clear hne
    have d0:w7.cell? ⟨w.heap.size,0,none⟩=some (.int .i64 0):=cellOf HO.out rfl
    have d1:w7.cell? ⟨w.heap.size,1,none⟩=some (.int .u64 0):=cellOf HO.out rfl
    have d2:w7.cell? ⟨w.heap.size,2,none⟩=some (.slice none 0 0):=cellOf HO.out rfl
    obtain ⟨z0,z1,z2⟩:=fz3 HO.out
    go_wp2_with fail
    clear d0 d1 d2 z0 z1 z2
    have hE:=set_three HO.out (.int .i64 0) (.int .u64 0) (.slice none 0 0)
    have hKE:=new_three hK07 (g:=w.heap.size) (Nat.le_refl _) (.int .i64 0) (.int .u64 0) (.slice none 0 0)
    generalize hwE:World.setCell _ _ _=wE at *
    have f0:wE.cell? ⟨w.heap.size,0,none⟩=some (.int .i64 0):=cellOf hE rfl
    have f1:wE.cell? ⟨w.heap.size,1,none⟩=some (.int .u64 0):=cellOf hE rfl
    have f2:wE.cell? ⟨w.heap.size,2,none⟩=some (.slice none 0 0):=cellOf hE rfl
    refine bodyPost_ret (v:=.tuple #[.agg #[.int .i64 0,.int .u64 0,.slice none 0 0],.int .i64 0,.int .i64 14]) (by simp [results,Tryz.results300,go_sem,f0,f1,f2]) rfl ?_
    rw [hD.out,if_neg HH10.out,if_pos H14.out]
    exact ⟨⟨none,0,rfl,Own.nil _ _ _ _⟩,hKE⟩
theorem decode_any (D:Nat→Prop) (A:Option Addr) (n c:Nat) (bs:List UInt8) (w:World) (hB:Bs w D A n bs) (hnc:n≤c) (hn:n≤1099511627776):
  Calls Tryz.prog 300 #[.slice A n c] w (RecRet (recDec bs) w):=by
 by_cases h:recBad bs=true
 ·have e:recDec bs=(noRec,0,12):=by unfold recDec;rw [if_pos h]
  rw [e]
  exact decode_bad D A n c bs w hB hn h
 ·exact decode_go D A n c bs w hB hnc hn (by simpa using h)
end Go.Proofs.YtdodbdednpnddaaGreatDoor
