/-
  PROVED HERE: what bytes.Equal answers, and whether bytes.Trim leaves anything at the cutset of one nought; conditions: lengths that a slice may have.
-/
import Derived.Test.YtdodbdednpnddaaGreatDoorPkT10
set_option maxRecDepth 100000
namespace Go.Proofs.YtdodbdednpnddaaGreatDoor
open Go.RowKit
theorem equal_any (D D2:Nat→Prop) (A A2:Option Addr) (n c n2 c2:Nat) (a b:List UInt8) (w:World) (hB:Bs w D A n a) (hB2:Bs w D2 A2 n2 b):
  Calls Tryz.prog 205 #[.slice A n c,.slice A2 n2 c2] w fun e w'=>e=.returned (.bool (a==b))∧w=w':=by
 have k1:=run_str (c:=c) hB
 have k2:=run_str (c:=c2) hB2
 clear hB hB2
 go_enter Tryz.func205,Tryz.ntmps205
 go_wp2_with fail
 go_ret
 exact ⟨rfl,rfl⟩
theorem trimRight_any (D:Nat→Prop) (A:Option Addr) (n c:Nat) (bs:List UInt8) (w:World) (hB:Bs w D A n bs) (hnc:n≤c) (hn:n≤9223372036854775807):
  Calls Tryz.prog 226 #[.slice A n c,.int .u8 0] w fun e w'=>(∃ k,k≤n∧e=.returned (.slice A k c)∧(∀ i (h:i<bs.length),k≤i→bs[i]=0)∧(∀ (h:k-1<bs.length),0<k→bs[k-1]≠0))∧w=w':=by
 have HL:=Lib.hid hB.len
 go_enter Tryz.func226,Tryz.ntmps226
 go_wp2_with fail
 go_loop [0] (fun s=>∃ k:Nat,k≤n∧s=.slice A k c∧(∀ i (h:i<bs.length),k≤i→bs[i]=0)) (fun s=>sliceLen s)
 case atStart=>exact ⟨n,Nat.le_refl _,rfl,fun i h hk=>absurd h (by have:=HL.out;omega)⟩
 case round =>
  obtain ⟨k,hk,rfl,hz⟩:=hrel
  have HZ:=Lib.hid hz
  clear hz
  by_cases h0:0<k
  ·obtain ⟨b,off,rfl,_,_,hc⟩:=hB.cellAt (by omega)
   have hkl:k-1<bs.length:=by have:=HL.out;omega
   have ck:=hc (k-1) hkl
   by_cases hx:bs[k-1]'hkl=0
   ·rw [hx] at ck
    have t1:(bv 0==0)=true:=by decide
    have HX:=Lib.hid hx
    have hsub:(k:Int)-1=((k-1:Nat):Int):=by omega
    have hh:((k-1:Nat):Int)≤c:=by omega
    clear hc hx
    go_wp2_with fail
    go_round
    case rel=>exact ⟨k-1,by omega,by first|rfl|simp,fun i h hki=>by
     by_cases e:i=k-1
     ·subst e;exact HX.out
     ·exact HZ.out i h (by omega)⟩
    case measure=>simp [sliceLen];omega
   ·have t1:(bv (bs[k-1]'hkl)==0)=false:=by
     rw [beq_eq_false_iff_ne];exact fun h=>hx (bv_inj (h.trans (by decide)))
    have HX:=Lib.hid hx
    clear hc hx
    go_wp2_with fail
    go_ret
    exact ⟨⟨k,hk,rfl,HZ.out,fun _ _=>HX.out⟩,rfl⟩
  ·obtain rfl:k=0:=by omega
   go_wp2_with fail
   go_ret
   exact ⟨⟨0,hk,rfl,HZ.out,fun _ h=>absurd h (by omega)⟩,rfl⟩
theorem trimLeft_any (D:Nat→Prop) (A:Option Addr) (n c:Nat) (bs:List UInt8) (w:World) (hB:Bs w D A n bs) (hnc:n≤c) (hc9:c≤9223372036854775807):
  Calls Tryz.prog 225 #[.slice A n c,.int .u8 0] w fun e w'=>(∃ A' m c',e=.returned (.slice A' m c')∧(m=0→∀ x∈bs,x=0)∧((∀ x∈bs,x=0)→m=0))∧w=w':=by
 go_enter Tryz.func225,Tryz.ntmps225
 go_wp2_with fail
 go_loop [0] (fun s=>∃ (A':Option Addr) (m c':Nat) (pre rest:List UInt8),s=.slice A' m c'∧m≤c'∧c'≤9223372036854775807∧Bs w D A' m rest∧bs=pre++rest∧∀ x∈pre,x=0) (fun s=>sliceLen s)
 case atStart=>exact ⟨A,n,c,[],bs,rfl,hnc,hc9,hB,rfl,by simp⟩
 case round =>
  clear hB hnc hc9
  obtain ⟨A',m,c',pre,rest,rfl,hmc,hc9,hB,hcat,hz⟩:=hrel
  have HC:=Lib.hid hcat
  have HZ:=Lib.hid hz
  have HL:=Lib.hid hB.len
  clear hcat hz
  by_cases h0:0<m
  ·obtain ⟨b,off,rfl,_,_,hc⟩:=hB.cellAt h0
   have hl0:0<rest.length:=by have:=HL.out;omega
   have ck:=hc 0 hl0
   rw [Nat.add_zero] at ck
   by_cases hx:rest[0]'hl0=0
   ·rw [hx] at ck
    have t1:(bv 0==0)=true:=by decide
    have hr:rest=0::rest.drop 1:=by
     have:=List.drop_eq_getElem_cons (i:=0) (l:=rest) hl0
     rw [hx] at this;simpa using this
    have hcut:bs=(pre++[0])++rest.drop 1:=by
     have e1:=HC.out
     rw [hr] at e1
     rw [e1,List.append_assoc]
     rfl
    have hz1:∀ x∈pre++[0],x=0:=fun x hx'=>by
     rcases List.mem_append.1 hx' with h|h
     ·exact HZ.out x h
     ·simpa using h
    have HR:=Lib.hid (And.intro hcut hz1)
    clear hcut hz1
    have hfr:=Bs.from_ hB (l:=1) h0
    have HLD:Hid ((rest.drop 1).length=m-1):=Lib.hid (by rw [List.length_drop,HL.out])
    have i1:(1:Int)≤m:=by omega
    have i2:(1:Int)≤c':=by omega
    clear hc hx hr
    by_cases hc1:c'=1
    ·have hm1:m=1:=by omega
     subst hc1
     subst hm1
     go_wp2_with fail
     go_round
     case rel=>exact ⟨_,_,_,_,_,rfl,by omega,by omega,by
      have:rest.drop 1=[]:=List.eq_nil_of_length_eq_zero HLD.out
      rw [this];exact Row.nil _ _ _ _,HR.out.1,HR.out.2⟩
     case measure=>simp [sliceLen]
    ·go_wp2_with fail
     go_round
     case rel=>exact ⟨_,_,_,_,_,rfl,by omega,by omega,hfr,HR.out.1,HR.out.2⟩
     case measure=>simp [sliceLen];omega
   ·have t1:(bv (rest[0]'hl0)==0)=false:=by
     rw [beq_eq_false_iff_ne];exact fun h=>hx (bv_inj (h.trans (by decide)))
    have HX:Hid (¬ ∀ x∈bs,x=0):=Lib.hid fun h=>hx (h _ (by rw [HC.out];exact List.mem_append_right _ (List.getElem_mem hl0)))
    have e0:((m:Int)==0)=false:=by simp;omega
    clear hc hx
    go_wp2_with fail
    go_ret
    exact ⟨⟨_,_,⟨_,rfl⟩,fun h=>absurd h (by omega),fun h=>absurd h HX.out⟩,rfl⟩
  ·obtain rfl:m=0:=by omega
   have HA:Hid (∀ x∈bs,x=0):=Lib.hid (by
    have:rest=[]:=List.eq_nil_of_length_eq_zero HL.out
    rw [HC.out,this,List.append_nil];exact HZ.out)
   go_wp2_with fail
   go_ret
   exact ⟨⟨_,_,⟨_,rfl⟩,fun _=>HA.out,fun _=>rfl⟩,rfl⟩
def TrimRet (bs:List UInt8) (e:Ending):Prop:=∃ A' m c',e=.returned (.slice A' m c')∧(m=0→∀ x∈bs,x=0)∧((∀ x∈bs,x=0)→m=0)
theorem trim_any (D:Nat→Prop) (A:Option Addr) (n c:Nat) (bs:List UInt8) (w:World) (hB:Bs w D A n bs) (hnc:n≤c) (hc9:c≤9223372036854775807):
  Calls Tryz.prog 168 #[.slice A n c,.string { data:=#[0] }] w fun e w'=>TrimRet bs e∧New w w':=by
 have HL:=Lib.hid hB.len
 by_cases h0:n=0
 ·subst h0
  have HA:Hid (∀ x∈bs,x=0):=Lib.hid (by
   rw [List.eq_nil_of_length_eq_zero HL.out];simp)
  clear hB
  go_enter Tryz.func168,Tryz.ntmps168
  go_wp2_with fail
  go_ret
  exact ⟨⟨_,_,_,rfl,fun _=>HA.out,fun _=>rfl⟩,New.refl _⟩
 ·have H1:=Lib.hid (fun W (h:New w W)=>trimRight_any D A n c bs W (Row.new hB h) hnc (by omega))
  have H2:=Lib.hid (fun k (hk:k≤n) W (h:New w W)=>trimLeft_any D A k c (bs.take k) W (Bs.cutTo (bs:=bs) (Row.new hB h) hk) (by omega) hc9)
  have e0:((n:Int)==0)=false:=by simp;omega
  clear hB
  have t0:({ data:=#[0] }:ByteArray)[0].toNat=0:=by decide
  go_enter Tryz.func168,Tryz.ntmps168
  go_wp2_with fail
  have x0:∀ W,New w W→True:=fun _ _=>trivial
  refine hold_begin (by kernel_rfl) ?_
  have n0:New w w.drew:=(New.refl w).drew
  replace x0:=fun W (hW:New w.drew W)=>x0 W (Keep.new n0 hW)
  refine take1 0 ?_
  refine take1 1 ?_
  refine take1 2 ?_
  refine take1 4 ?_
  refine take1 5 ?_
  refine hold_step (i:=3) (by kernel_rfl) rfl rfl (fun K hK=>?_)
  go_simp
  refine (H1.out _ n0).mono ?_
  rintro e w1 ⟨⟨k,hk,rfl,hz,hnz⟩,rfl⟩
  go_wp2_with fail
  refine hK.out _ _ (New.refl _) ?_
  clear hK K
  try simp only [Act.put,ly1,ly2,ly3,ly4,ly5,ly6]
  replace n0:=Keep.new n0 (New.refl _)
  replace x0:=fun W (hW:New w.drew W)=>x0 W (Keep.new (New.refl _) hW)
  refine hold_step (i:=6) (by kernel_rfl) rfl rfl (fun K hK=>?_)
  go_simp
  refine (H2.out k hk _ n0).mono ?_
  rintro e w2 ⟨⟨A2,m2,c2,rfl,hm,hm'⟩,rfl⟩
  go_wp2_with fail
  refine hK.out _ _ (New.refl _) ?_
  clear hK K
  try simp only [Act.put,ly1,ly2,ly3,ly4,ly5,ly6]
  replace n0:=Keep.new n0 (New.refl _)
  replace x0:=fun W (hW:New w.drew W)=>x0 W (Keep.new (New.refl _) hW)
  refine take1 7 ?_
  refine wpAnyH_done (by kernel_rfl) ?_ _
  have hall:∀ P:UInt8→Prop,(∀ x∈bs,P x)↔(∀ x∈bs.take k,P x)∧∀ x∈bs.drop k,P x:=fun P=>by
   conv=>lhs;rw [← List.take_append_drop k bs]
   constructor
   ·exact fun h=>⟨fun x hx=>h x (List.mem_append_left _ hx),fun x hx=>h x (List.mem_append_right _ hx)⟩
   ·exact fun h x hx=>(List.mem_append.1 hx).elim (h.1 x) (h.2 x)
  have hd:∀ x∈bs.drop k,x=0:=fun x hx=>by
   obtain ⟨i,hi,rfl⟩:=List.getElem_of_mem hx
   rw [List.getElem_drop]
   exact hz _ _ (by omega)
  have hM:=Lib.hid (show (m2=0→∀ x∈bs,x=0)∧((∀ x∈bs,x=0)→m2=0) from
   ⟨fun h=>(hall _).2 ⟨hm h,hd⟩,fun h=>hm' ((hall _).1 h).1⟩)
  clear hm hm' hz hnz hall hd x0 H1 H2
  have N0:=Lib.hid n0
  clear n0
  go_wp2_with fail
  go_ret
  exact ⟨⟨_,_,_,rfl,hM.out.1,hM.out.2⟩,N0.out⟩
end Go.Proofs.YtdodbdednpnddaaGreatDoor
