/-
  PROVED HERE: what bytes.Equal answers, and whether bytes.Trim leaves anything at the cutset of one nought; conditions: lengths that a slice may have.
-/
import Derived.Test.YtlopmiaimignkaaGreatDoorPkM10
set_option maxRecDepth 100000
namespace Go.Proofs.YtlopmiaimignkaaGreatDoor
open Go.Proofs.Tryz
open Go.RowKit
theorem nA(D D2:Nat->Prop)(A A2:Option Addr)(n c n2 c2:Nat)(a b:List UInt8)(w:World)(hB:Bs w D A n a)(hB2:Bs w D2 A2 n2 b):
  Calls prog 118 #[.slice A n c,.slice A2 n2 c2] w fun e w'=>e=.returned (.bool (a==b))/\w=w':=by
 have d:=mG (c:=c) hB
 have f:=mG (c:=c2) hB2
 clear hB hB2
 go_in
 go_wp2
 go_ret
 exact⟨rfl,rfl⟩
theorem uI(D:Nat->Prop)(A:Option Addr)(n c:Nat)(bs:List UInt8)(w:World)(hB:Bs w D A n bs)(hnc:n<=c)(hn:n<=9223372036854775807):
  Calls prog 214 #[.slice A n c,.int .u8 0] w fun e w'=>(∃k,k<=n/\e=.returned (.slice A k c)/\(∀i (h:i<bs.length),k<=i->bs[i]=0)/\(∀(h:k-1<bs.length),0<k->bs[k-1]≠0))/\w=w':=by
 have j:=zh hB.len
 go_in
 go_wp2_with fail
 go_loop [0] (fun s=>∃k:Nat,k<=n/\s=.slice A k c/\(∀i (h:i<bs.length),k<=i->bs[i]=0)) (fun s=>jd s)
 case atStart=>exact⟨n,zr,rfl,fun i h hk=>absurd h (by have:=j.out;omega)⟩
 obtain⟨k,hk,rfl,hz⟩:=hrel
 have f:=zh hz
 clear hz
 by_cases h0:0<k
 ·obtain⟨b,off,rfl,_,_,hc⟩:=hB.cellAt zo
  have d:k-1<bs.length:=by have:=j.out;omega
  have l:=hc (k-1) d
  by_cases a:bs[k-1]'d=0
  ·rw[a] at l
   have m:(bv 0==0)=true:=by decide
   have g:=zh a
   have o:(k:Int)-1=((k-1:Nat):Int):=zo
   have hh:((k-1:Nat):Int)<=c:=by omega
   clear hc a
   go_wp2
   go_round
   case rel=>exact⟨k-1,zo,by first|rfl|simp,fun i h p=>by
    by_cases e:i=k-1
    ·subst e;exact g.out
    exact f.out i h zo⟩
   simp[jd];omega
  have m:(bv (bs[k-1]'d)==0)=false:=by
   rw[beq_eq_false_iff_ne];exact fun h=>a (ur (h.trans Zd))
  have g:=zh a
  clear hc a
  go_wp2
  go_ret
  exact⟨⟨k,hk,rfl,f.out,fun _ _=>g.out⟩,rfl⟩
 obtain rfl:k=0:=by omega
 go_wp2
 go_ret
 exact⟨⟨0,hk,rfl,f.out,fun _ h=>absurd h zo⟩,rfl⟩
theorem wl(D:Nat->Prop)(A:Option Addr)(n c:Nat)(bs:List UInt8)(w:World)(hB:Bs w D A n bs)(hnc:n<=c)(hc9:c<=9223372036854775807):
  Calls prog 213 #[.slice A n c,.int .u8 0] w fun e w'=>(∃A' m c',e=.returned (.slice A' m c')/\(m=0->∀x∈bs,x=0)/\((∀x∈bs,x=0)->m=0))/\w=w':=by
 go_in
 go_wp2_with fail
 go_loop [0] (fun s=>∃(A':Option Addr) (m c':Nat) (a rest:List UInt8),s=.slice A' m c'/\m<=c'/\c'<=9223372036854775807/\Bs w D A' m rest/\bs=a++rest/\∀x∈a,x=0) (fun s=>jd s)
 case atStart=>exact⟨A,n,c,[],bs,rfl,hnc,hc9,hB,rfl,by simp⟩
 clear hB hnc hc9
 obtain⟨A',m,c',a,rest,rfl,F,hc9,hB,g,hz⟩:=hrel
 have o:=zh g
 have q:=zh hz
 have p:=zh hB.len
 clear g hz
 by_cases h0:0<m
 ·obtain⟨b,off,rfl,_,_,hc⟩:=hB.cellAt h0
  have d:0<rest.length:=by have:=p.out;omega
  have r:=hc 0 d
  rw[Nat.add_zero] at r
  by_cases f:rest[0]'d=0
  ·rw[f] at r
   have B:(bv 0==0)=true:=by decide
   have t:rest=0::rest.drop 1:=by
    have:=List.drop_eq_getElem_cons (i:=0) (l:=rest) d
    rw[f] at this;simpa using this
   have hcut:bs=(a++[0])++rest.drop 1:=by
    have e1:=o.out
    rw[t] at e1
    rw[e1,List.append_assoc]
    rfl
   have k:∀x∈a++[0],x=0:=fun x u=>by
    rcases List.mem_append.1 u with h|h
    ·exact q.out x h
    simpa using h
   have j:=J2 hcut k
   clear hcut k
   have hfr:=Bs.from_ hB (l:=1) h0
   have v:Hid ((rest.drop 1).length=m-1):=zh (by rw[List.length_drop,p.out])
   have G:(1:Int)<=m:=by omega
   have H:(1:Int)<=c':=by omega
   clear hc f t
   by_cases y:c'=1
   ·have z:m=1:=by omega
    subst y
    subst z
    go_wp2
    go_round
    case rel=>exact⟨_,_,_,_,_,rfl,zo,zo,by
     have:rest.drop 1=[]:=List.eq_nil_of_length_eq_zero v.out
     rw[this];exact Row.nil _ _ _ _,j.1,j.2⟩
    simp[jd]
   go_wp2
   go_round
   case rel=>exact⟨_,_,_,_,_,rfl,zo,zo,hfr,j.1,j.2⟩
   simp[jd];omega
  have B:(bv (rest[0]'d)==0)=false:=by
   rw[beq_eq_false_iff_ne];exact fun h=>f (ur (h.trans Zd))
  have C:Hid (¬ ∀x∈bs,x=0):=zh fun h=>f (h _ (by rw[o.out];exact List.mem_append_right _ (List.getElem_mem d)))
  have I:((m:Int)==0)=false:=by simp;omega
  clear hc f
  go_wp2
  go_ret
  exact⟨⟨_,_,⟨_,rfl⟩,fun h=>absurd h zo,fun h=>absurd h C.out⟩,rfl⟩
 obtain rfl:m=0:=by omega
 have E:Hid (∀x∈bs,x=0):=zh (by
  have:rest=[]:=List.eq_nil_of_length_eq_zero p.out
  rw[o.out,this,List.append_nil];exact q.out)
 go_wp2
 go_ret
 exact⟨⟨_,_,⟨_,rfl⟩,fun _=>E.out,fun _=>rfl⟩,rfl⟩
def xe(bs:List UInt8)(e:Ending):Prop:=∃A' m c',e=.returned (.slice A' m c')/\(m=0->∀x∈bs,x=0)/\((∀x∈bs,x=0)->m=0)
theorem xv(D:Nat->Prop)(A:Option Addr)(n c:Nat)(bs:List UInt8)(w:World)(hB:Bs w D A n bs)(hnc:n<=c)(hc9:c<=9223372036854775807):
  Calls prog 120 #[.slice A n c,.string { data:=#[0] }] w fun e w'=>xe bs e/\New w w':=by
 have s:=zh hB.len
 by_cases h0:n=0
 ·subst h0
  have t:Hid (∀x∈bs,x=0):=zh (by
   rw[List.eq_nil_of_length_eq_zero s.out];simp)
  clear hB
  go_in
  go_wp2
  go_ret
  exact⟨⟨_,_,_,rfl,fun _=>t.out,fun _=>rfl⟩,zN _⟩
 have m:=zh<|fun W (h:New w W)=>uI D A n c bs W (Row.new hB h) hnc zo
 have o:=zh<|fun k (hk:k<=n) W (h:New w W)=>wl D A k c (bs.take k) W (Bs.Qk (bs:=bs) (Row.new hB h) hk) zo hc9
 have v:((n:Int)==0)=false:=by simp;omega
 clear hB
 have t0:({ data:=#[0] }:ByteArray)[0].toNat=0:=by decide
 go_in
 go_wp2_with fail
 have b:∀W,New w W->True:=fun _ _=>trivial
 refine eL zk ?_
 have a:New w w.drew:=(zN w).drew
 replace b:=fun W (g:New w.drew W)=>b W (b_.new a g)
 refine cL 0 ?_
 refine cL 1 ?_
 refine cL 2 ?_
 refine cL 4 ?_
 refine cL 5 ?_
 refine d_ (i:=3) zk rfl rfl (fun K j=>?_)
 go_simp
 refine(m.out _ a).mono ?_
 rintro e y⟨⟨k,hk,rfl,hz,p⟩,rfl⟩
 go_wp2_with fail
 refine j _ _ (zN _) ?_
 clear j K
 try simp only[zy]
 replace a:=b_.new a (zN _)
 replace b:=fun W (g:New w.drew W)=>b W (b_.new (zN _) g)
 refine d_ (i:=6) zk rfl rfl (fun K j=>?_)
 go_simp
 refine(o.out k hk _ a).mono ?_
 rintro e z⟨⟨B,q,c2,rfl,hm,l⟩,rfl⟩
 go_wp2_with fail
 refine j _ _ (zN _) ?_
 clear j K
 try simp only[zy]
 replace a:=b_.new a (zN _)
 replace b:=fun W (g:New w.drew W)=>b W (b_.new (zN _) g)
 refine cL 7 ?_
 refine wpAnyH_done zk ?_ _
 have d:∀P:UInt8->Prop,(∀x∈bs,P x)↔(∀x∈bs.take k,P x)/\∀x∈bs.drop k,P x:=fun P=>by
  conv=>lhs;rw[<- List.take_append_drop k bs]
  constructor
  ·exact fun h=>⟨fun x f=>h x (List.mem_append_left _ f),fun x f=>h x (List.mem_append_right _ f)⟩
  exact fun h x f=>(List.mem_append.1 f).elim (h.1 x) (h.2 x)
 have hd:∀x∈bs.drop k,x=0:=fun x f=>by
  obtain⟨i,hi,rfl⟩:=List.getElem_of_mem f
  rw[List.getElem_drop]
  exact hz _ _ zo
 have r:=zh (show(q=0->∀x∈bs,x=0)/\((∀x∈bs,x=0)->q=0) from
  ⟨fun h=>(d _).2 ⟨hm h,hd⟩,fun h=>l ((d _).1 h).1⟩)
 clear hm l hz p d hd b m o
 have u:=zh a
 clear a
 go_wp2
 go_ret
 exact⟨⟨_,_,_,rfl,r.1,r.2⟩,u.out⟩
