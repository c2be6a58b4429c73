/-
  PROVED HERE: what codec.Reader's methods answer, and in which blocks the bytes that are left lie; what End answers; condition: fewer than 2^40 bytes.
-/
import Derived.Test.YtlopmiaimignkaaGreatDoorPkM08
set_option maxRecDepth 100000
namespace Go.Proofs.YtlopmiaimignkaaGreatDoor
open Go.Proofs.Tryz
open Go.RowKit
variable{D:Nat->Prop}{w w':World}{p:Nat}
structure RdD (D:Nat->Prop) (w:World) (p:Nat) (s:RdS):Prop where
 row:∃A m c,w.cell? ⟨p,0,none⟩=some (.slice A m c)/\m<=c/\c<=9223372036854775807/\Bs w (fun b=>D b/\b≠p) A m s.bs
 why:w.cell? ⟨p,1,none⟩=some (.int .i64 s.why)
 free0:w.frozen? ⟨p,0,none⟩=false
 free1:w.frozen? ⟨p,1,none⟩=false
 bound:s.bs.length<=1099511627776
theorem RdD.lt{s:RdS}(h:RdD D w p s):p<w.heap.size:=World.block_lt_of_cell? w _ h.why
theorem RdD.keep{s:RdS}(h:RdD D w p s)(hk:New w w'):RdD D w' p s:=by
 obtain⟨A,m,c,h1,h2,h3,a⟩:=h.row
 exact⟨⟨A,m,c,hk.Qb h1 zt,h2,h3,a.new hk⟩,hk.Qb h.why zt,(hk.frozen (p:=⟨p,0,none⟩) h.lt zt).trans h.free0,(hk.frozen (p:=⟨p,1,none⟩) h.lt zt).trans h.free1,h.bound⟩
theorem lp(D:Nat->Prop)(A:Option Addr)(n c:Nat)(bs:List UInt8)(w:World)(hB:Bs w D A n bs)(hn:n<=1099511627776):
  Calls prog 114 #[.slice A n c] w fun e w'=>(∃p,e=.returned (.pointer (some ⟨p,0,none⟩))/\w.heap.size<=p/\RdD (fun b=>b<p) w' p ⟨bs,0⟩)/\New w w':=by
 have hl:=hB.len
 have g:=zh<|ik D A n c bs w hB zo
 clear hB
 go_in
 go_wp2_with fail
 refine g.mono ?_
 rintro e d⟨⟨A1,c1,rfl,a⟩,f⟩
 go_wp2
 go_ret
 have hh:=heap_alloc_new d (.cells #[.slice A1 n c1,.int .i64 0] 282)
 refine⟨⟨d.heap.size,rfl,f.size,⟨⟨A1,n,c1,a_ hh rfl,ew a,eh a,?_⟩,a_ hh rfl,lQ d _ _ _,lQ d _ _ _,by show bs.length<=_;omega⟩⟩,f.alloc _⟩
 exact((Row.Qc a).imp (E:=fun b=>b<d.heap.size/\b≠d.heap.size) (fun b hb _=>⟨hb,Nat.ne_of_lt hb⟩)).alloc _
theorem RdD.setWhy{s:RdS}(h:RdD D w p s)(y:Int):RdD D (w.setCell ⟨p,1,none⟩ (.int .i64 y)) p ⟨s.bs,y⟩:=by
 obtain⟨A,m,c,h1,h2,h3,a⟩:=h.row
 refine⟨⟨A,m,c,?_,h2,h3,a.setCell (p:=⟨p,1,none⟩) (fun h=>h.2 rfl) _⟩,World.cell?_setCell_same _ _ _ h.why,iW h.free0,iW h.free1,h.bound⟩
 rw[World.cell?_setCell_other _ _ _ _ (by intro hh;injection hh;omega)];exact h1
theorem RdD.setRow{s:RdS}(h:RdD D w p s){A:Option Addr}{m c:Nat}{bs:List UInt8}(hB:Bs w (fun b=>D b/\b≠p) A m bs)(hmc:m<=c)(hc:c<=9223372036854775807)(hb:bs.length<=1099511627776):
  RdD D (w.setCell ⟨p,0,none⟩ (.slice A m c)) p ⟨bs,s.why⟩:=by
 obtain⟨A1,a,c1,h1,_⟩:=h.row
 refine⟨⟨A,m,c,World.cell?_setCell_same _ _ _ h1,hmc,hc,hB.setCell (p:=⟨p,0,none⟩) (fun h=>h.2 rfl) _⟩,?_,iW h.free0,iW h.free1,hb⟩
 rw[World.cell?_setCell_other _ _ _ _ (by intro hh;injection hh;omega)];exact h.why
theorem vh(D:Nat->Prop)(p:Nat)(s:RdS)(n:Int)(w:World)(hR:RdD D w p s):
  Calls prog 117 #[.pointer (some ⟨p,0,none⟩),.int .i64 n] w fun e w' =>
   (∃A' c',e=.returned (.slice A' (s.raw n).1.length c')/\fy w' w.heap.size 5 A' (s.raw n).1.length c' (s.raw n).1)/\RdD D w' p (s.raw n).2/\b_ (fun b=>b≠p) w w':=by
 obtain⟨A,m,c,j,K,hc9,hB⟩:=hR.row
 have g:=hR.why
 have l:=hR.free0
 have L:=hR.free1
 have M:=hR.bound
 have hl:=hB.len
 have f:=zh hR
 clear hR
 by_cases hw:s.why=0
 ·by_cases hn:(m:Int)<n
  ·rw[s.raw_end n hw zo]
   have h1:=f.setWhy 10
   have C:=(b_.refl (fun b=>b≠p) w).setCell (p:=⟨p,1,none⟩) (fun h=>absurd rfl h) (.int .i64 10)
   rw[hw] at g
   clear hw hl hB
   go_in
   go_wp2
   go_ret
   exact⟨⟨none,0,rfl,Own.nil _ _ _ _⟩,h1,C⟩
  by_cases x:n<1
  ·rw[s.Qo n (.inr x)]
   rw[hw] at g
   clear hw hl hB
   go_in
   go_wp2
   go_ret
   exact⟨⟨none,0,rfl,Own.nil _ _ _ _⟩,f.out,b_.refl _ _⟩
  obtain⟨k,rfl⟩:=Int.eq_ofNat_of_zero_le (by omega:0<=n)
  rw[s.Qn k hw zo zo,Int.toNat_natCast]
  have o:k<=m:=by omega
  have N:m<=1099511627776:=by omega
  have E:=f.lt
  have O:1<=k:=by omega
  have P:(k:Int)<=c:=by omega
  have F:Hid ((s.bs.take k).length=k):=zh (by rw[List.length_take];omega)
  have q:Hid ((s.bs.drop k).length=m-k):=zh (by rw[List.length_drop];omega)
  rw[F.out]
  have hcut:=hB.Qk o
  have r:=zh<|ik _ A k c _ w hcut zo
  have t:=Bs.from_ hB o
  have y:=zh t
  have z:=zh hw
  rw[hw] at g
  clear hw hl hB hcut t
  by_cases u:c=k
  ·have B:m=k:=by omega
   subst u
   subst B
   go_in
   go_wp2_with fail
   refine r.mono ?_
   rintro e G⟨⟨A1,c1,rfl,d⟩,a⟩
   have H:=a.Qb j trivial
   have I:=(a.frozen (p:=⟨p,0,none⟩) f.lt zt).trans l
   go_wp2
   go_ret
   have v:s.bs.drop m=[]:=List.eq_nil_of_length_eq_zero (by rw[q.out];omega)
   have i:=(f.keep a).setRow (A:=A) (m:=0) (c:=0) (bs:=[]) (Row.nil _ _ _ _) zr zo (by simp)
   rw[z.out] at i
   rw[v]
   exact⟨⟨A1,c1,rfl,le (p:=⟨p,0,none⟩) d (fun e=>by have:=(eW d p e).1;omega) _⟩,i,(b_.Qe a).setCell (p:=⟨p,0,none⟩) (fun h=>absurd rfl h) _⟩
  have J:¬c=k:=u
  go_in
  go_wp2_with fail
  refine r.mono ?_
  rintro e G⟨⟨A1,c1,rfl,d⟩,a⟩
  have H:=a.Qb j trivial
  have I:=(a.frozen (p:=⟨p,0,none⟩) f.lt zt).trans l
  go_wp2
  go_ret
  have i:=(f.keep a).setRow (c:=c-k) (y.new a) zo zo (by rw[q.out];omega)
  rw[z.out] at i
  exact⟨⟨A1,c1,rfl,le (p:=⟨p,0,none⟩) d (fun e=>by have:=(eW d p e).1;omega) _⟩,i,(b_.Qe a).setCell (p:=⟨p,0,none⟩) (fun h=>absurd rfl h) _⟩
 rw[s.Qo n (.inl hw)]
 have Q:(s.why==0)=false:=by simpa using hw
 have e1:(s.why !=0)=true:=by simpa using hw
 clear hw hl hB
 go_in
 go_wp2
 go_ret
 exact⟨⟨none,0,rfl,Own.nil _ _ _ _⟩,f.out,b_.refl _ _⟩
theorem uc(D:Nat->Prop)(p k:Nat)(s:RdS)(w:World)(hR:RdD D w p s)(hk:k<=8)(ki:Int)(hki:ki=k):
  Calls prog 211 #[.pointer (some ⟨p,0,none⟩),.int .i64 ki] w fun e w'=>e=.returned (.int .u64 ((s.num k).1:Nat))/\RdD D w' p (s.num k).2/\b_ (fun b=>b≠p) w w':=by
 subst hki
 have n:=(s.raw_le k).2.2
 unfold RdS.num
 dsimp only
 have c:=zh<|vh D p s k w hR
 clear hR
 generalize (s.raw k).1=x at *
 generalize (s.raw k).2=q at *
 have o:x.length<=8:=by omega
 go_in
 go_wp2_with fail
 refine c.mono ?_
 rintro e r⟨⟨A1,c1,rfl,a⟩,d,f⟩
 have hB:=Row.Qc a
 clear a
 go_wp2_with fail
 go_loop [5,12] (fun h i=>∃j:Nat,j<=x.length/\i=.int .i64 (j:Int)/\h=.int .u64 ((fG (x.take j):Nat):Int)) (fun _ i=>x.length-(intOf i).toNat)
 case atStart=>exact⟨0,Nat.zero_le _,rfl,rfl⟩
 obtain⟨j,hj,rfl,rfl⟩:=hrel
 by_cases hlt:j<x.length
 ·obtain⟨b,off,rfl,_,_,hc⟩:=Bs.cellAt (bs:=x) hB zo
  have t:=hc j hlt
  have l:=zh<|show fG (x.take (j+1))=fG (x.take j)*256+(x[j]).toNat from by rw[List.take_succ_eq_append_getElem hlt,oc]
  have g:fG (x.take j)<72057594037927936:=by
   refine Nat.lt_of_lt_of_le (rb _) ?_
   have h7:(x.take j).length<=7:=by rw[List.length_take];omega
   exact Nat.le_trans (Nat.pow_le_pow_right Zd h7) Zd
  have m:=zh<|sy (fG (x.take j)) x[j] g
  clear hc hB
  generalize x[j]=y at *
  generalize fG (x.take j)=z at *
  go_wp2
  go_round
  case rel=>exact⟨j+1,zo,by go_num,by rw[vV,m.out,l.out]⟩
  simp[intOf];omega
 obtain rfl:j=x.length:=by omega
 rw[List.take_of_length_le zr]
 go_wp2
 go_ret
 exact⟨rfl,d,f⟩
theorem nN(D:Nat->Prop)(p:Nat)(s:RdS)(w:World)(hR:RdD D w p s):
  Calls prog 224 #[.pointer (some ⟨p,0,none⟩)] w fun e w'=>e=.returned (.int .i64 ((s.num 1).1:Nat))/\RdD D w' p (s.num 1).2/\b_ (fun b=>b≠p) w w':=by
 have hlt:=lG s 1
 have d:=zh<|uc D p 1 s w hR Zd 1 rfl
 clear hR
 generalize (s.num 1).1=z at *
 generalize (s.num 1).2=g at *
 have hw:=pj z zo
 have f:=zh hw
 clear hw
 go_in
 go_wp2_with fail
 refine d.mono ?_
 rintro e h⟨rfl,a,c⟩
 go_wp2
 go_ret
 exact⟨by first|rfl|(rw[<- f.out];rfl),a,c⟩
theorem iB(D:Nat->Prop)(p:Nat)(s:RdS)(w:World)(hR:RdD D w p s):
  Calls prog 115 #[.pointer (some ⟨p,0,none⟩)] w fun e w'=>e=.returned (.int .i64 ((s.num 2).1:Nat))/\RdD D w' p (s.num 2).2/\b_ (fun b=>b≠p) w w':=by
 have hlt:=lG s 2
 have d:=zh<|uc D p 2 s w hR Zd 2 rfl
 clear hR
 generalize (s.num 2).1=z at *
 generalize (s.num 2).2=g at *
 have hw:=pj z zo
 have f:=zh hw
 clear hw
 go_in
 go_wp2_with fail
 refine d.mono ?_
 rintro e h⟨rfl,a,c⟩
 go_wp2
 go_ret
 exact⟨by first|rfl|(rw[<- f.out];rfl),a,c⟩
theorem p9(D:Nat->Prop)(p:Nat)(s:RdS)(w:World)(hR:RdD D w p s):
  Calls prog 116 #[.pointer (some ⟨p,0,none⟩)] w fun e w'=>e=.returned (.int .u64 ((s.num 8).1:Nat))/\RdD D w' p (s.num 8).2/\b_ (fun b=>b≠p) w w':=by
 have d:=zh<|uc D p 8 s w hR Zd 8 rfl
 clear hR
 generalize (s.num 8).1=z at *
 generalize (s.num 8).2=f at *
 go_in
 go_wp2_with fail
 refine d.mono ?_
 rintro e g⟨rfl,a,c⟩
 go_wp2
 go_ret
 exact⟨rfl,a,c⟩
theorem kQ(D:Nat->Prop)(p:Nat)(s:RdS)(w:World)(hR:RdD D w p s):
  Calls prog 225 #[.pointer (some ⟨p,0,none⟩)] w fun e w' =>
   (∃A' c',e=.returned (.slice A' s.Qj.1.length c')/\fy w' w.heap.size 5 A' s.Qj.1.length c' s.Qj.1)/\RdD D w' p s.Qj.2/\b_ (fun b=>b≠p) w w':=by
 have j:=zh<|iB D p s w hR
 have f:Hid (s.Qj=(s.num 2).2.raw (s.num 2).1):=zh rfl
 rw[f.out]
 clear hR f
 generalize (s.num 2).1=z at *
 generalize (s.num 2).2=d at *
 have k:=zh<|vh D p d z
 generalize (d.raw z).1=x at *
 generalize (d.raw z).2=m at *
 go_in
 go_wp2_with fail
 refine j.mono ?_
 rintro e l⟨rfl,g,c⟩
 go_wp2_with fail
 refine(k.out l g).mono ?_
 rintro e n⟨⟨o,c2,rfl,a⟩,h,i⟩
 go_wp2
 go_ret
 exact⟨⟨_,_,rfl,eQ a c.size⟩,h,c.trans i⟩
theorem RdD.keepE{E:Nat->Prop}{s:RdS}(h:RdD D w p s)(hk:b_ E w w')(hp:E p)(hE:∀b,b<w.heap.size->D b->E b):RdD D w' p s:=by
 obtain⟨A,m,c,h1,h2,h3,a⟩:=h.row
 exact⟨⟨A,m,c,hk.Qb h1 hp,h2,h3,a.keep hk fun b hb hd=>hE b hb hd.1⟩,hk.Qb h.why hp,(hk.frozen (p:=⟨p,0,none⟩) h.lt hp).trans h.free0,(hk.frozen (p:=⟨p,1,none⟩) h.lt hp).trans h.free1,h.bound⟩
def RdS.endOf(s:RdS):Int:=if s.why=0/\0<s.bs.length then 11 else s.why
theorem qD(D:Nat->Prop)(p:Nat)(s:RdS)(w:World)(hR:RdD D w p s):
  Calls prog 226 #[.pointer (some ⟨p,0,none⟩)] w fun e w'=>e=.returned (.int .i64 s.endOf)/\w=w':=by
 obtain⟨A,m,c,h1,h2,h3,d⟩:=hR.row
 have hy:=hR.why
 have hl:=d.len
 have b:Hid (s.endOf=if s.why=0/\0<m then 11 else s.why):=zh (by unfold RdS.endOf;rw[hl])
 clear hR d hl
 by_cases h0:s.why=0
 ·rw[h0] at hy b
  by_cases hm:(0:Int)<(m:Int)
  ·have a:Hid (s.endOf=11):=zh (by rw[b.out,if_pos ⟨rfl,zo⟩])
   have f:0<m:=by omega
   clear h0 b
   go_in
   go_wp2
   go_ret
   exact⟨by rw[a.out];rfl,rfl⟩
  have a:Hid (s.endOf=0):=zh (by rw[b.out,if_neg (fun h=>hm zo)])
  have f:¬0<m:=by omega
  clear h0 b
  go_in
  go_wp2
  go_ret
  exact⟨by rw[a.out];rfl,rfl⟩
 have a:Hid (s.endOf=s.why):=zh (by rw[b.out,if_neg (fun h=>h0 h.1)])
 have g:(s.why==0)=false:=by simpa using h0
 clear b
 generalize s.why=y at *
 generalize s.endOf=z at *
 clear h0
 go_in
 go_wp2
 go_ret
 exact⟨by rw[a.out];rfl,rfl⟩
