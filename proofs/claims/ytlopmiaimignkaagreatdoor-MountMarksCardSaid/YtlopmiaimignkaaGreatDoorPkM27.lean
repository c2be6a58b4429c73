/-
  PROVED HERE: parts of a law's walk, each under the conditions that its statement names.
-/
import Derived.Test.YtlopmiaimignkaaGreatDoorPkM26
set_option maxRecDepth 100000
set_option maxHeartbeats 8000000
namespace Go.Proofs.YtlopmiaimignkaaGreatDoor
open Go.Proofs.Tryz
open Go.RowKit
variable{g k n:Nat}{w w' w0:World}{u:Value}
theorem te(D D2:Nat->Prop)(A A2:Option Addr)(n c n2 c2:Nat)(a b:List UInt8)(w:World)(hB:Bs w D A n a)(hB2:Bs w D2 A2 n2 b)(hn:n<=1099511627776)(hn2:n2<=1099511627776):
  Calls prog 221 #[.slice A n c,.slice A2 n2 c2] w fun e w'=>e=.returned (.bool (decide (a=b)))/\New w w':=by
 have hl:=hB.len
 have f:=hB2.len
 by_cases p:n=n2
 ·subst p
  have F:=zh hB
  have x:=zh hB2
  have r:=J2 hl f
  clear hB hB2 hl f
  go_in
  go_wp2_with fail
  go_loopw [13] (fun i G=>∃k:Nat,k<=n/\i=.int .i64 (k:Int)/\(∀j (h1:j<a.length) (h2:j<b.length),j<k->a[j]=b[j])/\New w G) (fun i _=>n-(intOf i).toNat)
  case atStart=>exact⟨0,Nat.zero_le _,rfl,fun j _ _ hj=>absurd hj (Nat.not_lt_zero j),zN w⟩
  obtain⟨k,hk,rfl,s,y⟩:=hrel
  have g:=zh s
  have q:=zh y
  clear s y
  by_cases hlt:k<n
  ·have h1:k<a.length:=by have:=r.out;omega
   have h2:k<b.length:=by have:=r.out;omega
   obtain⟨g1,H,rfl,-,-,z⟩:=F.cellAt zo
   obtain⟨I,J,rfl,-,-,B⟩:=x.cellAt zo
   have K:∀m,(wr.drewN m).cell? ⟨g1,H+k,none⟩=some (.int .u8 (bv a[k])):=fun m=>(q.drewN m).Qb (z k h1) trivial
   have L:∀m,(wr.drewN m).cell? ⟨I,J+k,none⟩=some (.int .u8 (bv b[k])):=fun m=>(q.drewN m).Qb (B k h2) trivial
   have l:Hid (a[k]=b[k]->∀j (h1:j<a.length) (h2:j<b.length),j<k+1->a[j]=b[j]):=zh fun h j C E hj=>by
    by_cases e:j=k
    ·subst e;exact h
    exact g.out j C E zo
   have o:Hid (a[k]≠b[k]->decide (a=b)=false):=zh fun h=>decide_eq_false fun e=>h (by subst e;rfl)
   generalize a[k]=u at *
   generalize b[k]=v at *
   clear z B g
   by_cases d:u=v
   ·have l:=zh<|l.out d
    have hd:(bv u !=bv v)=false:=by rw[d];simp
    clear o d
    go_upto_region 6 with fail
    go_quiet (fail)
    go_wp2
    go_roundw
    case rel=>exact⟨k+1,zo,by go_num,l.out,q.drewN _⟩
    simp[intOf];omega
   have o:=zh<|o.out d
   have hd:(bv u !=bv v)=true:=by simpa using fun e=>d (ur e)
   clear l d
   go_upto_region 6 with fail
   go_quiet (fail)
   go_wp2
   go_ret
   exact⟨by rw[o.out];rfl,q.drewN _⟩
  obtain rfl:k=n:=by omega
  have t:Hid (decide (a=b)=true):=zh (decide_eq_true (List.ext_getElem (by have:=r.out;omega) fun j h1 h2=>g.out j h1 h2 (by have:=r.out;omega)))
  clear g
  go_wp2
  go_ret
  exact⟨by rw[t.out];rfl,q.out⟩
 have hd:((n:Int) !=(n2:Int))=true:=by simp;omega
 have t:Hid (decide (a=b)=false):=zh (decide_eq_false fun e=>p (by rw[<- hl,<- f,e]))
 clear hl f hB hB2 p
 go_in
 go_wp2
 go_ret
 exact⟨by rw[t.out];rfl,zN w⟩
def jC(b:List UInt8):Option (Nat×List UInt8) :=
 if 64<=fG ((b.drop 6).take 2)/\fG ((b.drop 6).take 2)<=4096/\fc (fG ((b.drop 6).take 2):Nat) ((b.drop 8).take 16)=b then some (fG ((b.drop 6).take 2),(b.drop 8).take 16) else none
theorem uJ{id:List UInt8}(h0:64<=n)(h1:n<=4096)(hid:id.length=16):jC (fc n id)=some (n,id):=by
 have e:fc (n:Int) id=[87,79,82,77,0,1]++(beI 2 n++(id++(be4 (fp (m_ n id))++List.replicate 100 0))):=by
  unfold fc
  generalize be4 (fp (m_ (n:Int) id))=x
  unfold m_
  rw[show beI 2 1=[0,1] from by decide]
  simp only[List.append_assoc]
  rfl
 have a:(fc (n:Int) id).drop 6=beI 2 n++(id++(be4 (fp (m_ n id))++List.replicate 100 0)):=by rw[e];rfl
 have e1:fG (((fc (n:Int) id).drop 6).take 2)=n:=by
  rw[a,List.take_append_of_le_length (by rw[dL];omega),List.take_of_length_le (by rw[dL];omega)]
  have:=j1 2 (n:Int) zo zo
  omega
 have e2:((fc (n:Int) id).drop 8).take 16=id:=by
  rw[show 8=6+2 from rfl,<- List.drop_drop,a,List.drop_append_of_le_length (by rw[dL];omega),List.drop_eq_nil_of_le (by rw[dL];omega),List.nil_append,List.take_append_of_le_length zo,List.take_of_length_le zo]
 unfold jC
 rw[e1,e2,if_pos ⟨h0,h1,rfl⟩]
theorem sY:jC (List.replicate 128 0)=none:=by
 unfold jC
 rw[if_neg]
 rintro⟨h,-,-⟩
 exact absurd h Zd
def Gp(w:World)(r:Option (Nat×List UInt8))(e:Ending)(w':World):Prop :=
 (match r with
 | some (n,id)=>∃A' c',e=.returned (.tuple #[.int .i64 (n:Int),.slice A' 16 c',.int .i64 0])/\fy w' w.heap.size 5 A' 16 c' id
 | none=>e=.returned (.tuple #[.int .i64 0,.slice none 0 0,.int .i64 41]))/\New w w'
theorem uN(D:Nat->Prop)(A:Option Addr)(c:Nat)(b:List UInt8)(w:World)(hB:Bs w D A 128 b):
  Calls prog 123 #[.slice A 128 c] w (Gp w (jC b)):=by
 have hl:=hB.len
 obtain⟨a4,u,J,k⟩:∃a4 u,a4=b.take 4/\u=b.drop 4:=⟨_,_,rfl,rfl⟩
 have e1:RdS.raw ⟨b,0⟩ 4=(a4,⟨u,0⟩):=by rw[RdS.Qn _ _ rfl Zd (by show(4:Int)<=b.length;omega),J,k];rfl
 obtain⟨x,y,Q,l⟩:∃x y,x=fG ((b.drop 4).take 2)/\y=b.drop 6:=⟨_,_,rfl,rfl⟩
 have e2:RdS.num ⟨u,0⟩ 2=(x,⟨y,0⟩):=by
  unfold RdS.num
  rw[RdS.Qn _ _ rfl Zd (by rw[k];show(2:Int)<=(b.drop 4).length;rw[List.length_drop];omega),Q,l,k]
  simp
 obtain⟨n,z,hn,o⟩:∃n z,n=fG ((b.drop 6).take 2)/\z=b.drop 8:=⟨_,_,rfl,rfl⟩
 have e3:RdS.num ⟨y,0⟩ 2=(n,⟨z,0⟩):=by
  unfold RdS.num
  rw[RdS.Qn _ _ rfl Zd (by rw[l];show(2:Int)<=(b.drop 6).length;rw[List.length_drop];omega),hn,o,l]
  simp
 obtain⟨id,O,q,K⟩:∃id O,id=(b.drop 8).take 16/\O=b.drop 24:=⟨_,_,rfl,rfl⟩
 have e4:RdS.raw ⟨z,0⟩ 16=(id,⟨O,0⟩):=by
  rw[RdS.Qn _ _ rfl Zd (by rw[o];show(16:Int)<=(b.drop 8).length;rw[List.length_drop];omega),q,K,o]
  simp
 have B:id.length=16:=by rw[q,List.length_take,List.length_drop,hl];rfl
 have ac:n<=65535:=by
  rw[hn]
  have:=rb ((b.drop 6).take 2)
  rw[List.length_take,List.length_drop,hl,show 256^min 2 (128-6)=65536 from by decide] at this
  omega
 have f:Hid (jC b=if 64<=n/\n<=4096/\fc (n:Int) id=b then some (n,id) else none):=zh (by rw[hn,q];rfl)
 have R:=zh e1
 have S:=zh e2
 have T:=zh e3
 have U:=zh e4
 have V:=zh hB
 have X:=zh B
 clear J k Q l hn o q K e1 e2 e3 e4 hB hl B
 have L:=zh<|kh D A 128 c b w V.out Zd
 go_in
 go_wp2_with fail
 refine L.mono ?_
 rintro e w1⟨⟨p,rfl,hp,a⟩,Y⟩
 have Z:=zh<|jr p ⟨b,0⟩ 4 w1 a
 have HK:=zh Y
 clear L Y a
 go_wp2_with fail
 refine Z.mono ?_
 rintro e w2⟨⟨A2,c2,rfl,-⟩,a,k2⟩
 rw[R.out] at a
 have M:=zh<|jk p ⟨u,0⟩ w2 a
 have d:=zh k2
 clear Z k2 a
 go_wp2_with fail
 refine M.mono ?_
 rintro e w3⟨rfl,a,k3⟩
 rw[S.out] at a ⊢
 have C:=zh<|jk p ⟨y,0⟩ w3 a
 rw[T.out] at C
 replace d:=zh<|d.trans k3
 clear M k3 a
 go_wp2_with fail
 refine C.mono ?_
 rintro e w4⟨rfl,a,k4⟩
 have E:=zh<|jr p ⟨z,0⟩ 16 w4 a
 rw[U.out] at E
 replace d:=zh<|d.trans k4
 have aa:=zh<|Nat.le_trans HK.size d.size
 clear C k4 a
 go_wp2_with fail
 refine E.mono ?_
 rintro e w5⟨⟨G,H,rfl,I⟩,-,k5⟩
 dsimp only at I ⊢
 rw[X.out] at I ⊢
 replace d:=zh<|d.trans k5
 have F:Hid (New w w5):=zh ((HK.Qd d.out fun i hi _=>Nat.ne_of_lt (Nat.lt_of_lt_of_le hi hp)))
 have HO:=zh<|eQ (base:=w.heap.size) I aa.out
 clear E k5 I
 by_cases P:64<=n/\n<=4096
 ·obtain⟨h0,h1⟩:=P
  have g:=zh<|vb (n:=(n:Int)) (A:=G) (c:=H) zo zo (Row.Qc HO.out)
  go_wp2_with fail
  refine g.mono ?_
  rintro e w6⟨⟨A6,c6,rfl,o6⟩,j⟩
  have r:=zh<|te _ _ A6 A 128 c6 128 c _ b w6 (Row.Qc o6) (V.new (F.new j)) Zd Zd
  have N:=zh<|F.new j
  have ab:=zh<|Own.Qh HO.out j
  clear g j o6
  by_cases hb:fc (n:Int) id=b
  ·rw[decide_eq_true hb] at r
   rw[if_pos ⟨h0,h1,hb⟩] at f
   clear hb
   go_wp2_with fail
   refine r.mono ?_
   rintro e w7⟨rfl,s⟩
   have t:=J2 (N.new s) (Own.Qh ab.out s)
   clear s
   go_wp2
   refine Zb (.tuple #[.int .i64 (n:Int),.slice G 16 H,.int .i64 0]) (by simp[results,results123,go_sem]) ?_
   rw[f.out]
   exact⟨⟨G,H,rfl,t.2⟩,t.1⟩
  rw[decide_eq_false hb] at r
  rw[if_neg (fun h=>hb h.2.2)] at f
  clear hb
  go_wp2_with fail
  refine r.mono ?_
  rintro e w7⟨rfl,s⟩
  have t:=zh<|N.new s
  clear s
  go_wp2
  refine Zb (.tuple #[.int .i64 0,.slice none 0 0,.int .i64 41]) (by simp[results,results123,go_sem]) ?_
  rw[f.out]
  exact⟨rfl,t.out⟩
 have g:=zh<|fun W=>C2 (n:=(n:Int)) (A:=G) (m:=16) (c:=H) zo zo W
 rw[if_neg (fun h=>P ⟨h.1,h.2.1⟩)] at f
 clear P
 go_wp2_with fail
 refine(g.out _).mono ?_
 rintro e w6⟨rfl,j⟩
 have t:=zh<|F.new j
 clear j g
 go_wp2
 refine Zb (.tuple #[.int .i64 0,.slice none 0 0,.int .i64 41]) (by simp[results,results123,go_sem]) ?_
 rw[f.out]
 exact⟨rfl,t.out⟩
theorem ox{c0 c1 c2:Value}{t:TypeId}(h:w.heap[g]?=some (.cells #[c0,c1,c2] t (0,0)))(x0 x1 x2:Value):
  (((w.setCell ⟨g,0,none⟩ x0).setCell ⟨g,1,none⟩ x1).setCell ⟨g,2,none⟩ x2).heap[g]?=some (.cells #[x0,x1,x2] t (0,0))/\b_ (fun b=>b≠g) w (((w.setCell ⟨g,0,none⟩ x0).setCell ⟨g,1,none⟩ x1).setCell ⟨g,2,none⟩ x2):=by
 have a:∀(W:World) (k:Nat) (u:Value),b_ (fun b=>b≠g) w W->b_ (fun b=>b≠g) w (W.setCell ⟨g,k,none⟩ u):=fun W k u c=>c.setCell (p:=⟨g,k,none⟩) (fun hd=>absurd rfl hd) u
 exact⟨dM (dM (dM h 0 x0) 1 x1) 2 x2,a _ _ _ (a _ _ _ (a _ _ _ (b_.refl _ w)))⟩
def j4(w:World)(k:Nat)(S:List UInt8)(e:Ending)(w':World):Prop :=
 (match jC (S.take 128) with
 | some (n,id)=>if n=k then ∃A' c',e=.returned (.tuple #[.agg #[.int .i64 (k:Int),.int .i64 ((k/4:Nat):Int),.int .i64 (((k-1-2*(k/4))/8:Nat):Int)],.slice A' 16 c',.int .i64 0])/\fy w' w.heap.size 5 A' 16 c' id
  else e=.returned (.tuple #[.agg #[.int .i64 0,.int .i64 0,.int .i64 0],.slice none 0 0,.int .i64 41])
 | none=>e=.returned (.tuple #[.agg #[.int .i64 0,.int .i64 0,.int .i64 0],.slice none 0 0,.int .i64 41]))/\New w w'
theorem tP{q:g9}{S:List UInt8}(h:iK w q S)(hk:S.length=k*128):
  Calls prog 38 #[.pointer (some ⟨q.bd,0,none⟩)] w (j4 w k S):=by
 obtain⟨Q,e',ad,ac⟩:=h.size
 obtain rfl:Q=k:=by omega
 clear e'
 obtain⟨ae,hd⟩:=h
 have s:=fun W (R:New w W)=>zh (rK (hd.new R) hk 0 zo)
 have M:=fun W (R:New w W)=>zh (mF (hd.new R) hk)
 have y:nc S gM.no 0=S.take 128:=by rw[vf];rfl
 rw[y] at s
 clear y hd
 obtain⟨b,hb⟩:=zx (S.take 128)
 have N:=zh hb
 rw[<- hb] at s
 clear hb
 have V:=(zN w).alloc (.cells #[.int .i64 0,.int .i64 0,.int .i64 0] 35)
 have X:=heap_alloc_new w (.cells #[.int .i64 0,.int .i64 0,.int .i64 0] 35)
 go_in
 go_upto_region 1 with fail
 generalize hgp:w.heap.size=d at *
 generalize w.alloc (.cells #[.int .i64 0,.int .i64 0,.int .i64 0] 35)=w1 at *
 have J:=zh hgp
 have a:=zh X
 have f:=zh V
 clear X V hgp
 go_wp2_with fail
 refine(s _ f.out).mono ?_
 rintro e Y⟨⟨A2,c2,rfl,Z⟩,T⟩
 have O:=zh<|uN _ A2 c2 b Y (Row.Qc Z)
 replace a:=zh<|T.Qa a.out zt
 replace f:=zh<|f.new T
 have aa:d+1<=Y.heap.size:=(Array.getElem?_eq_some_iff.1 a.out).1
 clear T Z s
 go_wp2_with fail
 refine O.mono ?_
 rintro e w3⟨x,U⟩
 replace a:=zh<|U.Qa a.out zt
 replace f:=zh<|f.new U
 clear U O
 cases hso:jC b with
 | none =>
  rw[hso] at x
  dsimp only at x
  subst x
  have t:Hid (jC (S.take 128)=none):=zh (by rw[<- N.out];exact hso)
  clear hso
  obtain⟨z,A,B⟩:=cs3 a.out
  obtain⟨z0,C,D⟩:=fz3 a.out
  go_wp2_with fail
  clear z A B z0 C D
  obtain⟨i,l⟩:=ox a.out (.int .i64 0) (.int .i64 0) (.int .i64 0)
  generalize P:World.setCell _ _ _=j at *
  have E:j.cell? ⟨d,0,none⟩=some (.int .i64 0):=a_ i rfl
  have F:j.cell? ⟨d,1,none⟩=some (.int .i64 0):=a_ i rfl
  have G:j.cell? ⟨d,2,none⟩=some (.int .i64 0):=a_ i rfl
  refine Zb (.tuple #[.agg #[.int .i64 0,.int .i64 0,.int .i64 0],.slice none 0 0,.int .i64 41]) (by simp[results,results38,go_sem,E,F,G]) ?_
  unfold j4
  rw[t.out]
  exact⟨rfl,f.Qd l fun b hb _=>by rw[J.out] at hb;omega⟩
 | some r =>
  obtain⟨n,id⟩:=r
  have t:Hid (jC (S.take 128)=some (n,id)):=zh (by rw[<- N.out];exact hso)
  rw[hso] at x
  dsimp only at x
  obtain⟨A3,c3,rfl,o3⟩:=x
  have u:=zh<|eQ (base:=d+1) o3 aa
  have o:=M w3 f.out
  have af:n<=4096:=by
   have c:=hso
   unfold jC at c
   split at c
   ·rename_i hc
    injection c with c
    injection c with e1 e2
    rw[<- e1];exact hc.2.1
   cases c
  clear hso o3 M
  by_cases H:n=Q
  ·subst H
   have m:=zh<|oL (n:Int) zo w3
   rw[lF zo zo] at m
   dsimp only at m
   have e1:(n:Int)/4=((n/4:Nat):Int):=zo
   have e2:((n:Int)-1-2*((n:Int)/4))/8=(((n-1-2*(n/4))/8:Nat):Int):=zo
   rw[e2,e1] at m
   have HF:Hid (∀e K,((∃A' c',e=Ending.returned (.tuple #[.agg #[.int .i64 (n:Int),.int .i64 ((n/4:Nat):Int),.int .i64 (((n-1-2*(n/4))/8:Nat):Int)],.slice A' 16 c',.int .i64 0])/\fy K w.heap.size 5 A' 16 c' id)/\New w K)->j4 w n S e K):=zh fun e K hh=>by
    unfold j4
    rw[t.out]
    dsimp only
    rw[if_pos rfl]
    exact hh
   clear e1 e2
   generalize ((n/4:Nat):Int)=p at *
   generalize (((n-1-2*(n/4))/8:Nat):Int)=g at *
   go_wp2_with fail
   refine o.mono ?_
   rintro e I⟨rfl,rfl⟩
   go_wp2_with fail
   refine m.mono ?_
   rintro e I⟨rfl,k4⟩
   have L:=k4.alloc (.cells #[.int .i64 n,.int .i64 p,.int .i64 g] 35)
   have xB:=heap_alloc_new I (.cells #[.int .i64 n,.int .i64 p,.int .i64 g] 35)
   go_upto_region 6 with fail
   generalize I.alloc (.cells #[.int .i64 n,.int .i64 p,.int .i64 g] 35)=w5 at *
   generalize I.heap.size=gB at *
   replace a:=zh<|L.Qa a.out zt
   replace f:=zh<|f.new L
   replace u:=zh<|Own.Qh u.out L
   clear k4 L o m
   obtain⟨y0,y1,y2⟩:=cs3 xB
   obtain⟨z,A,B⟩:=cs3 a.out
   obtain⟨z0,C,D⟩:=fz3 a.out
   clear xB
   go_wp2_with fail
   clear z A B z0 C D y0 y1 y2
   obtain⟨i,l⟩:=ox a.out (.int .i64 n) (.int .i64 p) (.int .i64 g)
   generalize P:World.setCell _ _ _=j at *
   have E:j.cell? ⟨d,0,none⟩=some (.int .i64 n):=a_ i rfl
   have F:j.cell? ⟨d,1,none⟩=some (.int .i64 p):=a_ i rfl
   have G:j.cell? ⟨d,2,none⟩=some (.int .i64 g):=a_ i rfl
   refine Zb (.tuple #[.agg #[.int .i64 n,.int .i64 p,.int .i64 g],.slice A3 16 c3,.int .i64 0]) (by simp[results,results38,go_sem,E,F,G]) ?_
   refine HF.out _ _ ⟨⟨A3,c3,rfl,?_⟩,f.Qd l fun b hb _=>by rw[J.out] at hb;omega⟩
   rw[J.out]
   exact eQ (eP u.out l fun b hb e=>by have:=(eW u.out b hb).1;omega) (Nat.le_succ _)
  have ag:((n:Int) !=(Q:Int))=true:=by simp;omega
  obtain⟨z,A,B⟩:=cs3 a.out
  obtain⟨z0,C,D⟩:=fz3 a.out
  have ab:=zh H
  clear H
  go_wp2_with fail
  refine o.mono ?_
  rintro e I⟨rfl,rfl⟩
  go_wp2_with fail
  clear z A B z0 C D
  obtain⟨i,l⟩:=ox a.out (.int .i64 0) (.int .i64 0) (.int .i64 0)
  generalize P:World.setCell _ _ _=j at *
  have E:j.cell? ⟨d,0,none⟩=some (.int .i64 0):=a_ i rfl
  have F:j.cell? ⟨d,1,none⟩=some (.int .i64 0):=a_ i rfl
  have G:j.cell? ⟨d,2,none⟩=some (.int .i64 0):=a_ i rfl
  refine Zb (.tuple #[.agg #[.int .i64 0,.int .i64 0,.int .i64 0],.slice none 0 0,.int .i64 41]) (by simp[results,results38,go_sem,E,F,G]) ?_
  unfold j4
  rw[t.out]
  dsimp only
  rw[if_neg ab.out]
  exact⟨rfl,f.Qd l fun b hb _=>by rw[J.out] at hb;omega⟩
section
variable {w w':World}{nb bm p base:Nat}{c:Col}{i bt:Nat}{q:fx}{T:dX}{bs:List UInt8}
theorem Wr.newW(h:Wr w base p bs)(hk:New w w'):Wr w' base p bs:=h.keep hk fun _ _=>trivial
theorem kK.cell_row(h:kK w0 w' p)(_hW:Wr w0 base p bs)(hg:w.heap.size<=g)(hp:p<w.heap.size)(hr:∀b,lc w0 p=some b->b<w.heap.size)(hc:w0.cell? ⟨g,k,none⟩=some u):w'.cell? ⟨g,k,none⟩=some u :=
 h.keep.Qb hc ⟨by show g≠p;omega,fun e=>by have:=hr g e.symm;omega⟩
theorem jJ{w1:World}(h:Wr w0 base p bs)(hk:New w0 w1):∀b,lc w1 p=some b->b<w0.heap.size:=fun b hb=>by
 obtain⟨A,c,hc,a,_⟩:=h.row
 rw[ng (hk.Qb hc zt)] at hb
 exact(eW a b hb).2
theorem rk(h:ea w c i bt q T)(hT:rN T):
  Calls prog 63 #[.pointer (some ⟨bt,0,none⟩)] w fun e w'=>(∃A' c',e=.returned (.slice A' (e_ T).length c')/\fy w' w.heap.size 5 A' (e_ T).length c' (e_ T))/\New w w':=by
 have F:=zh h
 have HO:=zh hT
 have bK:=hT.few
 have bP:=wm hT
 have c0:w.cell? ⟨bt,0,none⟩=some (.map (some q.bm)):=a_ h.tree (k:=0) rfl
 have bL:=h.ltT
 clear h hT
 go_in
 go_wp2_with fail
 refine(gV w).mono ?_
 rintro e w1⟨⟨p,rfl,aM⟩,k1⟩
 replace c0:=k1.Qb c0 trivial
 have ab:=(F.own.new k1).len underlying215
 have aN:=zh aM
 have bx:=zh k1
 clear aM k1
 go_wp2_with fail
 refine(iT _ _ _ (T.length:Int) w1 aN.out (by simp)).mono ?_
 rintro e w2⟨rfl,aO,aP⟩
 have aQ:Hid (b_ (fun b=>b<w.heap.size) w w2):=zh ((b_.Qe bx.out).trans (aN.low aP))
 have aq:=zh aO
 have HI:=zh<|Co (F.keep aQ.out (Ext.refl _ _) fun b hb _=>hb) zo
 clear aO aP ab c0
 go_wp2_with fail
 refine HI.mono ?_
 rintro e w3⟨⟨A,cp,rfl,ho⟩,k3⟩
 have bf:=zh ho
 have bz:=zh k3
 have aR:Hid (Wr w3 w.heap.size p (beI 2 T.length)):=zh (by have:=aq.newW k3;rwa[List.nil_append] at this)
 have bA:=zh<|aQ.new k3
 clear ho k3 HI
 go_wp2_with fail
 go_loopw [22] (fun ar wx=>∃n:Nat,ar=.int .i64 (n:Int)/\n<=T.length/\b_ (fun b=>b<w.heap.size) w wx/\kK w3 wx p/\Wr wx w.heap.size p (beI 2 T.length++((T.take n).map iC).flatten)) (fun ar _=>T.length-(intOf ar).toNat)
 case atStart=>exact⟨0,rfl,Nat.zero_le _,bA.out,kK.refl _ _,by simpa using aR.out⟩
 obtain⟨n,rfl,bQ,j,ak,B⟩:=hrel
 by_cases hlt:n<T.length
 ·skip
  have bB:(n:Int)<(T.length:Int):=zo
  obtain⟨id,au⟩:=zx (T[n].1)
  obtain⟨a,av⟩:=zx (T[n].2)
  have o:T[n]=(id,a):=by rw[au,av]
  have hg:dN T id=some a:=F.own.1.get (by rw[<- o];exact List.getElem_mem hlt)
  have G:=HO.node T[n] (List.getElem_mem hlt)
  have al:=HO.names T[n] (List.getElem_mem hlt)
  rw[o] at G al
  have al:a.names.length<=10000:=al
  have G:qs id a.n:=G
  have aw:=F.keep j (Ext.refl _ _) fun b hb _=>hb
  have am:=(aw.look (id:=id) (by have:=G.id;omega) (by have:=G.id;omega)).2
  rw[hg,Option.elim_some] at am
  have c0:wr.cell? ⟨bt,0,none⟩=some (.map (some q.bm)):=a_ aw.tree (k:=0) rfl
  obtain⟨An,aS,x0,x1,x2,x3,x4,x5,x6,x7,aT,aU,aV⟩:=gj (F.item id a hg)
  have aW:=(F.item id a hg).lt
  have bC:Hid (∀W,b_ (fun b=>b<w.heap.size) w W->Bs W (fun b=>b<w.heap.size) An a.b.length a.b):=zh fun W B=>((aV.imp (E:=fun b=>b<w.heap.size) fun b hb _=>hb).keep B fun b _ hb=>hb)
  have H:=(Row.Qc bf.out)
  obtain⟨g,off,hA,bD,bR,r⟩:=H.2 zo
  subst hA
  have bg:=aq.lt
  have cn:wr.cell? ⟨g,off+n,none⟩=some (.int .i64 id):=ak.cell_row (w:=w2) aR.out bD bg (jJ aq.out bz.out) (r n _ (by rw[List.getElem?_map,List.getElem?_eq_getElem hlt,o];rfl))
  have bh:(beI 2 T.length++((T.take n).map iC).flatten).length<=700000000002:=by
   have h1:=iG iC 700000000 (T.take n) fun p hp=>nU (HO.names p (List.mem_of_mem_take hp))
   rw[zL,dL]
   have:(T.take n).length*700000000<=1000*700000000:=Nat.mul_le_mul_right _ (by rw[List.length_take];omega)
   omega
  obtain⟨ax,ac⟩:=zx (beI 2 T.length++((T.take n).map iC).flatten)
  rw[<- ac] at B bh
  have bM:(iC (id,a)).length<=700000000:=nU al
  have d:=J6 j ak B ac o hg
  have O:Hid (∀W,b_ (fun b=>b<w.heap.size) w W->∀k u,w.cell? ⟨q.β id,k,none⟩=some u->W.cell? ⟨q.β id,k,none⟩=some u):=zh fun W B k u hc=>B.Qb hc aW
  have y0:wr.cell? ⟨q.β id,0,none⟩=some (.int .i64 id):=O.out wr j 0 _ x0
  have y1:wr.cell? ⟨q.β id,1,none⟩=some (.int .i64 a.n.kind):=O.out wr j 1 _ x1
  have y2:wr.cell? ⟨q.β id,2,none⟩=some (.int .i64 a.n.links):=O.out wr j 2 _ x2
  have y3:wr.cell? ⟨q.β id,3,none⟩=some (.int .i64 a.n.size):=O.out wr j 3 _ x3
  have y4:wr.cell? ⟨q.β id,4,none⟩=some (.int .u64 a.n.till):=O.out wr j 4 _ x4
  have y5:wr.cell? ⟨q.β id,5,none⟩=some (.bool a.n.shut):=O.out wr j 5 _ x5
  have R:=J2 x6 x7
  have ay:=J2 aT aU
  have aX:=zh<|yp G wr
  replace au:=zh au
  replace av:=zh av
  clear B ak j aw H r aV x0 x1 x2 x3 x4 x5 x6 x7 aT aU ac o hg G aW
  go_wp2_with fail
  refine aX.mono ?_
  rintro e w5⟨⟨A5,c5,rfl,o5⟩,k5⟩
  have bi:=zh<|d.1.new k5
  have bj:=zh<|d.2.1.trans (kK.Qe k5 d.2.2.1.lt)
  have aY:=zh<|d.2.2.1.newW k5
  have H5:=J2 o5 k5
  clear o5 k5 aX y0 y1 y2 y3 y4 y5 cn am c0
  go_wp2_with fail
  refine(jE _ _ _ A5 16 c5 ax (eY id a.n) w5 aY.out (Row.Qc H5.1) (fun b hb=>⟨by have:=d.2.2.1.lt;omega,fun e=>by have:=jJ d.2.2.1 H5.2 b e.symm;omega⟩) (ew H5.1) Zd zo).mono ?_
  rintro e w6⟨rfl,aZ,az⟩
  have ad:=zh<|bi.trans (aY.low az)
  have bl:=zh<|bj.trans az
  have an:=zh aZ
  clear aZ az
  have y6:w6.cell? ⟨q.β id,6,none⟩=some (.slice An a.b.length aS):=O.out w6 ad.out 6 _ R.1
  go_wp2_with fail
  refine(jE _ _ _ An a.b.length aS _ a.b w6 an.out (bC.out w6 ad.out) (fun b hb=>⟨by have:=an.hp;omega,fun e=>by have:=(an.rowLt b e.symm).1;omega⟩) ay.1 (Nat.le_trans ay.1 ay.2) (by have:=eC (eY id a.n);rw[zL];omega)).mono ?_
  rintro e w7⟨rfl,a1,aA⟩
  have ae:=zh<|ad.trans (an.low aA)
  have bn:=zh<|bl.trans aA
  have a2:=zh a1
  clear a1 aA y6
  have y7:w7.cell? ⟨q.β id,7,none⟩=some (.map (if a.n.kind=2 then some (q.γ id) else none)):=O.out w7 ae.out 7 _ R.2
  obtain⟨v,V⟩:=zx ((if a.n.kind=2 then some (q.γ id) else none))
  rw[<- V] at y7
  have ao:Hid (∀W,b_ (fun b=>b<w.heap.size) w W->a.n.kind=2->mf W (q.γ id) a.names):=zh fun W B hk=>((F.item id a d.2.2.2.2.2).names hk).2.keep B ((F.item id a d.2.2.2.2.2).names hk).2.lt
  have ab:∀ty,(Builtin.len_ #[212] ty #[.map v]).run prog w7=.ok (.int .i64 a.names.length) w7:=fun ty=>by
   by_cases hk:a.n.kind=2
   ·rw[V,if_pos hk];exact(ao.out w7 ae.out hk).len underlying212 ty
   rw[V,if_neg hk,(F.item id a d.2.2.2.2.2).bare hk];exact Maps.len_nil underlying212 ty
  have X:=zh V
  clear V
  go_wp2_with fail
  refine(iT _ _ _ (a.names.length:Int) w7 a2.out (by have:=eC (eY id a.n);have:=eC a.b;rw[zL,zL];omega)).mono ?_
  rintro e l⟨rfl,a6,aB⟩
  have af:=zh<|ae.trans (a2.low aB)
  have bo:=zh<|bn.trans aB
  have ap:=zh a6
  clear a6 aB ab
  replace y7:l.cell? ⟨q.β id,7,none⟩=some (.map v):=by rw[X.out];exact O.out l af.out 7 _ R.2
  have a7:Hid (Calls prog 159 #[.map v] l fun e w'=>e=.returned (.func (.func 245) #[] #[.pointer (some ⟨l.heap.size,0,none⟩)])/\w'=l.alloc (.cells #[.map v] 212)):=zh (by cases v with|none=>exact yJ l|some b=>exact DX b l)
  have P:=(zN l).alloc (.cells #[.map v] 212)
  have x9:=heap_alloc_new l (.cells #[.map v] 212)
  have a8:Hid (Calls prog 158 #[.func (.func 245) #[] #[.pointer (some ⟨l.heap.size,0,none⟩)]] (l.alloc (.cells #[.map v] 212)) fun e w'=>(∃(A:Option Addr) (c:Nat),e=.returned (.slice A a.names.length c)/\Own w' (l.alloc (.cells #[.map v] 212)).heap.size 9 1 A a.names.length c (a.names.map fun p=>.string (dR p.1)))/\New (l.alloc (.cells #[.map v] 212)) w'):=zh (by
   by_cases hk:a.n.kind=2
   ·have hm:v=some (q.γ id):=by rw[X.out,if_pos hk]
    rw[hm] at P x9 ⊢
    exact xH (((ao.out l af.out hk)).new P) zo _ x9
   have hm:v=none:=by rw[X.out,if_neg hk]
   have hn:=(F.item id a d.2.2.2.2.2).bare hk
   rw[hm] at P x9 ⊢
   rw[hn]
   refine(xG _ x9).mono ?_
   rintro e w'⟨he,bE⟩
   exact⟨⟨none,0,he,Own.nil _ _ _ _⟩,bE⟩)
  have ba:=zh P
  clear P x9
  go_wp2_with fail
  refine a7.mono ?_
  rintro e w9⟨rfl,rfl⟩
  go_wp2_with fail
  refine a8.mono ?_
  rintro e bF⟨⟨bS,bT,rfl,bb⟩,bc⟩
  have S:=zh<|ba.new bc
  have bG:=zh bb
  have aI:=zh<|af.new S.out
  have aJ:=zh<|bo.trans (kK.Qe S.out ap.lt)
  have ag:=zh<|ap.newW S.out
  clear bb bc a7 a8 y7
  go_wp2_with fail
  obtain⟨I,D⟩:=zx (ax++dU (eY id a.n)++dU a.b++beI 2 a.names.length)
  have bU:I.length<=ax.length+131076:=by rw[D];have:=eC (eY id a.n);have:=eC a.b;rw[zL,zL,zL,dL];omega
  rw[<- D] at ag
  generalize wr=w4 at *
  go_loopw [63] (fun aC wx=>∃m:Nat,aC=.int .i64 (m:Int)/\m<=a.names.length/\b_ (fun b=>b<w.heap.size) w wx/\kK bF wx p/\Wr wx w.heap.size p (I++((a.names.take m).map fP).flatten)) (fun aC _=>a.names.length-(intOf aC).toNat)
  case atStart=>exact⟨0,rfl,Nat.zero_le _,aI.out,kK.refl _ _,by simpa using ag.out⟩
  obtain⟨m,rfl,bV,y,z,f⟩:=hrel
  by_cases J:m<a.names.length
  ·skip
   have bH:(m:Int)<(a.names.length:Int):=zo
   obtain⟨C,ah⟩:=zx (a.names[m].1)
   obtain⟨kk,aD⟩:=zx (a.names[m].2)
   have K:a.names[m]=(C,kk):=by rw[ah,aD]
   have Q:a.n.kind=2:=by
    rcases Decidable.em (a.n.kind=2) with h|h
    ·exact h
    have:=(F.item id a d.2.2.2.2.2).bare h
    rw[this] at J
    exact absurd J (Nat.not_lt_zero _)
   have aE:v=some (q.γ id):=by rw[X.out,if_pos Q]
   have H:=(Row.Qc bG.out)
   obtain⟨g2,bp,hA,bN,bO,r⟩:=H.2 zo
   subst hA
   have cm:wr.cell? ⟨g2,bp+m,none⟩=some (.string (dR C)):=z.cell_row (w:=l) ag.out (by have:=ba.size;omega) ap.lt (jJ ap.out S.out) (r m _ (by rw[List.getElem?_map,List.getElem?_eq_getElem J,K];rfl))
   have hgn:dN a.names C=some kk:=(ao.out wr y Q).1.get (by rw[<- K];exact List.getElem_mem J)
   obtain⟨bI,wc,aK,M,s,Y⟩:=nC C wr
   have bJ:(I++((a.names.take m).map fP).flatten).length<=I.length+655390000:=by
    have h1:=iG fP 65539 (a.names.take m) fun x _=>by unfold fP;rw[zL,dL];have:=eC x.1;omega
    rw[zL]
    have:(a.names.take m).length*65539<=10000*65539:=Nat.mul_le_mul_right _ (by rw[List.length_take];omega)
    omega
   obtain⟨bq,t⟩:=zx (I++((a.names.take m).map fP).flatten)
   rw[<- t] at f bJ
   have bd:C.length<=9223372036854775807:=by
    have h1:=HO.short T[n] (List.getElem_mem hlt)
    rw[d.2.2.2.2.1] at h1
    have h2:a.names[m].1.length<=16:=h1 a.names[m] (List.getElem_mem J)
    rw[K] at h2
    have h2:C.length<=16:=h2
    omega
   have Z:=zh<|za y (za z (za f (za t (za K (za hgn (za s (za Y (za M Q))))))))
   replace ah:=zh ah
   replace aD:=zh aD
   have bu:=zh aE
   clear y z f t K hgn s Y M H r Q aE D
   go_wp2_with fail
   obtain⟨y,z,f,t,K,hgn,s,Y,M,Q⟩:=Z.out
   refine(jE _ _ _ _ C.length bI bq C wc (f.newW s) Y (fun b hb=>⟨by have:=f.lt;omega,fun e=>by have:=jJ f s b e.symm;omega⟩) M bd zo).mono ?_
   rintro e N⟨rfl,aF,ai⟩
   have U:=zh<|(y.new s).trans ((f.newW s).low ai)
   have aL:=zh<|(z.trans (kK.Qe s f.lt)).trans ai
   have aG:=zh aF
   clear y z f t K hgn s Y M Q aF ai aK cm
   have y7:N.cell? ⟨q.β id,7,none⟩=some (.map (some (q.γ id))):=by rw[<- bu.out,X.out];exact O.out N U.out 7 _ R.2
   have am:(Instr.lookup 212 (.map (some (q.γ id))) (.string (dR C)) false).run prog N=.ok (.int .i64 kk) N:=by
    have:=((ao.out N U.out Z.2.2.2.2.2.2.2.2.2).look underlying212 (qt N) (k:=C) bd).2
    rw[Z.2.2.2.2.2.1,Option.elim_some] at this
    exact this
   go_wp2_with fail
   refine(iT _ _ _ kk N aG.out (by have:=eC C;rw[zL];omega)).mono ?_
   rintro e bW⟨rfl,aH,aj⟩
   have HF:=J3 (U.trans (aG.low aj)) (aL.trans aj) aH
   clear aH aj am y7
   go_wp2
   go_roundw
   case rel =>
    obtain⟨f1,f2,f3⟩:=HF.out
    refine⟨m+1,by go_num,J,f1,f2,?_⟩
    have e1:(a.names.take (m+1))=a.names.take m++[(C,kk)]:=by rw[List.take_succ_eq_append_getElem J,Z.2.2.2.2.1]
    rw[e1,List.map_append,List.flatten_append]
    rw[Z.2.2.2.1] at f3
    simpa[fP] using f3
   simp[intOf];omega
  have bH:¬(m:Int)<(a.names.length:Int):=zo
  have aa:a.names.take m=a.names:=List.take_of_length_le zo
  rw[aa] at f
  have HF:=J3 y z f
  clear y z f aa
  go_wp2
  go_roundw
  case rel =>
   obtain⟨f1,f2,f3⟩:=HF.out
   refine⟨n+1,by go_num,hlt,f1,aJ.trans f2,?_⟩
   have e1:(T.take (n+1))=T.take n++[(id,a)]:=by rw[List.take_succ_eq_append_getElem hlt,d.2.2.2.2.1]
   rw[e1,List.map_append,List.flatten_append]
   rw[D,d.2.2.2.1] at f3
   simpa[iC] using f3
  simp[intOf];omega
 skip
 have bB:¬(n:Int)<(T.length:Int):=zo
 have aa:T.take n=T:=List.take_of_length_le zo
 rw[aa] at B
 have HW:Hid (Wr wr w.heap.size p (e_ T)):=zh B
 have be:=zh j
 clear B j ak aa
 go_wp2_with fail
 refine(iI _ _ _ wr HW.out zo).mono ?_
 rintro e w9⟨⟨A',c',rfl,ho⟩,P⟩
 have HF:=J2 ho P
 clear ho P
 generalize hL:(e_ T).length=L at *
 go_wp2
 go_ret
 obtain⟨ho,P⟩:=HF.out
 subst hL
 exact⟨⟨A',c',rfl,ownsRow_base_a ho be.size⟩,(be.new P).Qi fun b hb=>hb⟩
end
structure uB where
 id:Int
 hash:List UInt8
 T:dX
structure j_ where
 list:List uB
 next:Int
 last:List UInt8
def lo:j_:=⟨[],1,[]⟩
structure CK where
 A:Option Addr
 ca:Nat
 bt:Nat
 q:fx
structure qq where
 A:Option Addr
 ca:Nat
 L:Option Addr
 cl:Nat
 β:Nat->CK
structure uC (w:World) (c:Col) (vs:List Value) (i:Nat) (β:CK) (s:uB):Prop where
 id:vs[i]?=some (.int .i64 s.id)
 hash:vs[i+1]?=some (.slice β.A s.hash.length β.ca)
 tree:vs[i+2]?=some (.pointer (some ⟨β.bt,0,none⟩))
 cap:s.hash.length<=β.ca/\β.ca<=9223372036854775807
 bytes:Bs w (fun b=>c b=0) β.A s.hash.length s.hash
 at_:ea w c 0 β.bt β.q s.T
structure iY (w:World) (c:Col) (i:Nat) (bs:Nat) (Q:qq) (ns:j_):Prop where
 snaps:w.heap[bs]?=some (.cells #[.slice Q.A ns.list.length Q.ca,.int .i64 ns.next,.slice Q.L ns.last.length Q.cl] 174 (0,0))
 col:c bs=i/\∀g,blk Q.A=some g->c g=i/\g≠bs
 last:ns.last.length<=Q.cl/\Q.cl<=9223372036854775807/\Bs w (fun b=>c b=0) Q.L ns.last.length ns.last
 row:∃vs,Own w 0 172 3 Q.A ns.list.length Q.ca vs/\∀k (h:k<ns.list.length),uC w c vs (k*3) (Q.β k) ns.list[k]
section
variable {w w':World}{c c':Col}{i bs:Nat}{Q:qq}{ns:j_}{F:Nat->Prop}{vs:List Value}{k:Nat}{β:CK}{s:uB}
theorem jR{A:Option Addr}{b:List UInt8}(h:Bs w (fun b=>c b=0) A n b)(hk:b_ F w w')(hx:Ext w c c')(h0:∀b,b<w.heap.size->c b=0->F b):Bs w' (fun b=>c' b=0) A n b :=
 (((h.imp (E:=fun b=>c b=0/\c' b=0) fun b hb hd=>⟨hd,(hx b hb).trans hd⟩).keep hk (fun b hb hd=>h0 b hb hd.1)).imp fun _b _ hd=>hd.2)
theorem uC.keep(h:uC w c vs k β s)(hk:b_ F w w')(hx:Ext w c c')(h0:∀b,b<w.heap.size->c b=0->F b):uC w' c' vs k β s :=
 ⟨h.id,h.hash,h.tree,h.cap,jR h.bytes hk hx h0,h.at_.keep hk hx fun b hb hc=>h0 b hb (hc.elim (fun x=>x) fun x=>x)⟩
theorem iY.lt(h:iY w c i bs Q ns):bs<w.heap.size:=(Array.getElem?_eq_some_iff.1 h.snaps).1
theorem iY.keep(h:iY w c i bs Q ns)(hk:b_ F w w')(hx:Ext w c c')(hF:∀b,b<w.heap.size->c b=i\/c b=0->F b):iY w' c' i bs Q ns:=by
 obtain⟨d,h1,h2⟩:=h.row
 exact⟨(hk.block bs h.lt (hF _ h.lt (.inl h.col.1))).trans h.snaps,⟨(hx _ h.lt).trans h.col.1,fun g hg=>⟨(hx _ (eW h1 g hg).2).trans (h.col.2 g hg).1,(h.col.2 g hg).2⟩⟩,
  ⟨h.last.1,h.last.2.1,jR h.last.2.2 hk hx fun b hb hc=>hF b hb (.inr hc)⟩,
  d,eP h1 hk (fun g hg=>hF g (eW h1 g hg).2 (.inl (h.col.2 g hg).1)),fun k a=>(h2 k a).keep hk hx fun b hb hc=>hF b hb (.inr hc)⟩
theorem iY.new(h:iY w c i bs Q ns)(hk:New w w'):iY w' c i bs Q ns:=h.keep hk (Ext.refl _ _) fun _ _ _=>trivial
theorem iY.at3(h:iY w c i bs Q ns)(hk:k<ns.list.length):∃g,Q.A=some ⟨g,0,none⟩/\g<w.heap.size/\w.cell? ⟨g,k*3,none⟩=some (.int .i64 ns.list[k].id)/\w.cell? ⟨g,k*3+1,none⟩=some (.slice (Q.β k).A ns.list[k].hash.length (Q.β k).ca)/\w.cell? ⟨g,k*3+2,none⟩=some (.pointer (some ⟨(Q.β k).bt,0,none⟩)) /\
  ns.list[k].hash.length<=(Q.β k).ca/\(Q.β k).ca<=9223372036854775807/\Bs w (fun b=>c b=0) (Q.β k).A ns.list[k].hash.length ns.list[k].hash/\ea w c 0 (Q.β k).bt (Q.β k).q ns.list[k].T:=by
 obtain⟨a,h1,h2⟩:=h.row
 have hs:=h2 k hk
 obtain⟨g,f,d,hb,hlt⟩:=h1.form zo
 have hA:Q.A=some ⟨g,0,none⟩:=by injection d
 have hc:∀j u,a[j]?=some u->w.cell? ⟨g,j,none⟩=some u:=fun j u e=>by
  have:=h1.cells (g:=g) (by rw[hA];rfl) j u e
  simpa[Addr.add_lit] using this
 exact⟨g,hA,hlt,hc _ _ hs.id,hc _ _ hs.hash,hc _ _ hs.tree,hs.cap.1,hs.cap.2,hs.bytes,hs.at_⟩
theorem EN(c:Col)(i:Nat)(w:World):
  Calls prog 168 #[] w fun e w'=>∃(bs:Nat) (Q:qq) (c':Col),e=.returned (.pointer (some ⟨bs,0,none⟩))/\New w w'/\w.heap.size<=bs/\Ext w c c'/\iY w' c' i bs Q lo:=by
 go_in
 go_wp2
 go_ret
 refine⟨w.heap.size,⟨none,0,none,0,fun _=>⟨none,0,0,⟨0,fun _=>0,fun _=>0⟩⟩⟩,c.on w.heap.size fun _=>i,rfl,(zN w).alloc _,zr,c.Qg w _,heap_alloc_new w _,⟨c.Qf _ zr,fun g hg=>by cases hg⟩,⟨zr,Zd,Row.nil _ _ _ _⟩,[],Own.nil _ _ _ _,fun k hk=>absurd hk (Nat.not_lt_zero k)⟩
end
def jx(s:uB):List UInt8:=beI 8 s.id++dU s.hash++beI 8 (e_ s.T).length++e_ s.T
def fS(ns:j_):List UInt8:=beI 8 ns.next++dU ns.last++beI 1 ns.list.length++(ns.list.map jx).flatten
structure xf (ns:j_):Prop where
 few:ns.list.length<=8
 tree:∀s∈ns.list,rN s.T/\(e_ s.T).length<=100000000000
theorem qy{s:uB}(h:(e_ s.T).length<=100000000000):(jx s).length<=100000100000:=by
 unfold jx
 have:=eC s.hash
 rw[zL,zL,zL,dL,dL]
 omega
theorem mR{ns:j_}(h:xf ns):(fS ns).length<=800001000000:=by
 unfold fS
 have h1:=iG jx 100000100000 ns.list fun s hs=>qy (h.tree s hs).2
 have h2:=eC ns.last
 rw[zL,zL,zL,dL,dL]
 have:ns.list.length*100000100000<=8*100000100000:=Nat.mul_le_mul_right _ h.few
 omega
section
variable {w:World}{c:Col}{i bs:Nat}{Q:qq}{ns:j_}
theorem kK.cell_ne{p:Nat}(h:kK w0 w' p)(hn:g≠p/\some g≠lc w0 p)(hc:w0.cell? ⟨g,k,none⟩=some u):w'.cell? ⟨g,k,none⟩=some u:=h.keep.Qb hc hn
theorem C8(h:iY w c i bs Q ns)(hN:xf ns):
  Calls prog 67 #[.pointer (some ⟨bs,0,none⟩)] w fun e w'=>(∃A' c',e=.returned (.slice A' (fS ns).length c')/\fy w' w.heap.size 5 A' (fS ns).length c' (fS ns))/\New w w':=by
 have G:=zh h
 have HO:=zh hN
 have aC:=hN.few
 have aE:=mR hN
 have hlt:=h.lt
 have c0:w.cell? ⟨bs,0,none⟩=some (.slice Q.A ns.list.length Q.ca):=a_ h.snaps (k:=0) rfl
 have c1:w.cell? ⟨bs,1,none⟩=some (.int .i64 ns.next):=a_ h.snaps (k:=1) rfl
 have c2:w.cell? ⟨bs,2,none⟩=some (.slice Q.L ns.last.length Q.cl):=a_ h.snaps (k:=2) rfl
 have Y:=J3 c0 c1 c2
 have hr:=iU ns.next
 have HE:=zh<|lu 8 ns.next Zd
 clear h hN c0 c1 c2
 go_in
 go_wp2_with fail
 refine(gV w).mono ?_
 rintro e w1⟨⟨p,rfl,aa⟩,k1⟩
 have y1:=k1.Qb Y.2.1 trivial
 have m:=zh<|b_.Qe (D:=fun b=>b<w.heap.size) k1
 have q:=zh aa
 clear aa k1
 go_wp2_with fail
 refine(jw _ _ _ (IntKind.u64.wrap ns.next) w1 q.out hr.1 hr.2 Zd).mono ?_
 rintro e w2⟨rfl,a,hk⟩
 rw[HE.out] at a
 replace m:=zh<|m.trans hk
 replace q:=zh a
 clear a hk y1
 have y2:=m.Qb Y.2.2 hlt
 go_wp2_with fail
 refine(sW _ _ (fun b=>b<w.heap.size) Q.L ns.last.length Q.cl _ ns.last w2 q.out ((G.last.2.2.imp (E:=fun b=>b<w.heap.size) fun b hb _=>hb).keep m.out fun b hb _=>by assumption) (fun b hb=>hb) G.last.1 (Nat.le_trans G.last.1 G.last.2.1) (by simp[dL])).mono ?_
 rintro e w3⟨rfl,a,hk⟩
 replace m:=zh<|m.trans hk
 replace q:=zh a
 clear a hk y2
 have y0:=m.Qb Y.1 hlt
 go_wp2_with fail
 refine(mg _ _ _ (ns.list.length:Int) w3 q.out (by have:=eC ns.last;simp[dL];omega)).mono ?_
 rintro e w4⟨rfl,a,hk⟩
 replace m:=zh<|m.trans hk
 replace q:=zh a
 clear a hk y0
 have y0:=m.Qb Y.1 hlt
 obtain⟨u,l⟩:=zx ([]++beI 8 ns.next++dU ns.last++beI 1 ns.list.length)
 have aF:u.length<=70000:=by rw[l];have:=eC ns.last;simp[dL];omega
 have an:=zh l
 rw[<- l] at q
 clear l
 go_wp2_with fail
 clear y0
 go_loopw [33] (fun H wx=>∃n:Nat,H=.int .i64 (n:Int)/\n<=ns.list.length/\b_ (fun b=>b<w.heap.size) w wx/\Wr wx w.heap.size p (u++((ns.list.take n).map jx).flatten)) (fun H _=>ns.list.length-(intOf H).toNat)
 case atStart=>exact⟨0,rfl,Nat.zero_le _,m.out,by simpa using q.out⟩
 obtain⟨n,rfl,aG,f,a⟩:=hrel
 by_cases v:n<ns.list.length
 ·skip
  have ao:(n:Int)<(ns.list.length:Int):=zo
  obtain⟨s,hs⟩:=zx (ns.list[n])
  obtain⟨g,hA,I,z0,z1,z2,x,C,y,z⟩:=G.at3 v
  have r:=HO.tree ns.list[n] (List.getElem_mem v)
  rw[<- hs] at z0 z1 x y z r
  have J:(u++((ns.list.take n).map jx).flatten).length<=800001000000:=by
   have h1:=iG jx 100000100000 (ns.list.take n) fun s hs=>qy (HO.tree s (List.mem_of_mem_take hs)).2
   rw[zL]
   have:(ns.list.take n).length*100000100000<=8*100000100000:=Nat.mul_le_mul_right _ (by rw[List.length_take];omega)
   omega
  obtain⟨K,o⟩:=zx (u++((ns.list.take n).map jx).flatten)
  rw[<- o] at a J
  have q0:=f.Qb z0 I
  have q1:=f.Qb z1 I
  have q2:=f.Qb z2 I
  have ap:Q.A=some ⟨g,0,none⟩:=hA
  have d:=J9 f a o hs y z r x C
  rw[hA]
  obtain⟨bq,M⟩:=zx ((Q.β n).bt)
  obtain⟨Z,N⟩:=zx ((Q.β n).A)
  obtain⟨cq,O⟩:=zx ((Q.β n).ca)
  rw[<- N,<- O] at q1
  rw[<- M] at q2
  have HQ:=J3 M N O
  clear f a o hs y z r x C z0 z1 z2 hA ap M N O
  go_upto_region 8 with fail
  have kA:=(zN wr).alloc (.cells #[.int .i64 s.id,.slice Z s.hash.length cq,.pointer (some ⟨bq,0,none⟩)] 172)
  have xA:=heap_alloc_new wr (.cells #[.int .i64 s.id,.slice Z s.hash.length cq,.pointer (some ⟨bq,0,none⟩)] 172)
  generalize wr.alloc (.cells #[.int .i64 s.id,.slice Z s.hash.length cq,.pointer (some ⟨bq,0,none⟩)] 172)=w5 at *
  obtain⟨gs,P⟩:=zx (wr.heap.size)
  rw[<- P] at xA ⊢
  obtain⟨s0,s1,s2⟩:=cs3 xA
  have HS:=J2 s0 s1
  have t:=zh kA
  have ab:=zh P
  clear kA xA q0 q1 q2 s0 s1 P
  have R:=zh<|rk (((d.2.2.2.2.2.1).keep (b_.new d.1 t.out) (Ext.refl _ _) fun b hb _=>hb)) d.2.2.2.2.2.2.1.1
  rw[<- HQ.1] at R
  go_wp2_with fail
  refine R.mono ?_
  rintro e w6⟨⟨At,ct,rfl,ot⟩,B⟩
  obtain⟨f,a,o,hs,y,z,r,x,C⟩:=d.out
  have ac:Hid (gs≠p/\some gs≠lc w6 p):=zh ⟨by have:=a.lt;have:=ab.out;omega,fun e=>by have:=jJ a (t.new B) gs e.symm;have:=ab.out;omega⟩
  have ad:=B.Qb HS.1 trivial
  have ar:=J2 ad (B.Qb HS.2 zt)
  have au:=zh<|(f.new t.out).new B
  have ae:=zh<|(a.newW t.out).newW B
  have S:=zh ot
  have av:=zh B
  have U:=zh r.2
  have aH:K.length<=800001000000:=J
  have af:=iU s.id
  have aw:=zh<|lu 8 s.id Zd
  obtain⟨tb,V⟩:=zx (e_ s.T)
  rw[<- V] at S U ⊢
  obtain⟨tn,W⟩:=zx (tb.length)
  rw[<- W] at S U ⊢
  have ag:=J2 V W
  clear f a o hs y z r x C ot B s2 HS R V W
  go_wp2_with fail
  refine(pS _ _ _ (IntKind.u64.wrap s.id) w6 ae.out af.1 af.2 zo).mono ?_
  rintro e w7⟨rfl,a,j⟩
  rw[aw.out] at a
  have ah:=zh<|au.trans (ae.low j)
  have ax:=zh j
  have F:=zh a
  have s1:=j.cell_ne ac.out ar.2
  clear a j ad
  go_wp2_with fail
  refine(jE _ _ (fun b=>b<w.heap.size) Z s.hash.length cq _ s.hash w7 F.out (by rw[HQ.2.1];exact((d.2.2.2.2.1).imp (E:=fun b=>b<w.heap.size) fun b hb _=>hb).keep ah.out fun b hb _=>by assumption) (fun b hb=>⟨by have:=F.hp;omega,fun e=>by have:=(F.rowLt b e.symm).1;omega⟩) (by rw[HQ.2.2];exact d.2.2.2.2.2.2.2.1) (by have:=d.2.2.2.2.2.2.2;omega) (by rw[zL,dL];omega)).mono ?_
  rintro e w8⟨rfl,a,j⟩
  have ay:=zh<|ah.trans (F.low j)
  have az:=zh<|ax.trans j
  have ai:=zh a
  clear a j s1
  go_wp2_with fail
  have aI:=eC s.hash
  have aJ:(K++beI 8 s.id++dU s.hash).length<=K.length+70000:=by rw[zL,zL,dL];omega
  have aD:=U.out
  have X:=iU (tn:Int)
  refine(pS _ _ _ (IntKind.u64.wrap (tn:Int)) w8 ai.out X.1 X.2 zo).mono ?_
  rintro e w9⟨rfl,a,j⟩
  rw[lu 8 (tn:Int) Zd] at a
  have aA:=zh<|ay.trans (ai.low j)
  have aB:=zh<|az.trans j
  have aj:=zh a
  clear a j
  have ak:=((Row.Qc S.out).imp (E:=fun b=>b≠p/\some b≠lc w6 p) fun b hb hd=>⟨by have:=ac.1;have:=d.2.1.lt;have:=t.size;omega,fun e=>by have:=jJ (d.2.1.newW t.out) av.out b e.symm;omega⟩)
  go_wp2_with fail
  refine(tC _ _ _ At tn ct _ tb w9 aj.out (ak.keep aB.keep fun b _ hb=>hb) (by rw[zL,dL];omega)).mono ?_
  rintro e aK⟨rfl,a,j⟩
  have HF:=J2 (aA.trans (aj.low j)) a
  clear a j ak
  go_wp2
  go_roundw
  case rel =>
   obtain⟨f1,f2⟩:=HF.out
   refine⟨n+1,by go_num,v,f1,?_⟩
   have e1:(ns.list.take (n+1))=ns.list.take n++[s]:=by rw[List.take_succ_eq_append_getElem v,d.2.2.2.1]
   rw[e1,List.map_append,List.flatten_append]
   rw[d.2.2.1,ag.2,ag.1] at f2
   simpa[jx] using f2
  simp[intOf];omega
 skip
 have ao:¬(n:Int)<(ns.list.length:Int):=zo
 have al:ns.list.take n=ns.list:=List.take_of_length_le zo
 rw[al,an.out,List.nil_append] at a
 have q:Hid (Wr wr w.heap.size p (fS ns)):=zh a
 have am:=zh f
 clear a f al
 go_wp2_with fail
 refine(iI _ _ _ wr q.out zo).mono ?_
 rintro e w9⟨⟨A',c',rfl,ho⟩,k9⟩
 have HF:=J2 ho k9
 clear ho k9
 generalize hL:(fS ns).length=L at *
 go_wp2
 go_ret
 obtain⟨ho,k9⟩:=HF.out
 subst hL
 exact⟨⟨A',c',rfl,ownsRow_base_a ho am.size⟩,(am.new k9).Qi fun b hb=>hb⟩
end
structure FdP where
 writing:Bool
 id:Int
 b:List UInt8
structure d' where
 T:dX
 S:j_
 now:Int
 fd:Nat->Option FdP
def dV:d':=⟨[(0,eD 2)],lo,0,fun _=>none⟩
structure iu where
 bt:Nat
 q:fx
 bs:Nat
 Q:qq
 fd:Nat->Option Nat
def iu.ptr(B:iu)(k:Nat):Value:=.pointer ((B.fd k).map fun b=>⟨b,0,none⟩)
def xi(w:World)(c:Col):Option Nat->Option FdP->Prop
 | none,none=>True
 | some b,some f=>c b=0/\∃A cp,w.heap[b]?=some (.cells #[.bool f.writing,.int .i64 f.id,.slice A f.b.length cp] 207 (0,0))/\f.b.length<=cp/\cp<=9223372036854775807/\Bs w (fun b=>c b=0) A f.b.length f.b
 | _,_=>False
def kG(B:iu)(now:Int):Array Value:=#[.pointer (some ⟨B.bt,0,none⟩),.pointer (some ⟨B.bs,0,none⟩),.int .u64 now,B.ptr 0,B.ptr 1,B.ptr 2,B.ptr 3,B.ptr 4,B.ptr 5,B.ptr 6,B.ptr 7]
structure fe where
 t:Nat
 s:Nat
 o:Nat
structure fe.Ok (i:fe):Prop where
 nz:i.t≠0/\i.s≠0/\i.o≠0
 ne:i.t≠i.s/\i.t≠i.o/\i.s≠i.o
def fe.has(i:fe)(k:Nat):Prop:=k=i.t\/k=i.s\/k=i.o
structure ei (w:World) (c:Col) (i:fe) (b:Nat) (B:iu) (s:d'):Prop where
 state:w.heap[b]?=some (.cells (kG B s.now) 89 (0,0))
 col:c b=i.o
 tree:ea w c i.t B.bt B.q s.T
 snaps:iY w c i.s B.bs B.Q s.S
 fd:∀k,k<8->xi w c (B.fd k) (s.fd k)
 ok:i.Ok
section
variable {w w':World}{c c':Col}{i:fe}{b:Nat}{B:iu}{s:d'}{F:Nat->Prop}
theorem xi.keep{a:Option Nat}{f:Option FdP}(h:xi w c a f)(hk:b_ F w w')(hx:Ext w c c')(h0:∀b,b<w.heap.size->c b=0->F b):xi w' c' a f:=by
 cases a with
 | none=>cases f with|none=>trivial|some _=>exact h.elim
 | some b=>cases f with
  | none=>exact h.elim
  | some f =>
   obtain⟨h1,A,d,h2,h3,e,h5⟩:=h
   have hl:=(Zl h2)
   exact⟨(hx b hl).trans h1,A,d,(hk.block b hl (h0 b hl h1)).trans h2,h3,e,jR h5 hk hx h0⟩
theorem ei.lt(h:ei w c i b B s):b<w.heap.size:=(Array.getElem?_eq_some_iff.1 h.state).1
theorem ei.keep(h:ei w c i b B s)(hk:b_ F w w')(hx:Ext w c c')(hF:∀b,b<w.heap.size->i.has (c b)\/c b=0->F b):ei w' c' i b B s :=
 ⟨(hk.block b h.lt (hF _ h.lt (.inl (.inr (.inr h.col))))).trans h.state,(hx b h.lt).trans h.col,h.tree.keep hk hx fun b hb hc=>hF b hb (hc.imp_left .inl),h.snaps.keep hk hx fun b hb hc=>hF b hb (hc.imp_left fun e=>.inr (.inl e)),fun k a=>(h.fd k a).keep hk hx fun b hb hc=>hF b hb (.inr hc),h.ok⟩
theorem ei.new(h:ei w c i b B s)(hk:New w w'):ei w' c i b B s:=h.keep hk (Ext.refl _ _) fun _ _ _=>trivial
def zO(w:World)(c:Col)(i:fe)(s:d')(e:Ending)(w':World):Prop:=∃(b:Nat) (B:iu) (c':Col),e=.returned (.pointer (some ⟨b,0,none⟩))/\New w w'/\w.heap.size<=b/\Ext w c c'/\ei w' c' i b B s
theorem C3(c:Col)(i:fe)(hi:i.Ok)(w:World):Calls prog 78 #[] w (zO w c i dV):=by
 have r:=zh<|EH c i.t hi.nz.1 w
 go_in
 go_wp2_with fail
 refine r.mono ?_
 rintro e u⟨l,q,c1,rfl,a,m,g,h⟩
 have v:=J4 a m g h
 clear a m g h r
 go_wp2_with fail
 refine(EN c1 i.s u).mono ?_
 rintro e d⟨bs,Q,c2,rfl,b,n,f,j⟩
 have x:=J4 b n f j
 clear b n f j
 go_wp2
 go_ret
 obtain⟨a,m,g,h⟩:=v.out
 obtain⟨b,n,f,j⟩:=x.out
 have p:=(zN d).alloc (.cells (kG ⟨l,q,bs,Q,fun _=>none⟩ 0) 89)
 have y:=heap_alloc_new d (.cells (kG ⟨l,q,bs,Q,fun _=>none⟩ 0) 89)
 have e3:=c2.Qg d fun _=>i.o
 refine⟨d.heap.size,⟨l,q,bs,Q,fun _=>none⟩,c2.on d.heap.size fun _=>i.o,rfl,(a.new b).new p,Nat.le_trans a.size b.size,(g.trans f a.size).trans e3 (Nat.le_trans a.size b.size),y,c2.Qf _ zr,(h.keep b f fun _ _ _=>zt).keep p e3 fun _ _ _=>zt,j.keep p e3 fun _ _ _=>zt,fun k _=>zt,hi⟩
end
def fQ(s:d'):List UInt8:=beI 8 s.now++beI 8 (e_ (fT s.T)).length++e_ (fT s.T)++fS s.S
structure rd (s:d'):Prop where
 now:0<=s.now/\s.now<=18446744073709551615
 few:s.T.length<=100000
 key:∀p∈s.T,-9223372036854775808<=p.1/\p.1<=9223372036854775807
 tree:rN (fT s.T)
 size:(e_ (fT s.T)).length<=100000000000
 snaps:xf s.S
theorem z'{s:d'}(h:rd s):(fQ s).length<=900002000000:=by
 unfold fQ
 have:=mR h.snaps
 have:=h.size
 rw[zL,zL,zL,dL,dL]
 omega
section
variable {w:World}{c:Col}{i:fe}{b:Nat}{B:iu}{s:d'}
theorem pU(h:ei w c i b B s)(hS:rd s):
  Calls prog 14 #[.pointer (some ⟨b,0,none⟩)] w fun e w'=>(∃A' c',e=.returned (.slice A' (fQ s).length c')/\fy w' w.heap.size 5 A' (fQ s).length c' (fQ s))/\New w w':=by
 have HS:=zh h
 have N:=zh hS
 have hlt:=h.lt
 have c0:w.cell? ⟨b,0,none⟩=some (.pointer (some ⟨B.bt,0,none⟩)):=a_ h.state (k:=0) rfl
 have c1:w.cell? ⟨b,1,none⟩=some (.pointer (some ⟨B.bs,0,none⟩)):=a_ h.state (k:=1) rfl
 have c2:w.cell? ⟨b,2,none⟩=some (.int .u64 s.now):=a_ h.state (k:=2) rfl
 have O:=J2 c1 c2
 have z:=zh<|m7 h.tree hS.few hS.key 0
 obtain⟨G,j⟩:=zx (e_ (fT s.T))
 obtain⟨x,l⟩:=zx (G.length)
 have ad:x<=100000000000:=by rw[l,j];exact hS.size
 have A:=mR hS.snaps
 obtain⟨H,m⟩:=zx (fS s.S)
 obtain⟨P,n⟩:=zx (H.length)
 have ac:P<=800001000000:=by rw[n,m];exact A
 have Q:Hid (fQ s=[]++beI 8 s.now++beI 8 x++G++H):=zh (by rw[m,l,j];unfold fQ;simp)
 have I:Hid ((fQ s).length<=1000000000000):=zh (by have:=z' hS;omega)
 have o:=J2 j l
 have C:=J2 m n
 have q:=hS.now
 obtain⟨L,J⟩:=zx ((fQ s).length)
 have HL:=zh J
 rw[<- J]
 clear h hS c1 c2 j l m n A J
 go_in
 go_wp2_with fail
 refine z.mono ?_
 rintro e w1⟨ae,q',c',rfl,R,z1,x1,U⟩
 have r:=zh<|rk U N.tree
 rw[<- o.1,<- o.2] at r
 have V:=zh R
 clear R z1 x1 U c0 z
 go_wp2_with fail
 refine r.mono ?_
 rintro e t⟨⟨At,ct,rfl,W⟩,X⟩
 have g:=zh<|V.new X
 have Y:=zh W
 clear W X r
 go_wp2_with fail
 refine(gV t).mono ?_
 rintro e w3⟨⟨p,rfl,F⟩,K⟩
 have a:=zh<|b_.Qe (D:=fun b=>b<t.heap.size) K
 have f:=zh F
 have hz:b<t.heap.size:=Nat.lt_of_lt_of_le hlt g.size
 have y2:=(g.new K).Qb O.2 trivial
 clear F K
 go_wp2_with fail
 refine(jw _ _ _ s.now w3 f.out q.1 q.2 Zd).mono ?_
 rintro e w4⟨rfl,d,hk⟩
 replace a:=zh<|a.trans hk
 replace f:=zh d
 clear d hk y2
 go_wp2_with fail
 refine(jw _ _ _ (x:Int) w4 f.out zo zo (by simp[dL])).mono ?_
 rintro e w5⟨rfl,d,hk⟩
 replace a:=zh<|a.trans hk
 replace f:=zh d
 clear d hk
 go_wp2_with fail
 refine(iy _ _ (fun b=>b<t.heap.size) At x ct _ G w5 f.out (((Row.Qc Y.out).imp (E:=fun b=>b<t.heap.size) fun b hb _=>hb).keep a.out fun b hb _=>by assumption) (by rw[zL,zL,dL,dL];simp;omega)).mono ?_
 rintro e w6⟨rfl,d,hk⟩
 replace a:=zh<|a.trans hk
 replace f:=zh d
 clear d hk
 have y1:w6.cell? ⟨b,1,none⟩=some (.pointer (some ⟨B.bs,0,none⟩)):=a.Qb (g.Qb O.1 zt) hz
 have u:=zh<|C8 ((HS.snaps.new g.out).keep a.out (Ext.refl _ _) fun b hb _=>hb) N.snaps
 rw[<- C.1,<- C.2] at u
 go_wp2_with fail
 refine u.mono ?_
 rintro e w7⟨⟨As,cs,rfl,Z⟩,M⟩
 replace a:=zh<|a.new M
 replace f:=zh<|f.keep M fun _ _=>zt
 have aa:=zh Z
 clear Z M u y1
 go_wp2_with fail
 refine(iy _ _ _ As P cs _ H w7 f.out (Row.Qc aa.out) (by rw[zL,zL,zL,dL,dL,<- o.2];simp;omega)).mono ?_
 rintro e w8⟨rfl,d,hk⟩
 replace a:=zh<|a.trans hk
 rw[<- Q.out] at d
 replace f:=zh d
 clear d hk
 go_wp2_with fail
 refine(iI _ _ _ w8 f.out (by have:=I.out;omega)).mono ?_
 rintro e w9⟨⟨A',ab,rfl,v⟩,y⟩
 rw[<- HL.out] at v ⊢
 have HF:=J2 v y
 clear v y
 go_wp2
 go_ret
 obtain⟨v,y⟩:=HF.out
 exact⟨⟨A',ab,rfl,ownsRow_base_a v (by have:=a.size;have:=g.size;omega)⟩,g.new ((a.new y).Qi fun b hb=>hb)⟩
end
theorem ko:fT dV.T=dV.T:=rfl
theorem lO:rd dV where
 now:=by decide
 few:=by decide
 key:=by intro p a;simp[dV] at a;subst a;decide
 tree:=by
  rw[ko]
  refine⟨Zd,fun p a=>?_,fun p a=>?_,fun p a=>?_⟩ <;> simp[dV] at a <;> subst a
  ·exact⟨Zd,Zd,Zd,.inr ⟨rfl,rfl,rfl,rfl⟩⟩
  ·decide
  intro x b;simp[eD] at b
 size:=by decide
 snaps:=⟨Zd,fun s hs=>by simp[dV,lo] at hs⟩
