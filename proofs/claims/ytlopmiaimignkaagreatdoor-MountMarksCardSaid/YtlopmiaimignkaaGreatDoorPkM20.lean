/-
  PROVED HERE: parts of a law's walk, each under the conditions that its statement names.
-/
import Derived.IntWalk
import Derived.Test.YtlopmiaimignkaaGreatDoorPkM08
import Derived.Test.YtlopmiaimignkaaGreatDoorPkM19
set_option maxRecDepth 100000
namespace Go.Proofs.YtlopmiaimignkaaGreatDoor
open Go.Proofs.Tryz
open Go.RowKit
open Go.Maps (Keyed)
variable{w:World}{D:Nat->Prop}
section
variable {w:World}{D:Nat->Prop}{q:g9}{S:List UInt8}{M:gM}{n:Nat}{wr:Int}{k:Nat}
theorem mF(h:fj w D q S M n wr)(hk:S.length=k*128):
  Calls prog 73 #[.pointer (some ⟨q.bd,0,none⟩)] w fun e w'=>e=.returned (.int .i64 k)/\w=w':=by
 have a:w.cell? ⟨q.bd,0,none⟩=some (.slice (some ⟨q.bs,0,none⟩) S.length S.length):=by rw[cell_of_row _ _ _ _ _ (0,0) h.disk];rfl
 rw[hk] at a
 obtain⟨c,e,h1,h2⟩:=h.size
 have d:((k:Int)*128).tdiv 128=k:=by rw[Int.tdiv_eq_ediv_of_nonneg zo];omega
 have b:k<=4096:=by omega
 clear h hk
 go_in
 go_wp2
 go_ret
 exact⟨rfl,rfl⟩
theorem FJ(h:fj w D q S M n wr)(hk:S.length=k*128)(i:Int):
  Calls prog 210 #[.pointer (some ⟨q.bd,0,none⟩),.int .i64 i] w fun e w'=>e=.returned (.bool (decide (0<=i/\i<k)))/\w=w':=by
 have b:=zh<|mF h hk
 clear h hk
 by_cases h0:0<=i
 ·have a:decide (0<=i/\i<(k:Int))=decide (i<(k:Int)):=by simp[h0]
  rw[a]
  clear a
  have c:decide (0<=i)=true:=decide_eq_true h0
  go_in
  go_wp2_with fail
  refine b.mono ?_
  rintro e w'⟨rfl,rfl⟩
  go_wp2
  go_ret
  exact⟨rfl,rfl⟩
 have a:decide (0<=i/\i<(k:Int))=false:=by simp[h0]
 rw[a]
 clear a
 have c:decide (0<=i)=false:=decide_eq_false h0
 go_in
 go_wp2
 go_ret
 exact⟨rfl,rfl⟩
theorem Gj{bd bs:Nat}(c0:w.cell? ⟨bd,0,none⟩=some (.slice (some ⟨bs,0,none⟩) (k*128) (k*128)))(hk2:k<=4096)(i:Nat)(hi:i<k):
  Calls prog 169 #[.pointer (some ⟨bd,0,none⟩),.int .i64 i] w fun e w'=>e=.returned (.slice (some ⟨bs,i*128,none⟩) 128 (k*128-i*128))/\w=w':=by
 go_in
 go_wp2
 go_ret
 refine⟨?_,rfl⟩
 show Ending.returned (Value.slice (some ⟨bs,i*128,none⟩) ((i+1)*128-i*128) (k*128-i*128))=_
 rw[show(i+1)*128-i*128=128 from by omega]
theorem Iq(h:fj w D q S M n wr)(hk:S.length=k*128)(i:Nat)(hi:i<k):
  Calls prog 169 #[.pointer (some ⟨q.bd,0,none⟩),.int .i64 i] w fun e w'=>e=.returned (.slice (some ⟨q.bs,i*128,none⟩) 128 (k*128-i*128))/\w=w':=by
 have a:w.cell? ⟨q.bd,0,none⟩=some (.slice (some ⟨q.bs,0,none⟩) S.length S.length):=by rw[cell_of_row _ _ _ _ _ (0,0) h.disk];rfl
 rw[hk] at a
 obtain⟨b,e,h1,h2⟩:=h.size
 exact Gj a zo i hi
def nc(S:List UInt8)(M:gM)(i:Nat):List UInt8:=match M i with|some b=>b|none=>(S.drop (i*128)).take 128
theorem sQ(w:World):(zeroValue 22).run prog w=.ok (.slice none 0 0) w:=by kernel_rfl
theorem rK(h:fj w D q S M n wr)(hk:S.length=k*128)(i:Nat)(hi:i<k):
  Calls prog 122 #[.pointer (some ⟨q.bd,0,none⟩),.int .i64 i] w fun e w'=>(∃A' c',e=.returned (.tuple #[.slice A' 128 c',.int .i64 0])/\fy w' w.heap.size 5 A' 128 c' (nc S M i))/\New w w':=by
 have r:=zh<|FJ h hk i
 rw[decide_eq_true zo] at r
 have x:=zh<|Iq h hk i hi
 have y:=zh<|h.sector (i:=i) zo
 have c1:w.cell? ⟨q.bd,1,none⟩=some (.map (some q.bm)):=by rw[cell_of_row _ _ _ _ _ (0,0) h.disk];rfl
 obtain⟨G,e,h1,h2⟩:=h.size
 have m:(Lit.int .i64 (i:Int)).wf=true:=wfI zo zo
 obtain⟨E,d,hs⟩:=h.dirty
 have H:=h.lt
 have l:Hid (nc S M i=match M i with|some b=>b|none=>(S.drop (i*128)).take 128):=zh rfl
 generalize nc S M i=o at *
 have f:=(hs i).1
 have g:=(hs i).2
 clear h hs hk e h1 h2
 have t:=fun(A:Option Addr) (c:Nat) (D:Nat->Prop) (bs:List UInt8) (hB:Bs w D A 128 bs)=>zh (ik D A 128 c bs w hB Zd)
 rcases hm:M i with _|b
 ·have z:=f hm
  rw[hm] at l
  obtain rfl:o=_:=l.out
  clear f g hm
  go_in
  go_wp2_with fail
  refine r.mono ?_
  rintro e w'⟨rfl,rfl⟩
  go_wp2_with (at_lookup;refine wpList_lookup_own_ok _ rfl _ _ 132 rfl 3 22 qL underlying132 im (sQ _) (.held (.slice none 0 0)) [] rfl q.bm n E rfl d _ _ rfl (tY m) ?_;intro v B a)
  refine x.mono ?_
  rintro e w'⟨rfl,rfl⟩
  go_wp2_with fail
  refine(t _ _ _ _ y.out).mono ?_
  rintro e w'⟨⟨A',c',rfl,s⟩,j⟩
  go_wp2
  refine Zb (.tuple #[.slice A' 128 c',.int .i64 0]) (by simp[results,results122,go_sem]) ?_
  exact⟨⟨A',c',rfl,s⟩,j⟩
 obtain⟨z,g1,I,g3,A,c,g4,J,u,C⟩:=g b hm
 rw[hm] at l
 obtain rfl:o=_:=l.out
 have F:=u (.held (.slice none 0 0))
 clear f g hm u
 go_in
 go_wp2_with fail
 refine r.mono ?_
 rintro e w'⟨rfl,rfl⟩
 go_wp2_with (at_lookup;refine wpList_lookup_own_ok _ rfl _ _ 132 rfl 3 22 qL underlying132 im (sQ _) (.held (.slice none 0 0)) [] rfl q.bm n E rfl d _ _ rfl (tY m) ?_;intro v B a;have p:v=.slice A 128 c:=(by rw[F] at a;injection a with a;injection a with a;injection a);rw[p];clear a p)
 refine(t _ _ _ _ C).mono ?_
 rintro e w'⟨⟨A',c',rfl,s⟩,j⟩
 go_wp2
 refine Zb (.tuple #[.slice A' 128 c',.int .i64 0]) (by simp[results,results122,go_sem]) ?_
 exact⟨⟨A',c',rfl,s⟩,j⟩
theorem wi{H:Type}{P:Program}(w:World){o:Oper}{a:Act}{K:Act->World->Prop}{Q:Exit->Act->World->Prop}(m x v:Operand)(t:TypeId)(hop:o.op=Op.mapUpdate t m x v)(k e:TypeId)(Kd:Keyed P k)(ht:P.underlying t=some (.map k e))(R:Value->Option (DataW H×List MemPlace))(b n:Nat)(D:DataW H)(hm:a.eval m=.map (some b))(hown:w.ownsMap P k R b n D)(hn:n<maxLen)(key val:Value)(kl:Lit)(hx:a.eval x=key)(hv:a.eval v=val)(hkey:keyOf P k key=some kl)(d:DataW H)(ps:List MemPlace)(hval:R val=some (d,ps))(hK:∀w',w'.ownsMap P k R b (n+1) (D.put kl d)->w.grownBy w' (some b)->w'.heap.size=w.heap.size->K (a.put o.dst undef) w'):o.wp P a w K Q:=by
 obtain⟨w',c,i,f⟩:=hown.store Kd ht hn hkey hval
 unfold Oper.wp
 simp[execOp,hop,hm,hx,hv,c,Result.andThen]
 refine hK w' i f.grown ?_
 obtain⟨l,h,j,g,_,rfl⟩:=f
 simp[ChangeMaps.setBlock]
theorem uk(h:fj w D q S M n wr)(hk:S.length=k*128)(hD:∀b,w.heap.size<=b->D b)(hn:n<1000000)(i:Nat)(hi:i<k){D2:Nat->Prop}(A:Option Addr)(c:Nat)(b:List UInt8)(hB:Bs w D2 A 128 b):
  Calls prog 113 #[.pointer (some ⟨q.bd,0,none⟩),.int .i64 i,.slice A 128 c] w fun e w'=>e=.returned (.int .i64 0)/\b_ (fun b=>b≠q.bd/\b≠q.bm) w w'/\∃wr',fj w' D q S (M.put i b) (n+1) wr':=by
 have J:=zh<|FJ h hk i
 rw[decide_eq_true zo] at J
 have g:=h.ne
 have p:=h.size
 have hlt:=h.lt
 have f:=h.out
 have a:=h.disk
 have d:=h.safe
 obtain⟨E,s,hs⟩:=h.dirty
 have L:=s.isMap
 have aa:i<4096:=by obtain⟨k',e,h1,h2⟩:=p;omega
 have N:(Lit.int .i64 (i:Int)).wf=true:=wfI zo zo
 have Q:∀W,b_ (fun b=>b≠q.bm) w.drew W->W.cell? ⟨q.bd,1,none⟩=some (.map (some q.bm)):=fun W R=>by
  rw[cell_of_row _ _ _ _ _ (0,0) ((R.block q.bd (hlt _ (.inl rfl)) g.2.1).trans a)];rfl
 have T:=zh<|ik D2 A 128 c b w.drew hB Zd
 have hz:Hid (w.drew.heap.size=w.heap.size):=zh rfl
 have U:=J7 a d p hlt f g hD
 have V:=zh hs
 have X:=zh L
 have O:=zh hB.len
 clear a d p hlt f g hD hs L h hk
 go_in
 go_wp2_with fail
 refine J.mono ?_
 rintro e w'⟨rfl,rfl⟩
 go_wp2_with fail
 refine eu (b_ (fun b=>b≠q.bm) w.drew) zk ?_
 have r:b_ (fun b=>b≠q.bm) w.drew w.drew:=b_.refl _ _
 refine c_ 0 r ?_
 refine c_ 1 r ?_
 refine c_ 2 r ?_
 refine c_ 3 r ?_
 refine c_ 4 r ?_
 refine c_ 5 r ?_
 refine dQ (i:=6) zk rfl rfl (fun K v=>?_)
 go_simp
 refine T.mono ?_
 rintro e G⟨⟨A1,c1,rfl,B⟩,H⟩
 go_wp2_with fail
 have I:=b_.new r H
 refine v _ _ I ?_
 clear v K r
 try simp only[zy]
 have x:=nP (w:=w.drew) (F:=fun _=>True) s H trivial
 have P:n<maxLen:=by unfold maxLen;omega
 refine dQ (i:=7) zk rfl rfl (fun K v=>?_)
 refine wi G _ _ _ 132 rfl 3 22 qL underlying132 im q.bm n E rfl x P _ _ _ rfl rfl (tY N) _ _ rfl ?_
 intro u o y ab
 have l:=I.trans ((b_.refl (fun b=>b≠q.bm) G).grown y (fun j hj hd=>absurd (by injection hj with hj;exact hj.symm) hd))
 refine v _ _ l ?_
 clear v K I
 try simp only[Act.put,List.getElem_toArray,List.getElem_cons_succ,List.getElem_cons_zero]
 refine wpAnyH_done zk ?_ _
 obtain⟨a,d,p,hlt,f,g,hD⟩:=U.out
 have m:=(l.block q.bd (hlt _ (.inl rfl)) g.2.1).trans a
 have hs2:=(l.block q.bs (hlt _ (.inr (.inl rfl))) g.2.2).trans d
 have l:b_ (fun j=>j≠q.bm) w u:=((b_.refl _ w).drew).trans l
 have c2:u.cell? ⟨q.bd,2,none⟩=some (.int .i64 wr):=by rw[cell_of_row _ _ _ _ _ (0,0) m];rfl
 have f2:=dP m 2
 have C:Bs u D A1 128 b:=((Row.Qc B).keep (E:=fun j=>j≠q.bm) ((b_.refl (fun j=>j≠q.bm) G).grown y (fun j hj hd=>absurd (by injection hj with hj;exact hj.symm) hd)) (fun j _ hj e=>by subst e;have:=hlt _ (.inr (.inr rfl));have:=hz.out;omega)).imp fun j _ hj=>hD j (by have:=hz.out;omega)
 have t:=(V.keep l (fun j _ hj e=>f j (.inr (.inr e)) hj)).put X.out (i:=i) zo zo O.out (by have:=ew B;omega) (by have:=eh B;omega) C
 have Y:=Nat.lt_of_lt_of_le (hlt _ (.inl rfl)) l.size
 have Z:=J5 m hs2 o t l
 clear m hs2 o t l a d hlt hD C y x B H Q s
 go_wp2
 go_ret
 obtain⟨m,hs2,o,t,l⟩:=Z.out
 have z:b_ (fun j=>j≠q.bd) u (u.setCell ⟨q.bd,2,none⟩ (.int .i64 (wrap64 (wr+1)))):=(b_.refl _ u).setCell (fun hd=>absurd rfl hd) _
 refine⟨rfl,?_,wrap64 (wr+1),?_⟩
 ·exact(l.imp (E:=fun j=>j≠q.bd/\j≠q.bm) fun j _ hj=>hj.2).Qd z fun j _ hj=>hj.1
 exact⟨dM m 2 _,(z.block q.bs (Zl hs2) (Ne.symm g.1)).trans hs2,⟨_,o.setCell (Ne.symm g.2.1) _,t.keep z (fun j _ hj e=>f j (.inl e) hj)⟩,p,f⟩
end
def j9(n:Int):Int×Int×Int×Int:=if n<64\/4096<n then(0,0,0,1) else(n,n/4,(n-1-2*(n/4))/8,0)
theorem DE{n:Int}(h:n<64):j9 n=(0,0,0,1):=by unfold j9;rw[if_pos (.inl h)]
theorem DF{n:Int}(h:4096<n):j9 n=(0,0,0,1):=by unfold j9;rw[if_pos (.inr h)]
theorem lF{n:Int}(h:64<=n)(h2:n<=4096):j9 n=(n,n/4,(n-1-2*(n/4))/8,0):=by unfold j9;rw[if_neg zo]
def fg(s p g:Int):Bool:=decide (64<=s/\s<=4096/\p=s/4/\g=(s-1-2*(s/4))/8)
theorem jy{s p g:Int}:fg s p g=true↔(64<=s/\s<=4096/\p=s/4/\g=(s-1-2*(s/4))/8):=decide_eq_true_iff
theorem oL(n:Int)(hn : -9223372036854775808<=n/\n<=9223372036854775807)(w:World):
  Calls prog 74 #[.int .i64 n] w fun e w'=>e=.returned (.tuple #[.agg #[.int .i64 (j9 n).1,.int .i64 (j9 n).2.1,.int .i64 (j9 n).2.2.1],.int .i64 (j9 n).2.2.2])/\New w w':=by
 have a:=a_ (heap_alloc_new w (.cells #[.int .i64 0,.int .i64 0,.int .i64 0] 35)) (k:=0) rfl
 by_cases h1:n<64
 ·rw[DE h1]
  go_in
  go_wp2
  refine Zb (.tuple #[.agg #[.int .i64 0,.int .i64 0,.int .i64 0],.int .i64 1]) (by simp[results,results74,go_sem]) ?_
  exact⟨rfl,(zN _).alloc _⟩
 by_cases h2:4096<n
 ·rw[DF h2]
  go_in
  go_wp2
  refine Zb (.tuple #[.agg #[.int .i64 0,.int .i64 0,.int .i64 0],.int .i64 1]) (by simp[results,results74,go_sem]) ?_
  exact⟨rfl,(zN _).alloc _⟩
 rw[lF zo zo]
 have b:n.tdiv 4=n/4:=by rw[Int.tdiv_eq_ediv_of_nonneg zo]
 have c:(n-1-2*(n/4)).tdiv 8=(n-1-2*(n/4))/8:=by rw[Int.tdiv_eq_ediv_of_nonneg zo]
 go_in
 go_wp2
 refine Zb (.tuple #[.agg #[.int .i64 n,.int .i64 (n/4),.int .i64 ((n-1-2*(n/4))/8)],.int .i64 0]) (by simp[results,results74,go_sem]) ?_
 exact⟨rfl,(zN _).alloc _⟩
theorem kP(s p g:Int)(hs : -9223372036854775808<=s/\s<=9223372036854775807)(w:World):
  Calls prog 126 #[.agg #[.int .i64 s,.int .i64 p,.int .i64 g]] w fun e w'=>e=.returned (.bool (fg s p g))/\New w w':=by
 have hb:=heap_alloc_new w (.cells #[.int .i64 s,.int .i64 p,.int .i64 g] 35)
 have i:New w (w.alloc (.cells #[.int .i64 s,.int .i64 p,.int .i64 g] 35)):=(zN w).alloc _
 have a:=fun W=>zh (oL s hs W)
 by_cases h:64<=s/\s<=4096
 ·have e:j9 s=(s,s/4,(s-1-2*(s/4))/8,0):=lF h.1 h.2
  have b:fg s p g=decide (p=s/4/\g=(s-1-2*(s/4))/8):=by unfold fg;simp[h.1,h.2]
  rw[b]
  rw[e] at a
  dsimp only at a
  generalize s/4=j at *
  generalize (s-1-2*j)/8=l at *
  clear e b h
  go_in
  go_wp2_with fail
  refine(a _).mono ?_
  rintro e w'⟨rfl,c⟩
  go_upto_region 2 with fail
  have k:=c.alloc (.cells #[.int .i64 s,.int .i64 j,.int .i64 l] 35)
  have d:=k.Qa hb trivial
  have f:=heap_alloc_new w' (.cells #[.int .i64 s,.int .i64 j,.int .i64 l] 35)
  generalize w'.alloc _=n at *
  generalize w'.heap.size=o at *
  obtain⟨q,c1,c2⟩:=cs3 d
  obtain⟨r,t,u⟩:=cs3 f
  have m:=zh<|i.new k
  clear hb d f i c k a
  go_wp2_with fail
  all_goals go_ret
  all_goals refine⟨?_,m.out⟩
  all_goals simp_all
 have e:j9 s=(0,0,0,1):=by unfold j9;rw[if_pos zo]
 have b:fg s p g=false:=by unfold fg;rw[decide_eq_false];omega
 rw[b]
 rw[e] at a
 dsimp only at a
 clear e b h
 go_in
 go_wp2_with fail
 refine(a _).mono ?_
 rintro e w'⟨rfl,c⟩
 go_wp2
 go_ret
 exact⟨rfl,(i.new c).alloc _⟩
def pD(s p g i:Int):Int×Int:=if fg s p g=true/\0<=i/\i<g then(1+2*p+i*8,0) else(0,1)
theorem pC(s p g i:Int)(hs : -9223372036854775808<=s/\s<=9223372036854775807)(w:World):
  Calls prog 111 #[.agg #[.int .i64 s,.int .i64 p,.int .i64 g],.int .i64 i] w fun e w'=>e=.returned (.tuple #[.int .i64 (pD s p g i).1,.int .i64 (pD s p g i).2])/\New w w':=by
 have hb:=heap_alloc_new w (.cells #[.int .i64 s,.int .i64 p,.int .i64 g] 35)
 have d:New w (w.alloc (.cells #[.int .i64 s,.int .i64 p,.int .i64 g] 35)):=(zN w).alloc _
 have b:=fun W=>zh (kP s p g hs W)
 by_cases h:fg s p g=true
 ·rw[h] at b
  by_cases h2:0<=i/\i<g
  ·have e:pD s p g i=(1+2*p+i*8,0):=by unfold pD;rw[if_pos ⟨h,h2.1,h2.2⟩]
   have j:=jy.1 h
   have o:0<=p/\p<=1024/\g<=512:=by omega
   have k:decide (i<0)=false:=decide_eq_false zo
   have m:decide (g<=i)=false:=decide_eq_false zo
   rw[e]
   clear e h j
   go_in
   go_wp2_with fail
   refine(b _).mono ?_
   rintro e w'⟨rfl,a⟩
   have c:=a.Qa hb trivial
   obtain⟨n,c1,c2⟩:=cs3 c
   have f:=zh<|d.new a
   clear c hb a d b
   go_wp2
   refine Zb (.tuple #[.int .i64 (1+2*p+i*8),.int .i64 0]) (by simp[results,results111,go_sem]) ?_
   exact⟨rfl,f.out⟩
  have e:pD s p g i=(0,1):=by unfold pD;rw[if_neg (fun q=>h2 ⟨q.2.1,q.2.2⟩)]
  rw[e]
  by_cases h3:i<0
  ·have k:decide (i<0)=true:=decide_eq_true h3
   clear e h h2 h3
   go_in
   go_wp2_with fail
   refine(b _).mono ?_
   rintro e w'⟨rfl,a⟩
   go_wp2
   refine Zb (.tuple #[.int .i64 0,.int .i64 1]) (by simp[results,results111,go_sem]) ?_
   exact⟨rfl,d.new a⟩
  have k:decide (i<0)=false:=decide_eq_false h3
  have m:decide (g<=i)=true:=decide_eq_true zo
  clear e h h2 h3
  go_in
  go_wp2_with fail
  refine(b _).mono ?_
  rintro e w'⟨rfl,a⟩
  have c:=a.Qa hb trivial
  obtain⟨n,c1,c2⟩:=cs3 c
  have f:=zh<|d.new a
  clear c hb a d b
  go_wp2
  refine Zb (.tuple #[.int .i64 0,.int .i64 1]) (by simp[results,results111,go_sem]) ?_
  exact⟨rfl,f.out⟩
 have e:pD s p g i=(0,1):=by unfold pD;rw[if_neg (fun q=>h q.1)]
 have l:fg s p g=false:=by simpa using h
 rw[l] at b
 rw[e]
 clear e h l
 go_in
 go_wp2_with fail
 refine(b _).mono ?_
 rintro e w'⟨rfl,a⟩
 go_wp2
 refine Zb (.tuple #[.int .i64 0,.int .i64 1]) (by simp[results,results111,go_sem]) ?_
 exact⟨rfl,d.new a⟩
def iv(S:List UInt8)(M:gM)(done:Int->Bool):List UInt8:=S.mapIdx fun j x=>match M ((j/128:Nat):Int) with|some b=>if done ((j/128:Nat):Int) then b.getD (j%128) 0 else x|none=>x
theorem lU(S:List UInt8)(M:gM)(done:Int->Bool):(iv S M done).length=S.length:=by simp[iv]
theorem mX(S:List UInt8)(M:gM){done:Int->Bool}(h:∀k,(M k).isSome=true->done k=false):iv S M done=S:=by
 unfold iv
 apply List.ext_getElem?
 intro j
 rw[List.getElem?_mapIdx]
 cases hj:S[j]? with
 | none=>rfl
 | some x =>
  simp only[Option.map_some]
  have hk:=h ((j/128:Nat):Int)
  generalize ((j/128:Nat):Int)=z at *
  cases hm:M z with
  | none=>rfl
  | some b=>dsimp only;rw[hk (by rw[hm];rfl),if_neg (by simp)]
theorem uR(S:List UInt8)(M:gM)(done done':Int->Bool){i:Nat}{b:List UInt8}(hb:M i=some b)(hl:b.length=128)(hi:(i+1)*128<=S.length)(hd:∀k:Int,done' k=(done k||decide (k=i))):
  splice (iv S M done) (i*128) b=iv S M done':=by
 have c:=lU S M done
 apply List.ext_getElem?
 intro j
 unfold splice
 by_cases h1:j<i*128
 ·rw[List.getElem?_append_left (by rw[List.length_take];omega),List.getElem?_take,if_pos h1]
  unfold iv
  rw[List.getElem?_mapIdx,List.getElem?_mapIdx]
  have a:¬((j/128:Nat):Int)=i:=by omega
  rw[hd,decide_eq_false a,Bool.or_false]
 rw[List.getElem?_append_right (by rw[List.length_take];omega),List.length_take,Nat.min_eq_left zo]
 by_cases h2:j<i*128+128
 ·rw[List.getElem?_append_left zo]
  unfold iv
  rw[List.getElem?_mapIdx,List.getElem?_eq_getElem (show j<S.length by omega)]
  have e1:((j/128:Nat):Int)=i:=by omega
  simp only[Option.map_some,e1,hb,hd]
  have e2:j%128=j-i*128:=by omega
  simp[e2]
  rw[List.getElem?_eq_getElem zo]
  simp
 rw[List.getElem?_append_right zo,List.getElem?_drop,hl,show i*128+128+(j-i*128-128)=j from by omega]
 unfold iv
 rw[List.getElem?_mapIdx,List.getElem?_mapIdx]
 have a:¬((j/128:Nat):Int)=i:=by omega
 rw[hd,decide_eq_false a,Bool.or_false]
def lN(S:List UInt8)(M:gM):List UInt8:=iv S M fun _=>true
theorem oN(S:List UInt8)(M:gM):(lN S M).length=S.length:=lU _ _ _
theorem l8(n:Nat)(hn:n<=1000000)(w:World):(Instr.makeSlice 22 (.int .i64 (n:Int)) (.int .i64 (n:Int))).run prog w=.ok (.slice (some ⟨w.heap.size,0,none⟩) n n) (w.alloc (.cells ((List.replicate n (0:UInt8)).map eE).toArray 5)):=by
 obtain⟨i,hi,b,a,c⟩:=info_parts nV
 have h:=run_makeSlice (P:=prog) w 22 5 i (.int .u8 0) underlying22 hi b .i64 .i64 (n:Int) (n:Int) zo zo (by rw[a];omega) (by rw[c];omega) zo
 have e:madeCells #[Value.int .u8 0] (n*1)=((List.replicate n (0:UInt8)).map eE).toArray:=by
  apply Array.toList_inj.1
  rw[toList_madeCells_one,List.map_replicate,Nat.mul_one]
  show _=List.replicate n (eE 0)
  rfl
 rw[a,Int.toNat_natCast] at h
 have h2:madeCells (Value.int .u8 0).cells (n*1)=madeCells #[Value.int .u8 0] (n*1):=rfl
 rw[h2,e] at h
 exact h
theorem zj(n:Nat)(h0:64<=n)(h1:n<=4096)(w:World):
  Calls prog 17 #[.int .i64 n] w fun e w'=>(∃q,e=.returned (.tuple #[.pointer (some ⟨q.bd,0,none⟩),.int .i64 0])/\(∀b,b=q.bd\/b=q.bs\/b=q.bm->w.heap.size<=b)/\fj w' (fun b=>b<w.heap.size\/w'.heap.size<=b) q (List.replicate (n*128) 0) gM.no 0 0)/\New w w':=by
 have o:∀w,(Instr.makeSlice 22 (.int .i64 ((n:Int)*128)) (.int .i64 ((n:Int)*128))).run prog w=.ok (.slice (some ⟨w.heap.size,0,none⟩) (n*128) (n*128)) (w.alloc (.cells ((List.replicate (n*128) (0:UInt8)).map eE).toArray 5)):=fun w=>by
  have:=l8 (n*128) zo w
  rwa[Int.natCast_mul] at this
 have g:Hid ((List.replicate (n*128) (0:UInt8)).length=n*128):=zh (by simp)
 generalize List.replicate (n*128) (0:UInt8)=S at *
 have p:=@run_makeMap prog
 have r:decide ((n:Int)<64)=false:=decide_eq_false zo
 have s:decide ((4096:Int)<n)=false:=decide_eq_false zo
 go_in
 go_wp2
 refine Zb (.tuple #[.pointer (some ⟨w.heap.size+1+1,0,none⟩),.int .i64 0]) (by simp[results,results17,go_sem]) ?_
 have l:=heap_alloc_new w (.cells (S.map eE).toArray 5)
 have m:New w (w.alloc (.cells (S.map eE).toArray 5)):=(zN w).alloc _
 have h:(w.alloc (.cells (S.map eE).toArray 5)).heap.size=w.heap.size+1:=by simp
 generalize w.alloc (.cells (S.map eE).toArray 5)=a at *
 have i:=BG a (fun b=>b<w.heap.size\/w.heap.size+1+1+1<=b)
 have j:New a (a.alloc (.map #[] 0)):=(zN a).alloc _
 have k:(a.alloc (.map #[] 0)).heap.size=w.heap.size+1+1:=by simp[h]
 rw[h] at i
 generalize a.alloc (.map #[] 0)=c at *
 have d:=heap_alloc_new c (.cells #[.slice (some ⟨w.heap.size,0,none⟩) (n*128) (n*128),.map (some (w.heap.size+1)),.int .i64 0] 134)
 have f:New c (c.alloc (.cells #[.slice (some ⟨w.heap.size,0,none⟩) (n*128) (n*128),.map (some (w.heap.size+1)),.int .i64 0] 134)):=(zN c).alloc _
 have z3:(c.alloc (.cells #[.slice (some ⟨w.heap.size,0,none⟩) (n*128) (n*128),.map (some (w.heap.size+1)),.int .i64 0] 134)).heap.size=w.heap.size+1+1+1:=by simp[k]
 rw[k] at d
 generalize c.alloc (.cells #[.slice (some ⟨w.heap.size,0,none⟩) (n*128) (n*128),.map (some (w.heap.size+1)),.int .i64 0] 134)=t at *
 refine⟨⟨⟨w.heap.size+1+1,w.heap.size,w.heap.size+1⟩,rfl,?_,?_⟩,(m.new j).new f⟩
 ·rintro b (rfl|rfl|rfl)
  ·show w.heap.size<=w.heap.size+1+1;omega
  ·exact Nat.le_refl _
  show w.heap.size<=w.heap.size+1;omega
 rw[<- g.out] at d
 exact⟨d,(j.new f).Qa l zt,(i.new f).imp (fun b _ hb=>by rw[z3];exact hb),⟨n,g.out,h0,h1⟩,by
  rintro b (rfl|rfl|rfl) <;> dsimp only <;> omega⟩
theorem Ea{E:DataW Value}{M:gM}(hs:oq w D E M){x:Int}{c:Value}(hx:Maps.has E (.int .i64 x)=true)(hat:∀zd,E.atKey (.int .i64 x) zd=.held c):
  ∃(i:Nat) (b:List UInt8) (A:Option Addr) (cap:Nat),x=i/\M i=some b/\b.length=128/\c=.slice A 128 cap/\128<=cap/\Bs w D A 128 b:=by
 rcases hm:M x with _|b
 ·rw[(hs x).1 hm] at hx;cases hx
 obtain⟨_,h1,h2,h3,A,cap,a,_,h5,h6⟩:=(hs x).2 b hm
 have e:=(hat .nil).symm.trans (h5 .nil)
 injection e with e
 obtain⟨i,rfl⟩:=Int.eq_ofNat_of_zero_le h1
 exact⟨i,b,A,cap,rfl,hm,h3,e,a,h6⟩
theorem vN{q:g9}{S:List UInt8}{M:gM}{n:Nat}{wr:Int}(h:fj w D q S M n wr)(hM:∀(i:Nat) b,M i=some b->i*128+128<=S.length):
  Calls prog 79 #[.pointer (some ⟨q.bd,0,none⟩)] w fun e w'=>e=.returned (.tuple #[])/\b_ (fun b=>b≠q.bs/\b≠q.bm) w w'/\fj w' D q (lN S M) gM.no 0 wr:=by
 have g:=h.ne
 have H:=h.out
 have d:=h.disk
 have hlt:=h.lt
 obtain⟨k,hk,af,R⟩:=h.size
 have O:Hid (w.heap[q.bs]?=some (.cells ((iv S M fun _=>false).map eE).toArray 5 (0,0))):=zh (by rw[mX S M (fun _ _=>rfl)];exact h.safe)
 have c1:w.cell? ⟨q.bd,1,none⟩=some (.map (some q.bm)):=by rw[cell_of_row _ _ _ _ _ (0,0) d];rfl
 obtain⟨E,ab,hs⟩:=h.dirty
 have HS:=zh hs
 have HM:=zh hM
 have I:=zh hk
 have HO:=zh H
 have hz:Hid (∀b,b=q.bd\/b=q.bs\/b=q.bm->b<w.heap.size):=zh hlt
 rw[hk] at d
 clear h hs hM hk H hlt
 go_in
 go_wp2_with (first
  | (at_range;refine wpList_range_own _ rfl _ 132 rfl 3 22 qL underlying132 _ q.bm n _ rfl ab ?_;intro w0 ac l ao)
  | fail)
 go_frame
 clear c1
 go_loopw [2] (fun _ wr=>∃(left:Lit->Bool) (T:Nat),wr.ranges prog 3 im q.bm w.heap.size n E left T/\(∀C,left C=true->Maps.has E C=true)/\b_ (fun b=>b≠q.bs) w wr /\
   wr.heap[q.bs]?=some (.cells ((iv S M fun k => !left (.int .i64 k)).map eE).toArray 5 (0,0)))
  (fun _ wr=>wr.rangeLeft q.bm w.heap.size)
 case atStart =>
  refine⟨_,_,ac,fun _ h=>h,⟨l.os,l.tape,l.output,l.size,fun j hj _=>l.block j hj (by simp)⟩,?_⟩
  rw[l.block q.bs (hz.out _ (.inr (.inl rfl))) (by simp),O.out]
  rw[mX S M (fun _ _=>rfl),mX S M (done:=fun k => !Maps.has E (.int .i64 k)) (fun k hk=>by
   obtain⟨b,hb⟩:=Option.isSome_iff_exists.1 hk
   rw[((HS.out k).2 b hb).1];rfl)]
 obtain⟨left,T,J,r,P,F⟩:=hrel
 have s:=(P.block q.bd (hz.out _ (.inl rfl)) g.1).trans d
 have c0:wr.cell? ⟨q.bd,0,none⟩=some (.slice (some ⟨q.bs,0,none⟩) (k*128) (k*128)):=by rw[cell_of_row _ _ _ _ _ (0,0) s];rfl
 have c1:wr.cell? ⟨q.bd,1,none⟩=some (.map (some q.bm)):=by rw[cell_of_row _ _ _ _ _ (0,0) s];rfl
 obtain⟨w9,Q,z,B,ag⟩:=Dm underlying132 J.owns
 go_wp2_with (first
  | (at_next;refine wpList_next_ranges _ rfl _ rfl 3 qL im (Value.int .i64) (fun c:Value=>c) (fun key C p=>by obtain⟨x,rfl,_⟩:=Maps.keyOf_int_inv underlying3 p;exact⟨x,rfl⟩) (fun v y hv=>⟨v,rfl⟩) q.bm w.heap.size n _ _ _ rfl J ?_ ?_)
  | fail)
 ·intro _ ah
  go_wp2_with fail
  go_end0
  have ai:b_ (fun b=>b≠q.bs/\b≠q.bm) w w9:=(P.imp (E:=fun b=>b≠q.bs/\b≠q.bm) fun _ _ hd=>hd.1).Qd B fun _ _ hd=>hd.2
  have hfl:(iv S M fun k => !left (.int .i64 k))=lN S M:=by
   unfold lN
   congr 1
   funext k
   rw[ah];rfl
  rw[hfl] at F
  refine⟨rfl,ai,(B.block q.bd (Zl s) g.2.1).trans ?_,(B.block q.bs (Zl F) g.2.2).trans F,⟨_,z,xJ _ _⟩,⟨k,by rw[oN];exact I.out,af,R⟩,HO.out⟩
  rw[oN,I.out];exact s
 intro x c C y ps f am p U G V a ad m ap aq
 obtain⟨x',ex,rfl,ar⟩:=Maps.keyOf_int_inv underlying3 p
 obtain rfl:x'=x:=by injection ex with _ e;exact e.symm
 have hy:y=.held c:=by injection G with G;injection G with G;exact G.symm
 subst hy
 obtain⟨i,b,A,aj,rfl,K,ak,rfl,an,hB⟩:=Ea HS.out (r _ U) V
 have ae:=HM.out i b K
 rw[I.out] at ae
 have u:b_ (fun b=>b<w.heap.size) wr f:=⟨m.os,m.tape,m.output,m.size,fun j hj hd=>m.block j hj (fun e=>by injection e with e;omega)⟩
 have o:b_ (fun b=>b≠q.bs) w f:=P.Qd u fun j hj _=>hj
 have W:=(o.block q.bd (hz.out _ (.inl rfl)) g.1).trans d
 have al:f.cell? ⟨q.bd,0,none⟩=some (.slice (some ⟨q.bs,0,none⟩) (k*128) (k*128)):=by rw[cell_of_row _ _ _ _ _ (0,0) W];rfl
 have t:=(u.block q.bs (Zl F) (hz.out _ (.inr (.inl rfl)))).trans F
 have X:=hB.keep o (fun j _ hj e=>HO.out j (.inr (.inl e)) hj)
 have HA:=zh<|Gj al R i zo
 have Y:=tl (off:=i*128) t X Zd 128 (k*128-i*128) aj zr (by rw[lU,I.out];omega)
 have Z:=uR S M (fun k => !left (.int .i64 k)) (fun k => !(left (.int .i64 k) && !(Lit.int .i64 k).sameKey (.int .i64 i))) K ak (by rw[I.out];omega) (fun k=>by
  simp only[Lit.sameKey]
  cases left (.int .i64 k) <;> simp)
 rw[Z] at Y
 generalize L:(iv S M fun k => !(left (.int .i64 k) && !(Lit.int .i64 k).sameKey (.int .i64 i)))=SL at Y
 replace L:=zh L
 have HH:=J4 a r o t
 clear a r o t X Z W s Q z B ag F P u m U V hB c1 K p G ex
 go_wp2_with fail
 refine HA.mono ?_
 rintro e w'⟨rfl,rfl⟩
 go_wp2
 go_roundw
 case rel =>
  obtain⟨a,r,o,t⟩:=HH.out
  have N:f.grownBy (f.setRow q.bs (SL.map eE).toArray) (some q.bs):=⟨rfl,rfl,rfl,by simp[World.setRow],fun j _ hj=>setRow_other f q.bs j _ (fun e=>hj (by rw[e]))⟩
  refine⟨_,_,a.kept N (fun e=>g.2.2 (by injection e with e;exact e.symm)) (fun e=>by injection e with e;have:=hz.out q.bs (.inr (.inl rfl));omega),fun C aa=>r C (by simp at aa;exact aa.1),o.trans (yL f q.bs _),?_⟩
  rw[L.out]
  exact wu t _
 obtain⟨a,_⟩:=HH.out
 have N:f.grownBy (f.setRow q.bs (SL.map eE).toArray) (some q.bs):=⟨rfl,rfl,rfl,by simp[World.setRow],fun j _ hj=>setRow_other f q.bs j _ (fun e=>hj (by rw[e]))⟩
 rw[(a.kept N (fun e=>g.2.2 (by injection e with e;exact e.symm)) (fun e=>by injection e with e;have:=hz.out q.bs (.inr (.inl rfl));omega)).left_eq,J.left_eq]
 exact ad
