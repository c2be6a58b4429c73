/-
  PROVED HERE: parts of a law's walk, each under the conditions that its statement names.
-/
import Derived.Lib.SlMapFilter
import Derived.Laws.IdiomStrings
import Derived.Test.YtlopmiaimignkaaGreatDoorPkM17
import Derived.Test.YtlopmiaimignkaaGreatDoorPkM23
set_option maxRecDepth 100000
set_option maxHeartbeats 4000000
namespace Go.Proofs.YtlopmiaimignkaaGreatDoor
open Go.Proofs.Tryz
open Go.RowKit Go.Maps Go.Sort Go.Shelf
variable{bi bm c1 c2 m n nb:Nat}{v:Value}{g id k p s wr:Int}{it:eI}{D D2 F:Nat->Prop}{T:dX}{w:World}{S:List UInt8}{A:Option Addr}
section
variable {w w':World}{nb bm:Nat}{c:Col}{i bt:Nat}{q:fx}{T:dX}
theorem l7(h:Below w.heap.size w w'):New w w':=⟨h.os,h.tape,h.output,h.size,fun k hk _=>h.block k hk⟩
theorem BU{l:List (List UInt8×Int)}(h:mf w nb l):
  Calls prog 197 #[.map (some nb)] w fun e w'=>e=.returned (.map (some w.heap.size))/\New w w'/\w.heap.size<w'.heap.size/\mf w' w.heap.size l:=by
 obtain⟨h0,E,h1,h2⟩:=h
 refine(AnyW.maps_Clone_owns Gb _ im nb _ E w h1).mono ?_
 rintro e w'⟨he,a,_,hb⟩
 exact⟨he,l7 hb,a.lt,h0,E,a,h2⟩
theorem BT(w:World):Calls prog 197 #[.map none] w fun e w'=>e=.returned (.map none)/\w=w' :=
 (AnyW.maps_Clone_nil Gb w).mono fun _e _w' ⟨he,hw⟩=>⟨he,hw.symm⟩
theorem Ig(m:Nat):AnyZI.SortsIn prog rT Fence.wide m :=
 ⟨fun blk off a d W e b c=>callsIn_wide.2 (AnyM.slices_Sort_int Ht blk off a d W e b c),fun p a W=>callsIn_wide.2 (AnyM.slices_Sort_int_none Ht p a W)⟩
theorem EM(m:Nat):AnyZ.SortsIn prog rS Fence.wide m :=
 ⟨fun blk off a d W e b c=>callsIn_wide.2 (AnyM.slices_Sort_string Hs blk off a d W e b c),fun p a W=>callsIn_wide.2 (AnyM.slices_Sort_string_none Hs p a W)⟩
theorem FH{α:Type}{f:Int->α->Value}{l:List (Int×α)}{E:DataW Value}(hown:w.ownsMap prog 3 im bm n E)(hs:oh E f l)(hr:ee l){ss:List Int}(hp:ss.Perm (intKeys E)):(ss.mergeSort fun x y=>decide (x<=y))=l.map (·.1):=by
 obtain⟨g,i,j,_⟩:=hown.entries qL
 obtain⟨k,d,m⟩:=hown.keysOf
 obtain rfl:g=k:=by rw[i] at d;simpa using d
 subst i
 have h1:(l.map (·.1)).Perm (intKeys (.map g)):=perm_intKeys j (fun p hp=>by obtain⟨v,o⟩:=m p hp;obtain⟨x,_,c,_⟩:=Maps.keyOf_i64 underlying3 o;exact⟨x,c⟩)
  (List.pairwise_map.2 (hr.imp fun {a b} h e=>by have h:a.1<b.1:=h;omega)) (fun x=>by
   constructor
   ·intro c
    obtain⟨p,hp,rfl⟩:=List.mem_map.1 c
    exact((hs p.1).2 p.2 (hr.get hp)).1
   intro c
   cases hg:dN l x with
   | none=>have:=(hs x).1 hg;rw[show(KeyL.lit x:Lit)=.int .i64 x from rfl] at this;rw[this] at c;cases c
   | some z=>exact List.mem_map.2 ⟨(x,z),fC hg,rfl⟩)
 have h2:=mergeSort_of_perm_i (hp.trans h1.symm)
 have h3:(l.map (·.1)).mergeSort leI=l.map (·.1):=List.mergeSort_of_pairwise (List.pairwise_map.2 (hr.imp fun {a b} h=>by have h:a.1<b.1:=h;simp only[leI,decide_eq_true_eq];omega))
 exact h2.trans h3
theorem FG{α:Type}{f:List UInt8->α->Value}{l:List (List UInt8×α)}{E:DataW Value}(hown:w.ownsMap prog 9 im bm n E)(hs:oh E f l)(hr:ee l){ss:List (List UInt8)}(hp:ss.Perm (strKeys E)):(ss.mergeSort fun x y=>decide (x<=y))=l.map (·.1):=by
 obtain⟨g,i,j,_⟩:=hown.entries FI
 obtain⟨k,d,m⟩:=hown.keysOf
 obtain rfl:g=k:=by rw[i] at d;simpa using d
 subst i
 have h1:(l.map (·.1)).Perm (strKeys (.map g)):=perm_strKeys j (fun p hp=>by obtain⟨v,o⟩:=m p hp;obtain⟨x,_,c,_⟩:=Maps.keyOf_str underlying9 o;exact⟨x,c⟩)
  (List.pairwise_map.2 (hr.imp fun {a b} h e=>by have h:a.1<b.1:=h;rw[e] at h;exact Ord2.irr _ h)) (fun x=>by
   constructor
   ·intro c
    obtain⟨p,hp,rfl⟩:=List.mem_map.1 c
    exact((hs p.1).2 p.2 (hr.get hp)).1
   intro c
   cases hg:dN l x with
   | none=>have:=(hs x).1 hg;rw[show(KeyL.lit x:Lit)=.string x from rfl] at this;rw[this] at c;cases c
   | some z=>exact List.mem_map.2 ⟨(x,z),fC hg,rfl⟩)
 have h2:=mergeSort_of_perm (hp.trans h1.symm)
 have h3:(l.map (·.1)).mergeSort leB=l.map (·.1):=List.mergeSort_of_pairwise (List.pairwise_map.2 (hr.imp fun {a b} h=>by have h:a.1<b.1:=h;simp only[leB,decide_eq_true_eq];exact List.le_of_lt h))
 exact h2.trans h3
theorem tJ{base e size:Nat}{xs:List Value}(h:w.ownsRow base e size v n xs):∃A c,v=.slice A n c:=by
 rcases h.2 with⟨h0,h2⟩|⟨g,a,b,h0,_⟩
 ·exact⟨none,0,by rw[h0,h2]⟩
 exact⟨_,_,h0⟩
theorem xC{α:Type}{f:Int->α->Value}{l:List (Int×α)}(h:fU w bm f l)(hn:l.length<=1000000)(B1:Nat)(h1:w.heap[B1]?=some (.cells #[.map (some bm)] 215 (0,0))):
  Calls prog 198 #[.func (.func 255) #[] #[.pointer (some ⟨B1,0,none⟩)]] w fun e w'=>(∃(A:Option Addr) (c:Nat),e=.returned (.slice A l.length c)/\Own w' w.heap.size 3 1 A l.length c (l.map fun p=>.int .i64 p.1))/\New w w':=by
 obtain⟨h0,E,a,hsh⟩:=h
 have hs:=a.size_le
 have d:SeqGives Fence.wide 2 prog 255 #[.pointer (some ⟨B1,0,none⟩)] encZ (fun g=>g.Perm (intKeys E)) (Maps.size E) w :=
  AnyZI.keys_gives (ρ:=vE) { I6 with } Fence.wide _ trivial rfl zo B1 bm _ E w (Zl h1) (a_ h1 (k:=0) rfl) a
 have i:=AnyZI.sorted_in GK Fence.wide 5 trivial trivial trivial trivial rfl zo (Ig _) (enters_of func254 zk rfl) 255 #[.pointer (some ⟨B1,0,none⟩)] trivial (enters_of func255 zk rfl) _ _ (by unfold maxLen;omega) zo _ d
 change CallsIn _ _ prog 198 _ _ _ at i
 refine(callsIn_wide.1 i).mono ?_
 rintro e w'⟨v,g,rfl,j,b,_,hb⟩
 have hk:=FH a hsh h0 j
 have hl:g.length=l.length:=by have:=congrArg List.length hk;rw[List.length_mergeSort,List.length_map] at this;exact this
 rw[hk,List.map_map,hl] at b
 obtain⟨A,c,rfl⟩:=tJ b
 exact⟨⟨A,c,rfl,b⟩,l7 hb⟩
theorem xH{α:Type}{f:List UInt8->α->Value}{l:List (List UInt8×α)}(h:fU w bm f l)(hn:l.length<=1000000)(B1:Nat)(h1:w.heap[B1]?=some (.cells #[.map (some bm)] 212 (0,0))):
  Calls prog 158 #[.func (.func 245) #[] #[.pointer (some ⟨B1,0,none⟩)]] w fun e w'=>(∃(A:Option Addr) (c:Nat),e=.returned (.slice A l.length c)/\Own w' w.heap.size 9 1 A l.length c (l.map fun p=>.string (dR p.1)))/\New w w':=by
 obtain⟨h0,E,a,hsh⟩:=h
 have hs:=a.size_le
 have d:SeqGives Fence.wide 2 prog 245 #[.pointer (some ⟨B1,0,none⟩)] encStr (fun g=>g.Perm (strKeys E)) (Maps.size E) w :=
  AnyZ.keys_gives (ρ:=rE) { Hu with } Fence.wide _ trivial rfl zo B1 bm _ E w (Zl h1) (a_ h1 (k:=0) rfl) a
 have i:=AnyZ.sorted_in Ch Fence.wide 5 trivial trivial trivial trivial rfl zo (EM _) (enters_of func244 zk rfl) 245 #[.pointer (some ⟨B1,0,none⟩)] trivial (enters_of func245 zk rfl) _ _ (by unfold maxLen;omega) zo _ d
 change CallsIn _ _ prog 158 _ _ _ at i
 refine(callsIn_wide.1 i).mono ?_
 rintro e w'⟨v,g,rfl,j,b,_,hb⟩
 have hk:=FG a hsh h0 j
 have hl:g.length=l.length:=by have:=congrArg List.length hk;rw[List.length_mergeSort,List.length_map] at this;exact this
 rw[hk,List.map_map,hl] at b
 obtain⟨A,c,rfl⟩:=tJ b
 exact⟨⟨A,c,rfl,b⟩,l7 hb⟩
theorem DW(bm:Nat)(w:World):Calls prog 199 #[.map (some bm)] w fun e w'=>e=.returned (.func (.func 255) #[] #[.pointer (some ⟨w.heap.size,0,none⟩)])/\w'=w.alloc (.cells #[.map (some bm)] 215):=by
 go_in
 go_wp2
 go_ret
 exact⟨rfl,rfl⟩
theorem DX(bm:Nat)(w:World):Calls prog 159 #[.map (some bm)] w fun e w'=>e=.returned (.func (.func 245) #[] #[.pointer (some ⟨w.heap.size,0,none⟩)])/\w'=w.alloc (.cells #[.map (some bm)] 212):=by
 go_in
 go_wp2
 go_ret
 exact⟨rfl,rfl⟩
theorem Co(h:ea w c i bt q T)(hn:T.length<=1000000):
  Calls prog 103 #[.pointer (some ⟨bt,0,none⟩)] w fun e w'=>(∃(A:Option Addr) (cp:Nat),e=.returned (.slice A T.length cp)/\Own w' w.heap.size 3 1 A T.length cp (T.map fun p=>.int .i64 p.1))/\New w w':=by
 have a:=(zN w).alloc (.cells #[.map (some q.bm)] 215)
 have l:w.cell? ⟨bt,0,none⟩=some (.map (some q.bm)):=a_ h.tree (k:=0) rfl
 have g:=zh<|xC (h.own.new a) hn _ (heap_alloc_new w _)
 have j:=zh<|DW q.bm w
 clear h
 go_in
 go_wp2_with fail
 refine j.mono ?_
 rintro e m⟨rfl,rfl⟩
 go_wp2_with fail
 refine g.mono ?_
 rintro e n⟨⟨A,c,rfl,b⟩,d⟩
 have f:=J2 b d
 clear b d
 go_wp2
 go_ret
 exact⟨⟨A,c,rfl,ownsRow_base_a f.1 (by simp)⟩,a.new f.2⟩
end
open Go.RowKit
section
variable {w w':World}{c c':Col}{i j bt:Nat}{q q':fx}{T L:dX}
structure Cb (w:World) (c:Col) (j n bt bm:Nat) (β γ:Int->Nat) (L:dX):Prop where
 tree:w.heap[bt]?=some (.cells #[.map (some bm)] 217 (0,0))
 own:fU w bm (fun(k:Int) (_:eI)=>.pointer (some ⟨β k,0,none⟩)) L
 item:∀k it,dN L k=some it->i_ w c j (β k) (γ k) k it/\n<=β k/\n<=γ k
 col:c bt=j/\c bm=j
 inj:∀k k' it it',dN L k=some it->dN L k'=some it'->k≠k'->β k≠β k'/\(it.n.kind=2->it'.n.kind=2->γ k≠γ k')
 far:∀k it,dN L k=some it->it.n.kind=2->γ k≠bm
theorem Cb.keep{n bm:Nat}{β γ:Int->Nat}{F:Nat->Prop}(h:Cb w c j n bt bm β γ L)(hk:b_ F w w')(hx:Ext w c c')(hF:∀b,b<w.heap.size->c b=j\/c b=0->F b):Cb w' c' j n bt bm β γ L :=
 ⟨(hk.block bt (Array.getElem?_eq_some_iff.1 h.tree).1 (hF _ (Array.getElem?_eq_some_iff.1 h.tree).1 (.inl h.col.1))).trans h.tree,h.own.keep hk (hF _ h.own.lt (.inl h.col.2)),fun k a hg=>⟨(h.item k a hg).1.keep hk hx hF,(h.item k a hg).2⟩,⟨(hx _ (Array.getElem?_eq_some_iff.1 h.tree).1).trans h.col.1,(hx _ h.own.lt).trans h.col.2⟩,h.inj,h.far⟩
theorem pm{o:Option Nat}(hg:w.grownBy w' o)(ho:∀k,o=some k->w.heap.size<=k):New w w':=⟨hg.os,hg.tape,hg.output,hg.size,fun j hj _=>hg.block j hj (fun e=>by have:=ho j e.symm;omega)⟩
theorem Cb.tree_at{β γ:Int->Nat}(h:Cb w c j n bt bm β γ L):ea w c j bt ⟨bm,β,γ⟩ L:=⟨h.tree,h.own,fun k a hg=>(h.item k a hg).1,h.col,h.inj,h.far⟩
theorem gj{W:World}(h:i_ W c i bi nb id it):∃A cp,W.cell? ⟨bi,0,none⟩=some (.int .i64 id)/\W.cell? ⟨bi,1,none⟩=some (.int .i64 it.n.kind)/\W.cell? ⟨bi,2,none⟩=some (.int .i64 it.n.links)/\W.cell? ⟨bi,3,none⟩=some (.int .i64 it.n.size) /\
  W.cell? ⟨bi,4,none⟩=some (.int .u64 it.n.till)/\W.cell? ⟨bi,5,none⟩=some (.bool it.n.shut)/\W.cell? ⟨bi,6,none⟩=some (.slice A it.b.length cp)/\W.cell? ⟨bi,7,none⟩=some (.map (if it.n.kind=2 then some nb else none))/\it.b.length<=cp/\cp<=9223372036854775807/\Bs W (fun b=>c b=0) A it.b.length it.b:=by
 obtain⟨A,cp,h1,h2,h3,a⟩:=h.cells
 exact⟨A,cp,a_ h1 (k:=0) rfl,a_ h1 (k:=1) rfl,a_ h1 (k:=2) rfl,a_ h1 (k:=3) rfl,a_ h1 (k:=4) rfl,a_ h1 (k:=5) rfl,a_ h1 (k:=6) rfl,a_ h1 (k:=7) rfl,h2,h3,a⟩
theorem C0(h:ea w c i bt q T)(hn:T.length<=100000)(j:Nat)(hj:j≠0):
  Calls prog 102 #[.pointer (some ⟨bt,0,none⟩)] w fun e w'=>∃(bt':Nat) (q':fx) (c':Col),e=.returned (.pointer (some ⟨bt',0,none⟩))/\New w w'/\w.heap.size<=bt'/\Ext w c c'/\ea w' c' j bt' q' T:=by
 have a8:=@run_makeMap prog
 obtain⟨h0,E,aE,hsh⟩:=h.own
 have HT:=zh h
 have HS:=zh hsh
 have H0:=zh h0
 have c0:w.cell? ⟨bt,0,none⟩=some (.map (some q.bm)):=a_ h.tree (k:=0) rfl
 have ba:=h.ltT
 have bb:=h.ltM
 have k1:=(zN w).alloc (.map #[] 0)
 have m1:=fU.made (κ:=Int) (α:=eI) w (fun _ _=>.pointer (some ⟨0,0,none⟩))
 have z1:(w.alloc (.map #[] 0)).heap.size=w.heap.size+1:=by simp
 clear h hsh h0
 go_in
 go_upto_region 2 with fail
 generalize w.alloc (.map #[] 0)=wA at *
 have hB:=heap_alloc_new wA (.cells #[.map (some w.heap.size)] 217)
 have k2:=(zN wA).alloc (.cells #[.map (some w.heap.size)] 217)
 have z2:(wA.alloc (.cells #[.map (some w.heap.size)] 217)).heap.size=w.heap.size+2:=by simp[z1]
 rw[z1] at hB
 generalize wA.alloc (.cells #[.map (some w.heap.size)] 217)=Z at *
 obtain⟨l,aa⟩:=zx (w.heap.size)
 obtain⟨bt',au⟩:=zx (w.heap.size+1)
 have ae:=(k1.new k2)
 have aJ:Z.ownsMap prog 3 im q.bm T.length E:=nP aE ae trivial
 have aV:=ae.Qb c0 trivial
 have aW:Hid (Cb Z (c.on w.heap.size fun _=>j) j w.heap.size bt' l (fun _=>0) (fun _=>0) []):=zh ⟨by rw[au,aa];exact hB,by rw[aa];exact(m1.new k2),fun k a hg=>(by cases hg),⟨Col.Qf _ _ zo,Col.Qf _ _ zo⟩,fun k k' a it' hg=>(by cases hg),fun k a hg=>(by cases hg)⟩
 have aK:=zh ae
 rw[<- au,<- aa]
 replace z1:=zh z1
 have U:Hid (Z.heap.size=l+2/\bt'=l+1/\l=w.heap.size):=zh ⟨zo,zo,aa⟩
 clear z2
 replace aa:=zh aa
 replace au:=zh au
 clear m1 k1 k2 hB ae aE
 go_wp2_with (first
  | (at_range;refine wpList_range_own _ rfl _ 215 rfl 3 209 qL underlying215 _ q.bm T.length _ rfl aJ ?_;intro w0 aS aL bc)
  | fail)
 clear c0 aV
 have bd:Z.heap.size<=w0.heap.size:=aL.size
 go_loopw [] (fun wr=>∃(left:Lit->Bool) (aM:Nat) (L:dX) (β γ:Int->Nat) (s:Col),wr.ranges prog 3 im q.bm Z.heap.size T.length E left aM/\(∀kl,left kl=true->Maps.has E kl=true)/\b_ (fun b=>b<w.heap.size) w wr/\Ext w c s/\Z.heap.size<wr.heap.size/\s Z.heap.size=j+1 /\
   Cb wr s j w.heap.size bt' l β γ L/\∀k,dN L k=if left (.int .i64 k) then none else dN T k)
  (fun wr=>wr.rangeLeft q.bm Z.heap.size)
 case atStart =>
  have kk:=pm aL (fun k e=>by cases e)
  refine⟨_,_,[],_,_,(c.on w.heap.size fun _=>j).on Z.heap.size fun _=>j+1,aS,fun _ h=>h,b_.Qe (aK.new kk),(Col.Qg c w _).trans (Col.Qg _ Z _) aK.size,by have:=U.out;omega,Col.Qf _ _ zr,aW.keep kk (Col.Qg _ Z _) (fun _ _ _=>zt),fun k=>?_⟩
  show none=_
  split
  ·rfl
  rename_i hk
  cases hg:dN T k with
  | none=>rfl
  | some a=>exact absurd ((HS.out k).2 a hg).1 hk
 obtain⟨left,aM,L,β,γ,s,V,af,r,hX,hZ,N,hM,hL⟩:=hrel
 have HR:=J6 r hX hZ N hM hL
 go_wp2_with (first
  | (at_next;refine wpList_next_ranges _ rfl _ rfl 3 qL im (Value.int .i64) (fun c:Value=>c) (fun key kl av=>by obtain⟨x,rfl,_⟩:=Maps.keyOf_int_inv underlying3 av;exact⟨x,rfl⟩) (fun v y hv=>⟨v,rfl⟩) q.bm Z.heap.size T.length _ _ _ rfl V ?_ ?_)
  | fail)
 ·intro _ aX
  clear r hX hZ hM hL N
  go_wp2
  go_ret
  obtain⟨r,hX,hZ,N,hM,hL⟩:=HR.out
  have aY:L=T:=hM.own.1.ext H0.out fun k=>by rw[hL k,aX];rfl
  subst aY
  exact⟨bt',_,s,rfl,r.Qi (fun b hb=>hb),by have:=U.out;omega,hX,hM.tree_at⟩
 intro x cv kl y ps f a7 av ag an aN t I ao aZ be
 obtain⟨g,ex,rfl,aO⟩:=Maps.keyOf_int_inv underlying3 av
 obtain rfl:g=x:=by injection ex with _ e;exact e.symm
 have hy:y=.held cv:=by injection an with an;injection an with an;exact an.symm
 subst hy
 have az:=af _ ag
 obtain⟨a,ab⟩:∃a,dN T g=some a:=by
  cases hg:dN T g with
  | none=>have:=(HS.out g).1 hg;rw[show(KeyL.lit g:Lit)=.int .i64 g from rfl] at this;rw[this] at az;cases az
  | some a=>exact⟨a,rfl⟩
 have a1:cv=.pointer (some ⟨q.β g,0,none⟩):=by
  have:=(aN .nil).symm.trans (((HS.out g).2 a ab).2 .nil)
  injection this
 subst a1
 have ac:=HT.item g a ab
 have X:=ac.lt
 have ah:b_ (fun b=>b≠Z.heap.size) wr f:=⟨ao.os,ao.tape,ao.output,ao.size,fun j hj hd=>ao.block j hj (fun e=>hd (by injection e))⟩
 have o:=hM.keep (c':=s) ah (Ext.refl _ _) (fun b hb hc e=>by rw[e] at hc;have:=N;omega)
 have H:b_ (fun b=>b<w.heap.size) w f:=r.Qd ah fun b hb _=>by have:=U.out;omega
 have ai:=ah.size
 obtain⟨A,Q,x0,x1,x2,x3,x4,x5,x6,x7,ap,aq,aF⟩:=gj ac
 have ar:Bs f (fun b=>c b=0/\b<w.heap.size) A a.b.length a.b:=(aF.imp (E:=fun b=>c b=0/\b<w.heap.size) fun b hb hd=>⟨hd,hb⟩).keep H fun b hb hd=>hd.2
 have Y:Hid (∀W,b_ (fun b=>b≠l) f.drew W->∀(b k:Nat) u,b<w.heap.size->w.cell? ⟨b,k,none⟩=some u->W.cell? ⟨b,k,none⟩=some u):=zh fun W B b k u hb hc=>(H.Qd ((b_.refl _ f).drew.trans B) fun d hd _=>by have:=U.out;show d≠l;omega).Qb hc hb
 have yt:∀W,b_ (fun b=>b≠l) f.drew W->W.cell? ⟨bt',0,none⟩=some (.map (some l)):=fun W B=>((b_.refl _ f).drew.trans B).Qb (a_ o.tree (k:=0) rfl) (by have:=U.out;show bt'≠l;omega)
 have y0:∀W,b_ (fun b=>b≠l) f.drew W->W.cell? ⟨q.β g,0,none⟩=some (.int .i64 g):=fun W B=>Y.out W B _ _ _ X x0
 have y1:∀W,b_ (fun b=>b≠l) f.drew W->W.cell? ⟨q.β g,1,none⟩=some (.int .i64 a.n.kind):=fun W B=>Y.out W B _ _ _ X x1
 have y2:∀W,b_ (fun b=>b≠l) f.drew W->W.cell? ⟨q.β g,2,none⟩=some (.int .i64 a.n.links):=fun W B=>Y.out W B _ _ _ X x2
 have y3:∀W,b_ (fun b=>b≠l) f.drew W->W.cell? ⟨q.β g,3,none⟩=some (.int .i64 a.n.size):=fun W B=>Y.out W B _ _ _ X x3
 have y4:∀W,b_ (fun b=>b≠l) f.drew W->W.cell? ⟨q.β g,4,none⟩=some (.int .u64 a.n.till):=fun W B=>Y.out W B _ _ _ X x4
 have y5:∀W,b_ (fun b=>b≠l) f.drew W->W.cell? ⟨q.β g,5,none⟩=some (.bool a.n.shut):=fun W B=>Y.out W B _ _ _ X x5
 have y6:∀W,b_ (fun b=>b≠l) f.drew W->W.cell? ⟨q.β g,6,none⟩=some (.slice A a.b.length Q):=fun W B=>Y.out W B _ _ _ X x6
 have aP:=x7
 have aj:=J7 hX o H ah ar ap aq
 have aA:=zh ac
 have aB:=J4 t I V ai
 have O:=J6 af ab ag hL N hZ
 clear o H ah ar ap aq aF ac t I ao aZ aN av an az ab r hX hZ hM N hL af x0 x1 x2 x3 x4 x5 x6 V ai ag
 by_cases ad:a.n.kind=2
 ·rw[if_pos ad] at x7
  have y7:∀W,b_ (fun b=>b≠l) f.drew W->W.cell? ⟨q.β g,7,none⟩=some (.map (some (q.γ g))):=fun W B=>Y.out W B _ _ _ X x7
  have a2:=zh<|((aA.names ad).2).keep aj.2.2.1 (aA.names ad).2.lt
  have aC:=zh ad
  clear x7 aP ad
  go_wp2_with fail
  refine eu (b_ (fun b=>b≠l) f.drew) zk ?_
  have p:b_ (fun b=>b≠l) f.drew f.drew:=b_.refl _ _
  refine c_ 0 p ?_
  refine c_ 1 p ?_
  refine c_ 2 p ?_
  refine c_ 3 p ?_
  refine c_ 4 p ?_
  refine c_ 5 p ?_
  refine c_ 6 p ?_
  refine c_ 7 p ?_
  refine c_ 8 p ?_
  refine c_ 9 p ?_
  refine c_ 10 p ?_
  refine c_ 11 p ?_
  refine c_ 12 p ?_
  refine c_ 13 p ?_
  refine c_ 14 p ?_
  refine c_ 15 p ?_
  refine c_ 16 p ?_
  refine dQ (i:=17) zk rfl rfl (fun K r=>?_)
  go_simp
  refine(BU (w:=f.drew) a2.out).mono ?_
  rintro e w2⟨rfl,k2,aQ,aG⟩
  have aR:=J2 aQ aG
  clear aQ aG
  go_wp2_with fail
  have n1:=b_.new p k2
  refine r _ _ n1 ?_
  clear r K p
  try simp only[zy]
  refine c_ 18 n1 ?_
  refine dQ (i:=19) zk rfl rfl (fun K r=>?_)
  go_simp
  have h3:(w2.alloc (.cells #[.int .i64 g,.int .i64 a.n.kind,.int .i64 a.n.links,.int .i64 a.n.size,.int .u64 a.n.till,.bool a.n.shut,.slice A a.b.length Q,.map (some f.heap.size)] 214)).heap[w2.heap.size]?=some (.cells #[.int .i64 g,.int .i64 a.n.kind,.int .i64 a.n.links,.int .i64 a.n.size,.int .u64 a.n.till,.bool a.n.shut,.slice A a.b.length Q,.map (some f.heap.size)] 214 (0,0)):=heap_alloc_new w2 (.cells #[.int .i64 g,.int .i64 a.n.kind,.int .i64 a.n.links,.int .i64 a.n.size,.int .u64 a.n.till,.bool a.n.shut,.slice A a.b.length Q,.map (some f.heap.size)] 214)
  have k3:New w2 (w2.alloc (.cells #[.int .i64 g,.int .i64 a.n.kind,.int .i64 a.n.links,.int .i64 a.n.size,.int .u64 a.n.till,.bool a.n.shut,.slice A a.b.length Q,.map (some f.heap.size)] 214)):=(zN w2).alloc _
  have z3:(w2.alloc (.cells #[.int .i64 g,.int .i64 a.n.kind,.int .i64 a.n.links,.int .i64 a.n.size,.int .u64 a.n.till,.bool a.n.shut,.slice A a.b.length Q,.map (some f.heap.size)] 214)).heap.size=w2.heap.size+1:=by simp
  have G:=b_.new n1 k3
  refine r _ _ G ?_
  clear r K n1
  try simp only[zy]
  generalize (w2.alloc (.cells #[.int .i64 g,.int .i64 a.n.kind,.int .i64 a.n.links,.int .i64 a.n.size,.int .u64 a.n.till,.bool a.n.shut,.slice A a.b.length Q,.map (some f.heap.size)] 214))=w3 at *
  have aT:Hid (b_ (fun b=>b≠l) w2 w3):=zh (b_.Qe k3)
  have aH:New f.drew w3:=k2.new k3
  obtain⟨J,C⟩:=zx (w2.heap.size)
  obtain⟨nb,M⟩:=zx (f.heap.size)
  rw[<- C]
  have aI:=H0.len_le aj.2.1.own.1 (P:=fun k => !left (.int .i64 k)) (fun k=>by rw[O.2.2.2.1 k];cases left (.int .i64 k) <;> rfl)
  have ak:dN L g=none:=by rw[O.2.2.2.1 g,O.2.2.1];rfl
  have m3:fU w3 l (fun(k:Int) (_:eI)=>.pointer (some ⟨if k=g then J else β k,0,none⟩)) L:=(aj.2.1.own.new (zN f).drew |>.new aH).fn (fun k a hk=>by rw[if_neg (fun e=>by rw[e,ak] at hk;cases hk)])
  obtain⟨w4,al,m4,D,z4⟩:=m3.store underlying215 zo (k:=g) aO a
  replace al:(Instr.mapUpdate 215 (.map (some l)) (.int .i64 g) (.pointer (some ⟨J,0,none⟩))).run prog w3=.ok () w4:=by have e:(if g=g then J else β g)=J:=if_pos rfl;rw[<- e];exact al
  have HF:=J8 h3 G z3 m4 D z4 C M
  clear h3 k3 z3 m3 m4 z4 C M aI ak k2
  refine dQ (i:=20) zk rfl rfl (fun K r=>?_)
  go_simp
  have n3:=G.trans D
  refine r _ _ n3 ?_
  clear r K G n3 D
  try simp only[zy]
  refine wpAnyH_done zk ?_ _
  go_wp2
  go_roundw
  case rel =>
   obtain⟨h3,G,z3,m4,D,z4,C,M⟩:=HF.out
   obtain⟨hX,o,H,ah,ar,ap,aq⟩:=aj.out
   obtain⟨af,ab,ag,hL,N,hZ⟩:=O.out
   obtain⟨t,I,V,ai⟩:=aB.out
   obtain⟨q1,q2,q3⟩:=U.out
   have ac:=aA.out
   have ak:dN L g=none:=by rw[hL g,ag];rfl
   have m:b_ (fun b=>b≠l) f w4:=((b_.refl _ f).drew.trans G).trans D
   have a6:b_ (fun b=>b≠l) f.drew w4:=G.trans D
   have aU:=m.size
   have R:f.grownBy w4 (some l):=⟨m.os,m.tape,m.output,m.size,fun j hj F=>m.block j hj (fun e=>F (by rw[e]))⟩
   have am:f.heap.size<=J/\w.heap.size<=nb/\J<w3.heap.size:=⟨by first|omega|(have:=aR.1;have h9:f.drew.heap.size=f.heap.size:=rfl;omega),zo,zo⟩
   have aD:∀b,f.heap.size<=b->(s.on f.heap.size fun _=>j) b=j:=fun b hb=>Col.Qf _ _ hb
   refine⟨_,_,eN g a L,fun z=>if z=g then J else β z,fun z=>if z=g then nb else γ z,s.on f.heap.size fun _=>j,t.kept R (fun e=>by injection e with e;omega) (fun e=>by injection e with e;omega),fun kl aw=>af kl (by simp at aw;exact aw.1),H.Qd m (fun b hb _=>by omega),hX.trans (Col.Qg s f _) H.size,zo,(Col.on_old s _ zo).trans N,⟨(m.block bt' (Array.getElem?_eq_some_iff.1 o.tree).1 zo).trans o.tree,m4,fun k it' hg=>?_,⟨(Col.on_old s _ zo).trans o.col.1,(Col.on_old s _ zo).trans o.col.2⟩,fun k k' ax ay g1 S F=>?_,fun k it' hg hd=>?_⟩,fun k=>?_⟩
   ·rw[dS] at hg
    by_cases e:k=g
    ·rw[if_pos e] at hg
     injection hg with hg
     subst hg
     subst e
     rw[if_pos rfl,if_pos rfl]
     refine⟨⟨aD _ am.1,⟨A,Q,?_,ap,aq,(ar.keep m (fun b _ hd=>by have:=hd.2;omega)).imp fun b hb hd=>by rw[(hX.trans (Col.Qg s f _) H.size) b hd.2];exact hd.1⟩,fun hd=>?_,ac.bare⟩,zo,zo⟩
     ·have h5:=(D.block J am.2.2 zo).trans (C▸h3)
      rw[h5]
      rw[if_pos aC.out,M]
     exact⟨aD _ zo,M▸(aR.2.keep (aT.trans D) (by have h9:f.drew.heap.size=f.heap.size:=rfl;omega))⟩
    rw[if_neg e] at hg
    rw[if_neg e,if_neg e]
    obtain⟨g1,S,g3⟩:=o.item k it' hg
    exact⟨g1.keepB m (Col.Qg s f _) (g1.notMap o.own) (fun hd=>o.far k it' hg hd) (fun b hb hc eb=>by rw[eb,o.col.2] at hc;exact hj hc),S,g3⟩
   ·rw[dS] at g1 S
    by_cases e1:k=g
    ·have e2:¬k'=g:=fun e=>F (by rw[e1,e])
     rw[if_neg e2] at S
     rw[if_pos e1,if_neg e2,if_pos e1,if_neg e2]
     have h5:=o.item k' ay S
     have h6:=h5.1.lt
     exact⟨zo,fun _ hd=>by have:=(h5.1.names hd).2.lt;omega⟩
    rw[if_neg e1] at g1
    by_cases e2:k'=g
    ·rw[if_neg e1,if_pos e2,if_neg e1,if_pos e2]
     have h5:=o.item k ax g1
     have h6:=h5.1.lt
     exact⟨zo,fun hd _=>by have:=(h5.1.names hd).2.lt;omega⟩
    rw[if_neg e2] at S
    rw[if_neg e1,if_neg e2,if_neg e1,if_neg e2]
    exact o.inj k k' ax ay g1 S F
   ·rw[dS] at hg
    by_cases e:k=g
    ·rw[if_pos e];omega
    rw[if_neg e] at hg
    rw[if_neg e]
    exact o.far k it' hg hd
   rw[dS]
   by_cases e:k=g
   ·subst e;simp[Lit.sameKey,ab]
   rw[if_neg e,hL k]
   have:(Lit.int .i64 k).sameKey (.int .i64 g)=false:=by simp[Lit.sameKey,e]
   rw[this]
   simp
  obtain⟨h3,G,z3,m4,D,z4,C,M⟩:=HF.out
  obtain⟨t,I,V,ai⟩:=aB.out
  obtain⟨q1,q2,q3⟩:=U.out
  have hZ:=O.2.2.2.2.2
  have m:b_ (fun b=>b≠l) f w4:=((b_.refl _ f).drew.trans G).trans D
  have R:f.grownBy w4 (some l):=⟨m.os,m.tape,m.output,m.size,fun j hj F=>m.block j hj (fun e=>F (by rw[e]))⟩
  rw[(t.kept R (fun e=>by injection e with e;omega) (fun e=>by injection e with e;omega)).left_eq,V.left_eq]
  exact I
 rw[if_neg ad] at x7
 have y7:∀W,b_ (fun b=>b≠l) f.drew W->W.cell? ⟨q.β g,7,none⟩=some (.map none):=fun W B=>Y.out W B _ _ _ X x7
 have aC:=zh ad
 clear x7 aP ad
 go_wp2_with fail
 refine eu (b_ (fun b=>b≠l) f.drew) zk ?_
 have p:b_ (fun b=>b≠l) f.drew f.drew:=b_.refl _ _
 refine c_ 0 p ?_
 refine c_ 1 p ?_
 refine c_ 2 p ?_
 refine c_ 3 p ?_
 refine c_ 4 p ?_
 refine c_ 5 p ?_
 refine c_ 6 p ?_
 refine c_ 7 p ?_
 refine c_ 8 p ?_
 refine c_ 9 p ?_
 refine c_ 10 p ?_
 refine c_ 11 p ?_
 refine c_ 12 p ?_
 refine c_ 13 p ?_
 refine c_ 14 p ?_
 refine c_ 15 p ?_
 refine c_ 16 p ?_
 refine dQ (i:=17) zk rfl rfl (fun K r=>?_)
 go_simp
 refine(BT f.drew).mono ?_
 rintro e w2⟨rfl,rfl⟩
 have k2:=zN f.drew
 go_wp2_with fail
 have n1:=b_.new p k2
 refine r _ _ n1 ?_
 clear r K p
 try simp only[zy]
 refine c_ 18 n1 ?_
 refine dQ (i:=19) zk rfl rfl (fun K r=>?_)
 go_simp
 have h3:(f.alloc (.cells #[.int .i64 g,.int .i64 a.n.kind,.int .i64 a.n.links,.int .i64 a.n.size,.int .u64 a.n.till,.bool a.n.shut,.slice A a.b.length Q,.map (none)] 214)).drew.heap[f.heap.size]?=some (.cells #[.int .i64 g,.int .i64 a.n.kind,.int .i64 a.n.links,.int .i64 a.n.size,.int .u64 a.n.till,.bool a.n.shut,.slice A a.b.length Q,.map (none)] 214 (0,0)):=heap_alloc_new f (.cells #[.int .i64 g,.int .i64 a.n.kind,.int .i64 a.n.links,.int .i64 a.n.size,.int .u64 a.n.till,.bool a.n.shut,.slice A a.b.length Q,.map (none)] 214)
 have k3:New f.drew (f.alloc (.cells #[.int .i64 g,.int .i64 a.n.kind,.int .i64 a.n.links,.int .i64 a.n.size,.int .u64 a.n.till,.bool a.n.shut,.slice A a.b.length Q,.map (none)] 214)).drew:=b_.alloc (zN f.drew) _
 have z3:(f.alloc (.cells #[.int .i64 g,.int .i64 a.n.kind,.int .i64 a.n.links,.int .i64 a.n.size,.int .u64 a.n.till,.bool a.n.shut,.slice A a.b.length Q,.map (none)] 214)).drew.heap.size=f.heap.size+1:=by simp
 have G:=b_.new n1 k3
 refine r _ _ G ?_
 clear r K n1
 try simp only[zy]
 generalize (f.alloc (.cells #[.int .i64 g,.int .i64 a.n.kind,.int .i64 a.n.links,.int .i64 a.n.size,.int .u64 a.n.till,.bool a.n.shut,.slice A a.b.length Q,.map (none)] 214)).drew=w3 at *
 have aH:New f.drew w3:=k3
 obtain⟨J,C⟩:=zx (f.heap.size)
 obtain⟨nb,M⟩:=zx (f.heap.size)
 rw[<- C]
 have aI:=H0.len_le aj.2.1.own.1 (P:=fun k => !left (.int .i64 k)) (fun k=>by rw[O.2.2.2.1 k];cases left (.int .i64 k) <;> rfl)
 have ak:dN L g=none:=by rw[O.2.2.2.1 g,O.2.2.1];rfl
 have m3:fU w3 l (fun(k:Int) (_:eI)=>.pointer (some ⟨if k=g then J else β k,0,none⟩)) L:=(aj.2.1.own.new (zN f).drew |>.new aH).fn (fun k a hk=>by rw[if_neg (fun e=>by rw[e,ak] at hk;cases hk)])
 obtain⟨w4,al,m4,D,z4⟩:=m3.store underlying215 zo (k:=g) aO a
 replace al:(Instr.mapUpdate 215 (.map (some l)) (.int .i64 g) (.pointer (some ⟨J,0,none⟩))).run prog w3=.ok () w4:=by have e:(if g=g then J else β g)=J:=if_pos rfl;rw[<- e];exact al
 have HF:=J8 h3 G z3 m4 D z4 C M
 clear h3 k3 z3 m3 m4 z4 C M aI ak k2
 refine dQ (i:=20) zk rfl rfl (fun K r=>?_)
 go_simp
 have n3:=G.trans D
 refine r _ _ n3 ?_
 clear r K G n3 D
 try simp only[zy]
 refine wpAnyH_done zk ?_ _
 go_wp2
 go_roundw
 case rel =>
  obtain⟨h3,G,z3,m4,D,z4,C,M⟩:=HF.out
  obtain⟨hX,o,H,ah,ar,ap,aq⟩:=aj.out
  obtain⟨af,ab,ag,hL,N,hZ⟩:=O.out
  obtain⟨t,I,V,ai⟩:=aB.out
  obtain⟨q1,q2,q3⟩:=U.out
  have ac:=aA.out
  have ak:dN L g=none:=by rw[hL g,ag];rfl
  have m:b_ (fun b=>b≠l) f w4:=((b_.refl _ f).drew.trans G).trans D
  have a6:b_ (fun b=>b≠l) f.drew w4:=G.trans D
  have aU:=m.size
  have R:f.grownBy w4 (some l):=⟨m.os,m.tape,m.output,m.size,fun j hj F=>m.block j hj (fun e=>F (by rw[e]))⟩
  have am:f.heap.size<=J/\w.heap.size<=nb/\J<w3.heap.size:=⟨by first|omega|(have:=ai;have h9:f.drew.heap.size=f.heap.size:=rfl;omega),zo,zo⟩
  have aD:∀b,f.heap.size<=b->(s.on f.heap.size fun _=>j) b=j:=fun b hb=>Col.Qf _ _ hb
  refine⟨_,_,eN g a L,fun z=>if z=g then J else β z,fun z=>if z=g then nb else γ z,s.on f.heap.size fun _=>j,t.kept R (fun e=>by injection e with e;omega) (fun e=>by injection e with e;omega),fun kl aw=>af kl (by simp at aw;exact aw.1),H.Qd m (fun b hb _=>by omega),hX.trans (Col.Qg s f _) H.size,zo,(Col.on_old s _ zo).trans N,⟨(m.block bt' (Array.getElem?_eq_some_iff.1 o.tree).1 zo).trans o.tree,m4,fun k it' hg=>?_,⟨(Col.on_old s _ zo).trans o.col.1,(Col.on_old s _ zo).trans o.col.2⟩,fun k k' ax ay g1 S F=>?_,fun k it' hg hd=>?_⟩,fun k=>?_⟩
  ·rw[dS] at hg
   by_cases e:k=g
   ·rw[if_pos e] at hg
    injection hg with hg
    subst hg
    subst e
    rw[if_pos rfl,if_pos rfl]
    refine⟨⟨aD _ am.1,⟨A,Q,?_,ap,aq,(ar.keep m (fun b _ hd=>by have:=hd.2;omega)).imp fun b hb hd=>by rw[(hX.trans (Col.Qg s f _) H.size) b hd.2];exact hd.1⟩,fun hd=>?_,ac.bare⟩,zo,zo⟩
    ·have h5:=(D.block J am.2.2 zo).trans (C▸h3)
     rw[h5]
     rw[if_neg aC.out]
    exact absurd hd aC.out
   rw[if_neg e] at hg
   rw[if_neg e,if_neg e]
   obtain⟨g1,S,g3⟩:=o.item k it' hg
   exact⟨g1.keepB m (Col.Qg s f _) (g1.notMap o.own) (fun hd=>o.far k it' hg hd) (fun b hb hc eb=>by rw[eb,o.col.2] at hc;exact hj hc),S,g3⟩
  ·rw[dS] at g1 S
   by_cases e1:k=g
   ·have e2:¬k'=g:=fun e=>F (by rw[e1,e])
    rw[if_neg e2] at S
    rw[if_pos e1,if_neg e2,if_pos e1,if_neg e2]
    have h5:=o.item k' ay S
    have h6:=h5.1.lt
    exact⟨zo,fun _ hd=>by have:=(h5.1.names hd).2.lt;omega⟩
   rw[if_neg e1] at g1
   by_cases e2:k'=g
   ·rw[if_neg e1,if_pos e2,if_neg e1,if_pos e2]
    have h5:=o.item k ax g1
    have h6:=h5.1.lt
    exact⟨zo,fun hd _=>by have:=(h5.1.names hd).2.lt;omega⟩
   rw[if_neg e2] at S
   rw[if_neg e1,if_neg e2,if_neg e1,if_neg e2]
   exact o.inj k k' ax ay g1 S F
  ·rw[dS] at hg
   by_cases e:k=g
   ·rw[if_pos e];omega
   rw[if_neg e] at hg
   rw[if_neg e]
   exact o.far k it' hg hd
  rw[dS]
  by_cases e:k=g
  ·subst e;simp[Lit.sameKey,ab]
  rw[if_neg e,hL k]
  have:(Lit.int .i64 k).sameKey (.int .i64 g)=false:=by simp[Lit.sameKey,e]
  rw[this]
  simp
 obtain⟨h3,G,z3,m4,D,z4,C,M⟩:=HF.out
 obtain⟨t,I,V,ai⟩:=aB.out
 obtain⟨q1,q2,q3⟩:=U.out
 have hZ:=O.2.2.2.2.2
 have m:b_ (fun b=>b≠l) f w4:=((b_.refl _ f).drew.trans G).trans D
 have R:f.grownBy w4 (some l):=⟨m.os,m.tape,m.output,m.size,fun j hj F=>m.block j hj (fun e=>F (by rw[e]))⟩
 rw[(t.kept R (fun e=>by injection e with e;omega) (fun e=>by injection e with e;omega)).left_eq,V.left_eq]
 exact I
end
section
variable {w w':World}{c c':Col}{i j bt:Nat}{q q':fx}{T L:dX}{k:Int}{it it':eI}
theorem fU.put_same{κ α:Type}[KeyL κ]{f:κ->Value}{l:List (κ×α)}(h:fU w bm (fun k _=>f k) l){k:κ}{x y:α}(hg:dN l k=some x):fU w bm (fun k _=>f k) (eN k y l):=by
 obtain⟨h0,E,h1,h2⟩:=h
 refine pe h1 (fun j=>?_) h0.put
 rw[dS]
 by_cases e:j=k
 ·subst e
  rw[if_pos rfl]
  exact⟨fun h=>(by cases h),fun z _=>(h2 j).2 x hg⟩
 rw[if_neg e];exact h2 j
theorem ea.keepOther(h:ea w c i bt q T)(hk:b_ F w w'){k':Int}{it2:eI}(hg:dN T k'=some it2)(hb:F (q.β k'))(hn:it2.n.kind=2->F (q.γ k'))(h0:∀b,b<w.heap.size->c b=0->F b):i_ w' c i (q.β k') (q.γ k') k' it2 :=
 (h.item k' it2 hg).keepB hk (Ext.refl _ _) hb hn h0
theorem ea.setNames(h:ea w c i bt q T)(hi:i≠0)(hg:dN T k=some it)(hd:it.n.kind=2){l:List (List UInt8×Int)}(hk:b_ (fun b=>b≠q.γ k) w w')(hn:mf w' (q.γ k) l):ea w' c i bt q (eN k { it with names:=l } T):=by
 have hc:=(h.item k it hg).names hd
 have h0:∀b,b<w.heap.size->c b=0->b≠q.γ k:=fun b _ hb e=>by rw[e,hc.1] at hb;exact hi hb
 have m:∀f d,dN T f=some d->q.β f≠q.γ k:=fun f d a=>(h.item f d a).notMap hc.2
 refine⟨(hk.block bt h.ltT ?_).trans h.tree,(h.own.keep hk (Ne.symm (h.far k it hg hd))).put_same hg,fun f d a=>?_,h.col,fun u v C D g1 o p=>?_,fun f d a g=>?_⟩
 ·intro e
  obtain⟨_,E,⟨F,t,hm,_⟩,_⟩:=hc.2
  have:=h.tree
  rw[e,hm] at this
  injection this with this
  cases this
 ·rw[dS] at a
  by_cases e:f=k
  ·rw[if_pos e] at a
   injection a with a
   subst a
   subst e
   have hb:=h.item f it hg
   obtain⟨A,x,h1,h2,h3,y⟩:=hb.cells
   exact⟨hb.col,⟨A,x,(hk.block _ hb.lt (m _ _ hg)).trans h1,h2,h3,y.keep hk fun b r hd=>h0 b r hd⟩,fun _=>⟨hc.1,hn⟩,fun s=>absurd hd s⟩
  rw[if_neg e] at a
  exact h.keepOther hk a (m _ _ a) (fun g=>((h.inj f k d it a hg e).2 g hd)) h0
 ·rw[dS] at g1 o
  have key:∀ {f:Int} {d:eI},(if f=k then some { it with names:=l } else dN T f)=some d->∃j,dN T f=some j/\j.n=d.n:=fun {f d} hh=>by
   by_cases e:f=k
   ·rw[if_pos e] at hh
    injection hh with hh
    exact⟨it,by rw[e];exact hg,by rw[<- hh]⟩
   rw[if_neg e] at hh;exact⟨d,hh,rfl⟩
  obtain⟨z,g3,e3⟩:=key g1
  obtain⟨B,g4,e4⟩:=key o
  have:=h.inj u v z B g3 g4 p
  rw[e3,e4] at this
  exact this
 rw[dS] at a
 by_cases e:f=k
 ·rw[e];exact h.far k it hg hd
 rw[if_neg e] at a;exact h.far f d a g
theorem ea.setItem(h:ea w c i bt q T)(hi:i≠0)(hg:dN T k=some it)(hkd:it'.n.kind=it.n.kind)(hnm:it'.names=it.names)(hk:b_ (fun b=>b≠q.β k) w w')(hx:Ext w c c')(hc:∃A cp,w'.heap[q.β k]?=some (.cells #[.int .i64 k,.int .i64 it'.n.kind,.int .i64 it'.n.links,.int .i64 it'.n.size,.int .u64 it'.n.till,.bool it'.n.shut,.slice A it'.b.length cp,.map (if it'.n.kind=2 then some (q.γ k) else none)] 214 (0,0)) /\
 it'.b.length<=cp/\cp<=9223372036854775807/\Bs w' (fun b=>c' b=0) A it'.b.length it'.b):ea w' c' i bt q (eN k it' T):=by
 have hI:=h.item k it hg
 have g:=hI.col
 obtain⟨y,x,l,_⟩:=hI.cells
 have h0:∀b,b<w.heap.size->c b=0->b≠q.β k:=fun b _ hb e=>by rw[e,g] at hb;exact hi hb
 have p:∀f d,dN T f=some d->d.n.kind=2->q.γ f≠q.β k:=fun f d a hd=>Ne.symm (hI.notMap ((h.item f d a).names hd).2)
 refine⟨(hk.block bt h.ltT ?_).trans h.tree,(h.own.keep hk (Ne.symm (hI.notMap h.own))).put_same hg,fun f d a=>?_,⟨(hx _ h.ltT).trans h.col.1,(hx _ h.ltM).trans h.col.2⟩,fun s t z B g1 j r=>?_,fun f d a m=>?_⟩
 ·intro e
  have:=h.tree
  rw[e,l] at this
  injection this with this
  injection this with _ ht
  exact absurd ht Zd
 ·rw[dS] at a
  by_cases e:f=k
  ·rw[if_pos e] at a
   injection a with a
   subst a
   subst e
   refine⟨(hx _ hI.lt).trans g,hc,fun hd=>?_,fun hd=>by rw[hnm];exact hI.bare (by rw[<- hkd];exact hd)⟩
   rw[hkd] at hd
   obtain⟨g1,j⟩:=hI.names hd
   rw[hnm]
   exact⟨(hx _ j.lt).trans g1,j.keep hk (p _ _ hg hd)⟩
  rw[if_neg e] at a
  exact(h.item f d a).keepB hk hx ((h.inj f k d it a hg e).1) (p _ _ a) h0
 ·rw[dS] at g1 j
  have key:∀ {f:Int} {d:eI},(if f=k then some it' else dN T f)=some d->∃o,dN T f=some o/\o.n.kind=d.n.kind:=fun {f d} hh=>by
   by_cases e:f=k
   ·rw[if_pos e] at hh
    injection hh with hh
    exact⟨it,by rw[e];exact hg,by rw[<- hh,hkd]⟩
   rw[if_neg e] at hh;exact⟨d,hh,rfl⟩
  obtain⟨u,g3,e3⟩:=key g1
  obtain⟨v,g4,e4⟩:=key j
  have:=h.inj s t u v g3 g4 r
  rw[e3,e4] at this
  exact this
 rw[dS] at a
 by_cases e:f=k
 ·rw[if_pos e] at a
  injection a with a
  rw[e]
  exact h.far k it hg (by rw[<- hkd,a];exact m)
 rw[if_neg e] at a;exact h.far f d a m
theorem ea.del(h:ea w c i bt q T)(hi:i≠0)(hk:b_ (fun b=>b≠q.bm) w w')(hm:fU w' q.bm (fun(k:Int) (_:eI)=>.pointer (some ⟨q.β k,0,none⟩)) (jv k T)):ea w' c i bt q (jv k T):=by
 have sub:∀ {d:Int} {a:eI},dN (jv k T) d=some a->dN T d=some a:=fun {d a} hh=>by
  rw[gi] at hh
  split at hh
  ·cases hh
  exact hh
 have h0:∀b,b<w.heap.size->c b=0->b≠q.bm:=fun b _ hb e=>by rw[e,h.col.2] at hb;exact hi hb
 refine⟨(hk.block bt h.ltT ?_).trans h.tree,hm,fun d a f=>h.keepOther hk (sub f) ((h.item d a (sub f)).notMap h.own) (fun hd=>h.far d a (sub f) hd) h0,h.col,fun m n o p g1 r g=>h.inj m n o p (sub g1) (sub r) g,fun d a f j=>h.far d a (sub f) j⟩
 intro e
 obtain⟨_,E,⟨s,l,hm,_⟩,_⟩:=h.own
 have:=h.tree
 rw[e,hm] at this
 injection this with this
 cases this
end
theorem vr{β:Type}{es:List (Lit×β)}(h:es.Pairwise fun p q=>p.1≠q.1){p q:Lit×β}(hp:p∈es)(hq:q∈es)(e:p.1=q.1):p=q:=by
 induction es with
 | nil=>cases hp
 | cons a r ih =>
  have h1:=List.pairwise_cons.1 h
  rcases List.mem_cons.1 hp with c|c
  ·rcases List.mem_cons.1 hq with b|b
   ·rw[c,b]
   exact absurd (c▸e) (h1.1 _ b)
  rcases List.mem_cons.1 hq with b|b
  ·exact absurd (b▸e).symm (h1.1 _ c)
  exact ih h1.2 c b
section
variable {κ α:Type} [KeyL κ] {w w':World}{bm:Nat}{f:κ->α->Value}{l:List (κ×α)}{E:DataW Value}
theorem qO{k:κ}(h:∀x,(k,x)∉l):dN l k=none:=by
 cases hg:dN l k with
 | none=>rfl
 | some x=>exact absurd (fC hg) (h x)
theorem wR(hr:ee l)(P:κ->α->Bool)(k:κ):dN (l.filter fun p=>P p.1 p.2) k=match dN l k with|none=>none|some x=>if P k x then some x else none:=by
 cases hg:dN l k with
 | none =>
  exact qO fun x b=>by
   have:=hr.get ((List.mem_filter.1 b).1)
   rw[hg] at this;cases this
 | some x =>
  dsimp only
  by_cases a:P k x=true
  ·rw[if_pos a]
   exact(hr.filter _).get (List.mem_filter.2 ⟨fC hg,a⟩)
  rw[if_neg a]
  exact qO fun y hy=>by
   have h1:=hr.get ((List.mem_filter.1 hy).1)
   rw[hg] at h1
   injection h1 with h1
   subst h1
   exact a (List.mem_filter.1 hy).2
theorem uT(hown:w.ownsMap prog (KeyL.kt κ) im bm n E)(hs:oh E f l)(hr:ee l){pd:Lit->DataW Value->Bool}{P:κ->α->Bool}(hp:∀k x,dN l k=some x->pd (KeyL.lit k) (.held (f k x))=P k x):
  oh (Lib.deleteFuncD pd E) f (l.filter fun p => !P p.1 p.2):=by
 obtain⟨m,rfl,t,_⟩:=hown.entries KeyL.keyed
 have d:∀ {p q:Lit×DataW Value} {k:κ},p∈m->q∈m->p.1.sameKey (KeyL.lit k)=true->q.1.sameKey (KeyL.lit k)=true->p=q:=fun {p q k} h1 h2 h3 v=>by
  have e:p.1=q.1:=(WideAt.sameKey_eq h3).trans (WideAt.sameKey_eq v).symm
  exact vr t h1 h2 e
 show oh (.map (m.filter fun p => !pd p.1 p.2)) f _
 intro k
 have b:=wR hr (fun k x => !P k x) k
 cases hg:dN l k with
 | none =>
  rw[hg] at b
  rw[b]
  refine⟨fun _=>?_,fun x z=>by cases z⟩
  have h1:=(hs k).1 hg
  rw[Maps.has_eq,List.any_eq_false] at h1 ⊢
  exact fun p hp=>h1 p ((List.mem_filter.1 hp).1)
 | some x =>
  rw[hg] at b
  dsimp only at b
  obtain⟨h1,h2⟩:=(hs k).2 x hg
  rw[Maps.has_eq,List.any_eq_true] at h1
  obtain⟨i,g,c⟩:=h1
  have o:i.2=.held (f k x):=by
   have:=h2 .nil
   unfold DataW.atKey at this
   dsimp only at this
   split at this
   ·rename_i A a
    have:=d (k:=k) g (List.mem_of_find?_eq_some a) c (by simpa using List.find?_some a)
    rw[this];assumption
   rename_i a
   rw[List.find?_eq_none] at a
   exact absurd c (a i g)
  have j:pd i.1 i.2=P k x:=by rw[WideAt.sameKey_eq c,o];exact hp k x hg
  cases hP:P k x with
  | true =>
   rw[hP] at b j
   rw[b]
   refine⟨fun _=>?_,fun y hy=>by cases hy⟩
   rw[Maps.has_eq,List.any_eq_false]
   intro p r u
   have:=d (k:=k) ((List.mem_filter.1 r).1) g u c
   have h3:=(List.mem_filter.1 r).2
   rw[this,j] at h3
   cases h3
  | false =>
   rw[hP] at b j
   rw[b]
   refine⟨fun h=>(by cases h),fun y hy=>?_⟩
   have hy:x=y:=by simpa using hy
   subst hy
   have s:i∈m.filter fun p => !pd p.1 p.2:=List.mem_filter.2 ⟨g,by rw[j];rfl⟩
   refine⟨by rw[Maps.has_eq,List.any_eq_true];exact⟨i,s,c⟩,fun zd=>?_⟩
   unfold DataW.atKey
   dsimp only
   split
   ·rename_i A a
    have:=d (k:=k) g (List.mem_filter.1 (List.mem_of_find?_eq_some a)).1 c (by simpa using List.find?_some a)
    rw[<- this];exact o
   rename_i a
   rw[List.find?_eq_none] at a
   exact absurd c (a i s)
def DY(v:Value):Option (DataW Value×List MemPlace):=match v with|.int .i64 k=>some (.held (.int .i64 k),[])|_=>none
theorem vF{z:DataW Value×List MemPlace}(h:DY v=some z):im v=some z/\∃k,v=.int .i64 k/\z=(.held (.int .i64 k),[]):=by
 unfold DY at h
 split at h
 ·rename_i k
  injection h with h
  subst h
  exact⟨rfl,k,rfl,rfl⟩
 cases h
theorem GX{l:List (κ×Int)}(hown:w.ownsMap prog (KeyL.kt κ) im bm n E)(hs:oh E (fun _ id=>.int .i64 id) l)(_hr:ee l):w.ownsMap prog (KeyL.kt κ) DY bm n E:=by
 obtain⟨g,j,q,_⟩:=hown.entries KeyL.keyed
 obtain⟨m,d,hb,r,hn,o⟩:=hown
 have s:g=(m.toList.map (WideElems.rg prog (KeyL.kt κ) im)).foldr DataW.insert []:=by rw[j] at o;injection o
 have t:∀x∈m.toList,∀z,im x.val=some z->DY x.val=some z:=fun x u z hz=>by
  obtain⟨y,hy⟩:=r.reads x u
  obtain⟨C,v,A⟩:=WideElems.rd_val hy
  obtain rfl:z=C:=Option.some.inj (hz.symm.trans v)
  have b:y∈g:=by
   rw[s,mem_sorted]
   exact List.mem_map.2 ⟨x,u,WideElems.rg_of hy⟩
  obtain⟨k,hk⟩:=KeyL.lits (WideElems.rd_key hy)
  have e:y.1.sameKey (KeyL.lit k)=true:=by rw[hk];exact KeyL.same k
  have c:Maps.has E (KeyL.lit k)=true:=by rw[j,Maps.has_eq,List.any_eq_true];exact⟨y,b,e⟩
  obtain⟨id,B⟩:∃id,dN l k=some id:=by
   cases hg:dN l k with
   | none=>rw[(hs k).1 hg] at c;cases c
   | some id=>exact⟨id,rfl⟩
  have a:=((hs k).2 id B).2 .nil
  rw[j] at a
  unfold DataW.atKey at a
  dsimp only at a
  have f:y.2=.held (.int .i64 id):=by
   split at a
   ·rename_i D h
    have h3:D.1.sameKey (KeyL.lit k)=true:=by simpa using List.find?_some h
    have:=vr q b (List.mem_of_find?_eq_some h) (by rw[WideAt.sameKey_eq h3,hk])
    rw[this];exact a
   cases a
  have i:z=(.held x.val,[]):=Option.some.inj (hz.symm.trans (show im x.val=some (.held x.val,[]) from rfl))
  rw[A,i] at f
  have f:x.val=.int .i64 id:=DataW.held.inj f
  rw[i,f]
  rfl
 obtain⟨F,p,_⟩:=r.stay t
 exact⟨m,d,hb,F,hn,by rw[p];exact o⟩
theorem Fc{k:TypeId}(h:w.ownsMap prog k DY bm n E):w.ownsMap prog k im bm n E:=by
 obtain⟨c,a,hb,d,hn,e⟩:=h
 obtain⟨f,b,_⟩:=d.stay (R':=im) fun x _ z hz=>(vF hz).1
 exact⟨c,a,hb,f,hn,by rw[b];exact e⟩
end
theorem CM(w:World):(zeroValue 209).run prog w=.ok (.pointer none) w:=by kernel_rfl
theorem qt(w:World):(zeroValue 3).run prog w=.ok (.int .i64 0) w:=by kernel_rfl
def ig(T:dX)(id:Int):Int:=match dN T id with|none=>20|some it=>if it.n.kind=2 then 22 else 0
section
variable {w w':World}{c c':Col}{i j bt:Nat}{q q':fx}{T L:dX}
theorem ea.look(h:ea w c i bt q T){id:Int}(h0 : -9223372036854775808<=id)(h1:id<=9223372036854775807):
  (Instr.lookup 215 (.map (some q.bm)) (.int .i64 id) true).run prog w=.ok (.tuple #[(dN T id).elim (.pointer none) (fun _=>.pointer (some ⟨q.β id,0,none⟩)),.bool (dN T id).isSome]) w /\
  (Instr.lookup 215 (.map (some q.bm)) (.int .i64 id) false).run prog w=.ok ((dN T id).elim (.pointer none) (fun _=>.pointer (some ⟨q.β id,0,none⟩))) w :=
 h.own.look underlying215 (CM w) (wf0 h0 h1)
theorem qU(h:ea w c i bt q T)(id:Int)(h0 : -9223372036854775808<=id)(h1:id<=9223372036854775807):
  Calls prog 200 #[.pointer (some ⟨bt,0,none⟩),.int .i64 id] w fun e w'=>e=.returned (.tuple #[.pointer (if ig T id=0 then some ⟨q.β id,0,none⟩ else none),.int .i64 (ig T id)])/\w=w':=by
 have a:=(h.look h0 h1).1
 have g:w.cell? ⟨bt,0,none⟩=some (.map (some q.bm)):=a_ h.tree (k:=0) rfl
 unfold ig
 cases hg:dN T id with
 | none =>
  rw[hg] at a
  simp only[Option.elim_none,Option.isSome_none] at a
  clear h hg
  go_in
  go_wp2
  refine Zb (.tuple #[.pointer none,.int .i64 20]) (by simp[results,results200,go_sem]) ?_
  exact⟨rfl,rfl⟩
 | some b =>
  rw[hg] at a
  simp only[Option.elim_some,Option.isSome_some] at a
  have hi:=h.item id b hg
  obtain⟨A,j,_,d,_⟩:=gj hi
  clear h hg
  by_cases hk:b.n.kind=2
  ·rw[hk] at d
   simp only[if_pos hk]
   clear hk
   go_in
   go_wp2
   refine Zb (.tuple #[.pointer none,.int .i64 22]) (by simp[results,results200,go_sem]) ?_
   exact⟨rfl,rfl⟩
  have f:(b.n.kind==2)=false:=beq_eq_false_iff_ne.2 hk
  simp only[if_neg hk]
  clear hk
  go_in
  go_wp2
  refine Zb (.tuple #[.pointer (some ⟨q.β id,0,none⟩),.int .i64 0]) (by simp[results,results200,go_sem]) ?_
  exact⟨rfl,rfl⟩
theorem zi(h:ea w c i bt q T)(id:Int)(h0 : -9223372036854775808<=id)(h1:id<=9223372036854775807)(he:ig T id≠0\/∃it,dN T id=some it/\it.n.shut=true):
  Calls prog 104 #[.pointer (some ⟨bt,0,none⟩),.int .i64 id] w fun e w'=>(∃k,e=.returned (.int .i64 k))/\New w w':=by
 have a:=(zN w).alloc (.cells #[.int .i64 id] 3)
 have b:=heap_alloc_new w (.cells #[.int .i64 id] 3)
 have d:=zh<|qU (h.new a) id h0 h1
 by_cases hf:ig T id=0
 ·obtain⟨it,hg,hs⟩:∃it,dN T id=some it/\it.n.shut=true:=he.resolve_left (fun q=>q hf)
  rw[hf] at d
  have hi:=(h.new a).item id it hg
  obtain⟨A,p,_,_,_,_,_,j,_⟩:=gj hi
  rw[hs] at j
  have f:=zh a
  clear h hi a he
  go_in
  go_upto_region 1 with fail
  generalize w.alloc (.cells #[.int .i64 id] 3)=g at *
  have l:g.cell? ⟨w.heap.size,0,none⟩=some (.int .i64 id):=a_ b rfl
  clear b
  go_wp2_with fail
  refine d.mono ?_
  rintro e m⟨rfl,rfl⟩
  go_wp2
  go_ret
  exact⟨⟨_,rfl⟩,f.out⟩
 rw[if_neg hf] at d
 have o:(ig T id !=0)=true:=bne_iff_ne.2 hf
 have f:=zh a
 clear h a he hf
 go_in
 go_upto_region 1 with fail
 generalize w.alloc (.cells #[.int .i64 id] 3)=g at *
 have l:g.cell? ⟨w.heap.size,0,none⟩=some (.int .i64 id):=a_ b rfl
 clear b
 go_wp2_with fail
 refine d.mono ?_
 rintro e m⟨rfl,rfl⟩
 go_wp2
 go_ret
 exact⟨⟨_,rfl⟩,f.out⟩
end
open Go.RowKit Go.Shelf
def gP(id:Int)(it:eI):eI:={ it with names:=it.names.filter fun p => !decide (p.2=id) }
def JE(id:Int):Lit->DataW Value->Bool:=fun _ d=>match d with|.held (.int .i64 k)=>decide (k=id)|_=>false
section
variable {w w':World}{c c':Col}{i j bt nb B:Nat}{q q':fx}{T L:dX}
theorem Em(nm:Value)(k id:Int)(h:w.cell? ⟨B,0,none⟩=some (.int .i64 id)):Calls prog 202 #[nm,.int .i64 k,.pointer (some ⟨B,0,none⟩)] w fun e w'=>e=.returned (.bool (decide (k=id)))/\w=w':=by
 go_in
 go_wp2
 go_ret
 refine⟨?_,rfl⟩
 show Ending.returned (Value.bool (k==id))=_
 congr 2
theorem F9{l:List (List UInt8×Int)}(h:mf w nb l)(id:Int)(hB:w.heap[B]?=some (.cells #[.int .i64 id] 3 (0,0))):
  Calls prog 201 #[.map (some nb),.func (.func 202) #[] #[.pointer (some ⟨B,0,none⟩)]] w fun e w'=>e=.returned (.tuple #[])/\mf w' nb (l.filter fun p => !decide (p.2=id))/\b_ (fun b=>b≠nb) w w':=by
 obtain⟨h0,E,h1,h2⟩:=h
 have a:B≠nb:=by
  obtain⟨n,c,hm,_⟩:=h1
  intro e
  rw[e,hm] at hB
  injection hB with hB
  cases hB
 refine(AnyDf.maps_DeleteFunc I7 FI DY (JE id) 202 #[.pointer (some ⟨B,0,none⟩)] nb l.length E w (enters_of func202 zk rfl) (GX h1 h2 h0) ?_).mono ?_
 ·intro W key val o d f hg g i
  have hc:W.cell? ⟨B,0,none⟩=some (.int .i64 id):=by
   have:=hg.block B (Zl hB) (fun e=>a (by injection e))
   exact a_ (this.trans hB) (k:=0) rfl
  obtain⟨_,k,rfl,hz⟩:=vF i
  obtain⟨rfl,_⟩:d=.held (.int .i64 k)/\f=[]:=by simpa using hz
  refine(Em key k id hc).mono ?_
  rintro e q⟨he,rfl⟩
  exact⟨he,World.grownBy.refl _ _⟩
 rintro e w'⟨he,m,hg⟩
 refine⟨he,pe (Fc m) ?_ (h0.filter _),⟨hg.os,hg.tape,hg.output,hg.size,fun j hj hd=>hg.block j hj (fun e=>hd (by injection e))⟩⟩
 exact uT h1 h2 h0 (P:=fun _ x=>decide (x=id)) fun k x _=>rfl
def qV(id:Int)(T:dX):dX:=jv id (T.map fun p=>(p.1,gP id p.2))
theorem mx{κ α β:Type}[Ord2 κ](g:α->β):∀(l:List (κ×α)) (k:κ),dN (l.map fun p=>(p.1,g p.2)) k=(dN l k).map g
 | [],_=>rfl
 | (a,x)::r,k=>by
  show(if a=k then some (g x) else dN (r.map fun p=>(p.1,g p.2)) k)=(if a=k then some x else dN r k).map g
  rw[mx g r k]
  split <;> rfl
theorem ee.map{κ α β:Type}[Ord2 κ]{l:List (κ×α)}(h:ee l)(g:α->β):ee (l.map fun p=>(p.1,g p.2)):=List.pairwise_map.2 h
theorem BJ(fv:Value)(w:World):Calls prog 201 #[.map none,fv] w fun e w'=>e=.returned (.tuple #[])/\New w w' :=
 (AnyDf.maps_DeleteFunc_nil I7 fv w).mono fun e w' ⟨he,hw⟩=>⟨he,by rw[hw];exact(zN w).alloc _⟩
theorem El(h:ea w c i bt q T)(hi:i≠0)(h0 : -9223372036854775808<=id)(h1:id<=9223372036854775807)(hg:dN T id=some it)(hkd:it.n.kind≠2)(hs:it.n.shut=false):
  Calls prog 104 #[.pointer (some ⟨bt,0,none⟩),.int .i64 id] w fun e w'=>e=.returned (.int .i64 0)/\b_ (fun b=>b<w.heap.size/\c b≠i) w w'/\∃c',Ext w c c'/\ea w' c' i bt q (qV id T):=by
 obtain⟨c1,ah⟩:=zx (c.on w.heap.size fun _=>i+1)
 have N:Ext w c c1:=by rw[ah];exact Col.Qg c w _
 have ai:∀b,w.heap.size<=b->c1 b=i+1:=fun b hb=>by rw[ah];exact Col.Qf _ _ hb
 have k1:=(zN w).alloc (.cells #[.int .i64 id] 3)
 have x1:=heap_alloc_new w (.cells #[.int .i64 id] 3)
 have hf:ig T id=0:=by unfold ig;rw[hg];exact if_neg hkd
 have HF:=zh<|qU (h.new k1) id h0 h1
 rw[hf] at HF
 have Z:ea (w.alloc (.cells #[.int .i64 id] 3)) c1 i bt q T:=h.keep k1 N fun _ _ _=>trivial
 obtain⟨A,cp,_,_,_,_,_,x5,_⟩:=gj (Z.item id it hg)
 rw[hs] at x5
 have HC:=J2 N ai
 have HK:=zh k1
 clear h k1 hf ah N ai hg hkd hs
 go_in
 go_upto_region 1 with fail
 have z1:Hid ((w.alloc (.cells #[.int .i64 id] 3)).heap.size=w.heap.size+1):=zh (by simp)
 obtain⟨B,hB⟩:=zx (w.heap.size)
 rw[<- hB] at x1 ⊢
 generalize w.alloc (.cells #[.int .i64 id] 3)=z at *
 have c0:z.cell? ⟨B,0,none⟩=some (.int .i64 id):=a_ x1 rfl
 have cT:z.cell? ⟨bt,0,none⟩=some (.map (some q.bm)):=a_ Z.tree (k:=0) rfl
 obtain⟨am,E,ar,hsh⟩:=Z.own
 have av:=zh Z
 have HS:=zh hsh
 have aw:=zh am
 have aj:=zh x1
 replace hB:=zh hB
 clear Z hsh am x1
 go_wp2_with fail
 refine HF.mono ?_
 rintro e w2⟨rfl,rfl⟩
 go_wp2_with (first
  | (at_range;refine wpList_range_own _ rfl _ 215 rfl 3 209 qL underlying215 _ q.bm T.length _ rfl ar ?_;intro w0 au ax ak)
  | fail)
 replace ak:=zh ak
 go_frame
 go_loopw [] (fun wr=>∃(left:Lit->Bool) (an:Nat) (L:dX),wr.ranges prog 3 im q.bm z.heap.size T.length E left an/\(∀kl,left kl=true->Maps.has E kl=true)/\b_ (fun b=>c1 b≠i/\b<z.heap.size) z wr/\z.heap.size<wr.heap.size/\ea wr c1 i bt q L /\
   ∀k,dN L k=(dN T k).map fun it=>if left (.int .i64 k) then it else gP id it)
  (fun wr=>wr.rangeLeft q.bm z.heap.size)
 case atStart =>
  have kk:=pm ax (fun k e=>by cases e)
  refine⟨_,_,T,au,fun _ h=>h,b_.Qe kk,by have:=ak.out;omega,av.new kk,fun k=>?_⟩
  cases hg:dN T k with
  | none=>rfl
  | some f=>rw[Option.map_some,show Maps.has E (.int .i64 k)=true from((HS.out k).2 f hg).1];rfl
 obtain⟨left,an,L,s,t,P,V,I,d⟩:=hrel
 have HR:=J4 P V I d
 have cT:wr.cell? ⟨bt,0,none⟩=some (.map (some q.bm)):=a_ I.tree (k:=0) rfl
 have c0:wr.cell? ⟨B,0,none⟩=some (.int .i64 id):=P.Qb c0 ⟨by rw[HC.2 B (by rw[hB.out];exact Nat.le_refl _)];omega,by have:=z1.out;have:=hB.out;show B<z.heap.size;omega⟩
 go_wp2_with (first
  | (at_next;refine wpList_next_ranges _ rfl _ rfl 3 qL im (Value.int .i64) (fun c:Value=>c) (fun key kl X=>by obtain⟨x,rfl,_⟩:=Maps.keyOf_int_inv underlying3 X;exact⟨x,rfl⟩) (fun v y hv=>⟨v,rfl⟩) q.bm z.heap.size T.length _ _ _ rfl s ?_ ?_)
  | fail)
 ·intro _ ay
  have hm:=(I.own.new ((zN wr).drew)).drop underlying215 (wf0 h0 h1)
  obtain⟨w9,al,m9,k9,z9⟩:=hm
  have aF:∀ty,(Builtin.delete_ #[215,3] ty #[.map (some q.bm),.int .i64 id]).run prog wr.drew=.ok (.tuple #[]) w9:=al
  have yT:∀W,b_ (fun b=>b≠q.bm) wr.drew W->W.cell? ⟨bt,0,none⟩=some (.map (some q.bm)):=fun W hW=>((b_.refl _ wr).drew.trans hW).Qb cT (by
   intro e
   have e:bt=q.bm:=e
   obtain⟨_,E,⟨es,aG,hm,_⟩,_⟩:=I.own
   have:=I.tree
   rw[e,hm] at this
   injection this with this
   cases this)
  have yB:∀W,b_ (fun b=>b≠q.bm) wr.drew W->W.cell? ⟨B,0,none⟩=some (.int .i64 id):=fun W hW=>((b_.refl _ wr).drew.trans hW).Qb c0 (by
   intro e
   have e:B=q.bm:=e
   have h2:=I.col.2
   rw[<- e,HC.2 B (by rw[hB.out];exact Nat.le_refl _)] at h2
   omega)
  have az:=J2 m9 k9
  have aA:=zh ay
  clear al m9 z9 P V I d s t cT c0
  go_wp2_with fail
  refine eu (b_ (fun b=>b≠q.bm) wr.drew) zk ?_
  have n0:b_ (fun b=>b≠q.bm) wr.drew wr.drew:=b_.refl _ _
  refine c_ 0 n0 ?_
  refine c_ 1 n0 ?_
  refine c_ 2 n0 ?_
  refine c_ 3 n0 ?_
  refine c_ 4 n0 ?_
  refine dQ (i:=5) zk rfl rfl (fun K P=>?_)
  go_simp
  refine P _ _ k9 ?_
  clear P K n0 k9
  try simp only[zy]
  refine wpAnyH_done zk ?_ _
  go_wp2
  go_ret
  obtain⟨P,V,I,d⟩:=HR.out
  obtain⟨m9,k9⟩:=az.out
  obtain⟨N,ai⟩:=HC.out
  have aB:L=T.map fun p=>(p.1,gP id p.2):=I.own.1.ext (aw.map _) fun k=>by
   rw[d k,mx]
   congr 1
   funext it
   rw[aA.out]
   rfl
  have aI:=z1.out
  refine⟨rfl,?_,c1,N,?_⟩
  ·refine((b_.Qe (D:=fun b=>b<w.heap.size/\c b≠i) HK.out).Qd P fun b hb hd=>?_).Qd ((b_.refl _ wr).drew.trans k9) fun b hb hd e=>?_
   ·have h1:c1 b=c b:=N b hd.1
    exact⟨by show c1 b≠i;rw[h1];exact hd.2,by show b<z.heap.size;omega⟩
   have h1:c1 b=c b:=N b hd.1
   rw[e,I.col.2] at h1
   rw[e] at hd
   exact hd.2 h1.symm
  have:=ea.del (I.new (zN wr).drew) hi k9 m9
  rw[aB] at this
  exact this
 intro x cv kl y ps Y aH X F Q ao m r R aC ap
 obtain⟨g,ex,rfl,aJ⟩:=Maps.keyOf_int_inv underlying3 X
 obtain rfl:g=x:=by injection ex with _ e;exact e.symm
 have hy:y=.held cv:=by injection Q with Q;injection Q with Q;exact Q.symm
 subst hy
 have ae:=t _ F
 obtain⟨f,u⟩:∃it,dN T g=some it:=by
  cases hg:dN T g with
  | none=>have:=(HS.out g).1 hg;rw[show(KeyL.lit g:Lit)=.int .i64 g from rfl] at this;rw[this] at ae;cases ae
  | some it=>exact⟨it,rfl⟩
 have aD:cv=.pointer (some ⟨q.β g,0,none⟩):=by
  have:=(ao .nil).symm.trans (((HS.out g).2 f u).2 .nil)
  injection this
 subst aD
 have o:dN L g=some f:=by rw[d g,u,Option.map_some,F];rfl
 have G:c1 z.heap.size=i+1:=HC.2 _ (by have:=z1.out;omega)
 have af:b_ (fun b=>b≠z.heap.size) wr Y:=⟨R.os,R.tape,R.output,R.size,fun j hj hd=>R.block j hj (fun e=>hd (by injection e))⟩
 have S:=af.size
 have l:ea Y c1 i bt q L:=I.keep af (Ext.refl _ _) (fun b hb hc e=>by rw[e,G] at hc;omega)
 have H:b_ (fun b=>c1 b≠i/\b<z.heap.size) z Y:=P.Qd af fun b hb hd=>by have:=hd.2;show b≠z.heap.size;omega
 have U:Y.heap[B]?=some (.cells #[.int .i64 id] 3 (0,0)):=(H.block B (Array.getElem?_eq_some_iff.1 aj.out).1 ⟨by rw[HC.2 B (by rw[hB.out];exact Nat.le_refl _)];omega,(Array.getElem?_eq_some_iff.1 aj.out).1⟩).trans aj.out
 obtain⟨A2,aK,_,_,_,_,_,_,_,x7,_⟩:=gj (l.item g f o)
 have O:=zh<|za m (za r (za s (za S (za l (za H (za U (za o (za u (za F (za t (za d (za V G))))))))))))
 clear m r R aC ao X Q ae s t P V I d af S l H U o u F G
 by_cases J:f.n.kind=2
 ·rw[if_pos J] at x7
  have M:=zh J
  clear J
  go_wp2_with fail
  have aq:=zh<|F9 ((O.2.2.2.2.1.item g f O.2.2.2.2.2.2.2.1).names M.out).2 id O.2.2.2.2.2.2.1
  refine aq.mono ?_
  rintro e w4⟨rfl,aa,a⟩
  have ab:=J2 aa a
  clear aa a x7 ap aq
  go_wp2
  go_roundw
  case rel =>
   obtain⟨m,r,s,S,l,H,U,o,u,F,t,d,V,G⟩:=O.out
   obtain⟨aa,a⟩:=ab.out
   have ag:=((l.item g f o).names M.out).1
   have C:Y.grownBy w4 (some (q.γ g)):=⟨a.os,a.tape,a.output,a.size,fun j hj ac=>a.block j hj (fun e=>ac (by rw[e]))⟩
   have aE:=a.size
   refine⟨_,_,eN g { f with names:=f.names.filter fun p => !decide (p.2=id) } L,m.kept C (fun e=>l.far g f o M.out (by injection e with e;exact e.symm)) (fun e=>by injection e with e;rw[e,ag] at G;omega),fun kl ad=>t kl (by simp at ad;exact ad.1),H.Qd a (fun b hb hd e=>by rw[e] at hd;exact hd.1 ag),zo,l.setNames hi o M.out a aa,fun k=>?_⟩
   rw[dS]
   by_cases e:k=g
   ·subst e
    rw[if_pos rfl,u,Option.map_some]
    simp[Lit.sameKey,gP]
   rw[if_neg e,d k]
   have:(Lit.int .i64 k).sameKey (.int .i64 g)=false:=by simp[Lit.sameKey,e]
   rw[this]
   simp
  obtain⟨m,r,s,S,l,H,U,o,u,F,t,d,V,G⟩:=O.out
  obtain⟨aa,a⟩:=ab.out
  have ag:=((l.item g f o).names M.out).1
  have C:Y.grownBy w4 (some (q.γ g)):=⟨a.os,a.tape,a.output,a.size,fun j hj ac=>a.block j hj (fun e=>ac (by rw[e]))⟩
  rw[(m.kept C (fun e=>l.far g f o M.out (by injection e with e;exact e.symm)) (fun e=>by injection e with e;rw[e,ag] at G;omega)).left_eq,s.left_eq]
  exact r
 rw[if_neg J] at x7
 have M:=zh J
 clear J
 go_wp2_with fail
 refine(BJ _ Y).mono ?_
 rintro e w4⟨rfl,a⟩
 have ab:=zh a
 clear a x7 ap
 go_wp2
 go_roundw
 case rel =>
  obtain⟨m,r,s,S,l,H,U,o,u,F,t,d,V,G⟩:=O.out
  have a:=ab.out
  have C:Y.grownBy w4 none:=⟨a.os,a.tape,a.output,a.size,fun j hj ac=>a.block j hj zt⟩
  have aE:=a.size
  refine⟨_,_,L,m.kept C (fun e=>by cases e) (fun e=>by cases e),fun kl ad=>t kl (by simp at ad;exact ad.1),H.new a,zo,l.new a,fun k=>?_⟩
  rw[d k]
  by_cases e:k=g
  ·subst e
   have hb:=(l.item k f o).bare M.out
   rw[u,Option.map_some,Option.map_some,F]
   simp[Lit.sameKey,gP,hb]
   cases f
   simp_all
  have:(Lit.int .i64 k).sameKey (.int .i64 g)=false:=by simp[Lit.sameKey,e]
  rw[this]
  simp
 obtain⟨m,r,s,S,l,H,U,o,u,F,t,d,V,G⟩:=O.out
 have a:=ab.out
 have C:Y.grownBy w4 none:=⟨a.os,a.tape,a.output,a.size,fun j hj ac=>a.block j hj zt⟩
 rw[(m.kept C (fun e=>by cases e) (fun e=>by cases e)).left_eq,s.left_eq]
 exact r
end
def gD(T:dX)(id:Int):dX:=match dN T id with|some it=>if it.n.kind≠2/\it.n.shut=false then qV id T else T|none=>T
def fT(T:dX):dX:=(T.map (·.1)).foldl gD T
section
variable {w w':World}{c c':Col}{i j bt f:Nat}{q q':fx}{T L:dX}
theorem F6(h:ea w c i bt q T)(hi:i≠0)(id:Int)(h0 : -9223372036854775808<=id)(h1:id<=9223372036854775807):
  Calls prog 104 #[.pointer (some ⟨bt,0,none⟩),.int .i64 id] w fun e w'=>(∃k,e=.returned (.int .i64 k))/\b_ (fun b=>b<w.heap.size/\c b≠i) w w'/\∃c',Ext w c c'/\ea w' c' i bt q (gD T id):=by
 unfold gD
 cases hg:dN T id with
 | none =>
  refine(zi h id h0 h1 (.inl (by unfold ig;rw[hg];decide))).mono ?_
  rintro e w'⟨he,hk⟩
  exact⟨he,b_.Qe hk,c,Ext.refl _ _,h.new hk⟩
 | some a =>
  dsimp only
  by_cases hk:a.n.kind≠2/\a.n.shut=false
  ·rw[if_pos hk]
   refine(El h hi h0 h1 hg hk.1 hk.2).mono ?_
   rintro e w'⟨he,hh⟩
   exact⟨⟨_,he⟩,hh⟩
  rw[if_neg hk]
  refine(zi h id h0 h1 ?_).mono ?_
  ·by_cases h2:a.n.kind=2
   ·left;unfold ig;rw[hg];show(if a.n.kind=2 then(22:Int) else 0)≠0;rw[if_pos h2];decide
   right;exact⟨a,hg,by cases hs:a.n.shut with|true=>rfl|false=>exact absurd ⟨h2,hs⟩ hk⟩
  rintro e w'⟨he,hk⟩
  exact⟨he,b_.Qe hk,c,Ext.refl _ _,h.new hk⟩
theorem D_(c:Col)(n:Nat):∃f,f≠0/\∀b,b<n->c b≠f:=by
 induction n with
 | zero=>exact⟨1,Zd,fun b hb=>absurd hb (Nat.not_lt_zero b)⟩
 | succ n ih =>
  have:∀n:Nat,∃m,∀b,b<n->c b<m:=fun n=>by
   induction n with
   | zero=>exact⟨0,fun b hb=>absurd hb (Nat.not_lt_zero b)⟩
   | succ n ih =>
    obtain⟨m,hm⟩:=ih
    refine⟨max m (c n+1),fun b hb=>?_⟩
    by_cases e:b=n
    ·subst e;omega
    have:=hm b zo;omega
  obtain⟨m,hm⟩:=this (n+1)
  exact⟨m+1,zo,fun b hb=>by have:=hm b hb;omega⟩
theorem i_.recolor(h:i_ w c f bi nb id it)(hf:f≠0)(j:Nat):i_ w (fun b=>if c b=f then j else c b) j bi nb id it:=by
 obtain⟨A,a,h1,h2,h3,d⟩:=h.cells
 exact⟨if_pos h.col,⟨A,a,h1,h2,h3,d.imp fun b _ hb=>by show(if c b=f then j else c b)=0;rw[if_neg (by rw[hb];exact hf.symm)];exact hb⟩,fun hd=>⟨if_pos (h.names hd).1,(h.names hd).2⟩,h.bare⟩
theorem ea.recolor(h:ea w c f bt q T)(hf:f≠0)(j:Nat):ea w (fun b=>if c b=f then j else c b) j bt q T :=
 ⟨h.tree,h.own,fun k a hg=>(h.item k a hg).recolor hf j,⟨if_pos h.col.1,if_pos h.col.2⟩,h.inj,h.far⟩
theorem uf{α β:Type}(g:β->α->β)(x:β)(l:List α)(n:Nat)(h:n<l.length):(l.take (n+1)).foldl g x=g ((l.take n).foldl g x) l[n]:=by
 rw[List.take_succ_eq_append_getElem h,List.foldl_append];rfl
def Hn(w:World)(c:Col)(j:Nat)(T:dX)(e:Ending)(w':World):Prop:=∃(bt':Nat) (q':fx) (c':Col),e=.returned (.pointer (some ⟨bt',0,none⟩))/\New w w'/\w.heap.size<=bt'/\Ext w c c'/\ea w' c' j bt' q' T
theorem m7(h:ea w c i bt q T)(hn:T.length<=100000)(hk:∀p∈T,-9223372036854775808<=p.1/\p.1<=9223372036854775807)(j:Nat):
  Calls prog 32 #[.pointer (some ⟨bt,0,none⟩)] w (Hn w c j (fT T)):=by
 obtain⟨f,hf,hfr⟩:=D_ c w.heap.size
 have M:=zh<|C0 h hn f hf
 have J:=zh hfr
 have N:=zh hk
 clear h hfr hk
 go_in
 go_wp2_with fail
 refine M.mono ?_
 rintro e G⟨z,K,c1,rfl,s,d,r,B⟩
 have O:=zh<|Co B zo
 have P:=zh B
 have Q:=J3 s d r
 clear B s d r M
 go_wp2_with fail
 refine O.mono ?_
 rintro e H⟨⟨A,cp,rfl,R⟩,S⟩
 have HO:=zh R
 have t:=zh S
 clear R S O
 go_wp2_with fail
 obtain⟨c2,C⟩:=zx (c1.on G.heap.size fun _=>f+1)
 have u:Hid (Ext G c1 c2/\∀b,G.heap.size<=b->c2 b≠f):=zh ⟨by rw[C];exact Col.Qg c1 G _,fun b hb=>by rw[C,Col.Qf _ _ hb];omega⟩
 have U:Hid (ea H c2 f z K T):=zh (P.keep t.out u.1 fun _ _ _=>zt)
 clear C
 go_loopw [12] (fun E V=>∃(n:Nat) (l:Col),E=.int .i64 (n:Int)/\n<=T.length/\b_ (fun b=>b<H.heap.size/\c2 b≠f) H V/\Ext H c2 l/\ea V l f z K (((T.map (·.1)).take n).foldl gD T)) (fun E _=>T.length-(intOf E).toNat)
 case atStart=>exact⟨0,c2,rfl,Nat.zero_le _,b_.refl _ _,Ext.refl _ _,U.out⟩
 obtain⟨n,l,rfl,ac,a,m,o⟩:=hrel
 by_cases hlt:n<T.length
 ·have W:(n:Int)<(T.length:Int):=zo
  obtain⟨X,d⟩:=N.out T[n] (List.getElem_mem hlt)
  have F:=(Row.Qc HO.out)
  obtain⟨g,off,hA,Y,Z,v⟩:=F.2 zo
  subst hA
  have cn:wr.cell? ⟨g,off+n,none⟩=some (.int .i64 T[n].1):=a.Qb (v n _ (by rw[List.getElem?_map,List.getElem?_eq_getElem hlt];rfl)) ⟨Z,u.2 g Y⟩
  have HD:=zh<|F6 o hf T[n].1 X d
  have L:=J3 a m o
  clear a m o F v
  go_wp2_with fail
  refine HD.mono ?_
  rintro e w4⟨⟨k,rfl⟩,I,c4,x,y⟩
  have aa:=J3 I x y
  clear I x y HD cn
  go_wp2
  go_roundw
  case rel =>
   obtain⟨a,m,o⟩:=L.out
   obtain⟨I,x,y⟩:=aa.out
   refine⟨n+1,c4,by go_num,hlt,a.Qd I (fun b hb hd=>⟨Nat.lt_of_lt_of_le hb a.size,by show l b≠f;rw[m b hb];exact hd.2⟩),m.trans x a.size,?_⟩
   rw[uf gD T _ n (by rw[List.length_map];exact hlt)]
   simpa using y
  simp[intOf];omega
 have W:¬(n:Int)<(T.length:Int):=zo
 have L:=J3 a m o
 clear a m o
 go_wp2
 go_ret
 obtain⟨a,m,o⟩:=L.out
 obtain⟨s,d,r⟩:=Q.out
 rw[List.take_of_length_le (by rw[List.length_map];omega)] at o
 have ab:Ext w c l:=r.trans (u.1.trans (m) t.size) s.size
 refine⟨z,K,fun b=>if l b=f then j else l b,rfl,?_,d,fun b hb=>?_,o.recolor hf j⟩
 ·refine b_.Qi (D:=fun b=>b<w.heap.size) ((b_.Qe (s.new t.out)).Qd a fun b hb _=>⟨Nat.lt_of_lt_of_le hb (Nat.le_trans s.size t.size),?_⟩) fun b hb=>hb
  show c2 b≠f
  rw[u.1 b (Nat.lt_of_lt_of_le hb s.size),r b hb]
  exact J.out b hb
 show(if l b=f then j else l b)=c b
 rw[ab b hb,if_neg (J.out b hb)]
end
def i'.val(id:Int)(n:i'):Value:=.agg #[.int .i64 id,.int .i64 n.kind,.int .i64 n.links,.int .i64 n.size,.int .u64 n.till,.bool n.shut]
structure qs (id:Int) (n:i'):Prop where
 id:0<=id/\id<=65535
 links:0<=n.links/\n.links<=65535
 till:0<=n.till/\n.till<=1099511627776
 kind:(n.kind=1/\0<=n.size/\n.size<=4096)\/(n.kind=2/\n.size=0/\n.till=0/\n.shut=true)
def iH(b:Bool):List UInt8:=beI 1 (if b then 1 else 0)
def eY(id:Int)(n:i'):List UInt8:=beI 2 id++beI 1 n.kind++beI 2 n.links++beI 2 n.size++beI 8 n.till++iH n.shut
theorem tM{n:i'}(h:qs id n)(w:World):
  Calls prog 241 #[.agg #[.int .i64 id,.int .i64 n.kind,.int .i64 n.links,.int .i64 n.size,.int .u64 n.till,.bool n.shut]] w fun e w'=>e=.returned (.bool true)/\New w w':=by
 obtain⟨⟨c,d⟩,⟨f,g⟩,⟨t0,a⟩,hk⟩:=h
 obtain⟨k,l,s,t,b⟩:=n
 dsimp only at *
 have m:decide (id<0)=false:=decide_eq_false zo
 have o:decide (65535<id)=false:=decide_eq_false zo
 have p:decide (l<0)=false:=decide_eq_false zo
 have q:decide (65535<l)=false:=decide_eq_false zo
 rcases hk with⟨rfl,i,j⟩|⟨rfl,rfl,rfl,rfl⟩
 ·have r:decide (0<=s)=true:=decide_eq_true i
  have u:decide (s<=4096)=true:=decide_eq_true j
  have v:decide (t<=1099511627776)=true:=decide_eq_true a
  clear c d f g t0 a i j
  go_in
  go_wp2
  go_ret
  exact⟨by simp[*],(zN w).alloc _⟩
 clear c d f g t0 a
 go_in
 go_wp2
 go_ret
 exact⟨by simp[*],(zN w).alloc _⟩
theorem CQ(base p:Nat)(bs:List UInt8)(b:Bool)(w:World)(hW:Wr w base p bs)(hn:bs.length<=1099511627776):
  Calls prog 242 #[.pointer (some ⟨p,0,none⟩),.bool b] w fun e w'=>e=.returned (.tuple #[])/\Wr w' base p (bs++iH b)/\b_ (fun b=>b<base) w w':=by
 cases b
 ·have a:=zh<|mg base p bs 0 w hW hn
  clear hW
  go_in
  go_wp2_with fail
  refine a.mono ?_
  rintro e w'⟨rfl,h1,h2⟩
  go_wp2_with fail
  go_end0
  exact⟨rfl,h1,h2⟩
 have a:=zh<|mg base p bs 1 w hW hn
 clear hW
 go_in
 go_wp2_with fail
 refine a.mono ?_
 rintro e w'⟨rfl,h1,h2⟩
 go_wp2_with fail
 first|go_end0|refine bodyPost_ret (results_none rfl _ _ _) rfl ?_
 exact⟨rfl,h1,h2⟩
theorem jX(id:Int)(n:i'):(eY id n).length=16:=by unfold eY iH;simp[dL]
theorem yp{n:i'}(h:qs id n)(w:World):
  Calls prog 157 #[.agg #[.int .i64 id,.int .i64 n.kind,.int .i64 n.links,.int .i64 n.size,.int .u64 n.till,.bool n.shut]] w fun e w'=>(∃A' c',e=.returned (.tuple #[.slice A' 16 c',.int .i64 0])/\fy w' w.heap.size 5 A' 16 c' (eY id n))/\New w w':=by
 have C:=(zN w).alloc (.cells #[.int .i64 id,.int .i64 n.kind,.int .i64 n.links,.int .i64 n.size,.int .u64 n.till,.bool n.shut] 53)
 have o:=heap_alloc_new w (.cells #[.int .i64 id,.int .i64 n.kind,.int .i64 n.links,.int .i64 n.size,.int .u64 n.till,.bool n.shut] 53)
 have E:=zh<|fun W=>tM h W
 have ht:=h.till
 go_in
 go_upto_region 1 with fail
 generalize w.alloc (.cells #[.int .i64 id,.int .i64 n.kind,.int .i64 n.links,.int .i64 n.size,.int .u64 n.till,.bool n.shut] 53)=s at *
 have u:s.cell? ⟨w.heap.size,0,none⟩=some (.int .i64 id):=a_ o rfl
 have c1:s.cell? ⟨w.heap.size,1,none⟩=some (.int .i64 n.kind):=a_ o rfl
 have c2:s.cell? ⟨w.heap.size,2,none⟩=some (.int .i64 n.links):=a_ o rfl
 have j:s.cell? ⟨w.heap.size,3,none⟩=some (.int .i64 n.size):=a_ o rfl
 have i:s.cell? ⟨w.heap.size,4,none⟩=some (.int .u64 n.till):=a_ o rfl
 have d:s.cell? ⟨w.heap.size,5,none⟩=some (.bool n.shut):=a_ o rfl
 go_wp2_with fail
 refine(E.out _).mono ?_
 rintro e k⟨rfl,l⟩
 replace u:k.cell? ⟨w.heap.size,0,none⟩=some (.int .i64 id):=l.Qb u trivial
 replace c1:k.cell? ⟨w.heap.size,1,none⟩=some (.int .i64 n.kind):=l.Qb c1 trivial
 replace c2:k.cell? ⟨w.heap.size,2,none⟩=some (.int .i64 n.links):=l.Qb c2 trivial
 replace j:k.cell? ⟨w.heap.size,3,none⟩=some (.int .i64 n.size):=l.Qb j trivial
 replace i:k.cell? ⟨w.heap.size,4,none⟩=some (.int .u64 n.till):=l.Qb i trivial
 replace d:k.cell? ⟨w.heap.size,5,none⟩=some (.bool n.shut):=l.Qb d trivial
 have F:=zh<|C.new l
 clear l o C E
 go_wp2_with fail
 refine(gV k).mono ?_
 rintro e q⟨⟨p,rfl,A⟩,m⟩
 have a:w.heap.size<k.heap.size:=World.block_lt_of_cell? k ⟨w.heap.size,0,none⟩ u
 replace u:q.cell? ⟨w.heap.size,0,none⟩=some (.int .i64 id):=m.Qb u trivial
 replace c1:q.cell? ⟨w.heap.size,1,none⟩=some (.int .i64 n.kind):=m.Qb c1 trivial
 replace c2:q.cell? ⟨w.heap.size,2,none⟩=some (.int .i64 n.links):=m.Qb c2 trivial
 replace j:q.cell? ⟨w.heap.size,3,none⟩=some (.int .i64 n.size):=m.Qb j trivial
 replace i:q.cell? ⟨w.heap.size,4,none⟩=some (.int .u64 n.till):=m.Qb i trivial
 replace d:q.cell? ⟨w.heap.size,5,none⟩=some (.bool n.shut):=m.Qb d trivial
 have f:=zh<|b_.Qe (D:=fun b=>b<k.heap.size) m
 have g:=zh A
 clear m A
 go_wp2_with fail
 refine(fR _ _ _ id q g.out (by simp)).mono ?_
 rintro e t⟨rfl,c,hk⟩
 replace c1:t.cell? ⟨w.heap.size,1,none⟩=some (.int .i64 n.kind):=hk.Qb c1 a
 replace c2:t.cell? ⟨w.heap.size,2,none⟩=some (.int .i64 n.links):=hk.Qb c2 a
 replace j:t.cell? ⟨w.heap.size,3,none⟩=some (.int .i64 n.size):=hk.Qb j a
 replace i:t.cell? ⟨w.heap.size,4,none⟩=some (.int .u64 n.till):=hk.Qb i a
 replace d:t.cell? ⟨w.heap.size,5,none⟩=some (.bool n.shut):=hk.Qb d a
 replace f:=zh<|f.trans hk
 replace g:=zh c
 clear c hk
 go_wp2_with fail
 refine(mg _ _ _ n.kind t g.out (by simp[dL])).mono ?_
 rintro e x⟨rfl,c,hk⟩
 replace c2:x.cell? ⟨w.heap.size,2,none⟩=some (.int .i64 n.links):=hk.Qb c2 a
 replace j:x.cell? ⟨w.heap.size,3,none⟩=some (.int .i64 n.size):=hk.Qb j a
 replace i:x.cell? ⟨w.heap.size,4,none⟩=some (.int .u64 n.till):=hk.Qb i a
 replace d:x.cell? ⟨w.heap.size,5,none⟩=some (.bool n.shut):=hk.Qb d a
 replace f:=zh<|f.trans hk
 replace g:=zh c
 clear c hk
 go_wp2_with fail
 refine(fR _ _ _ n.links x g.out (by simp[dL])).mono ?_
 rintro e y⟨rfl,c,hk⟩
 replace j:y.cell? ⟨w.heap.size,3,none⟩=some (.int .i64 n.size):=hk.Qb j a
 replace i:y.cell? ⟨w.heap.size,4,none⟩=some (.int .u64 n.till):=hk.Qb i a
 replace d:y.cell? ⟨w.heap.size,5,none⟩=some (.bool n.shut):=hk.Qb d a
 replace f:=zh<|f.trans hk
 replace g:=zh c
 clear c hk
 go_wp2_with fail
 refine(fR _ _ _ n.size y g.out (by simp[dL])).mono ?_
 rintro e B⟨rfl,c,hk⟩
 replace i:B.cell? ⟨w.heap.size,4,none⟩=some (.int .u64 n.till):=hk.Qb i a
 replace d:B.cell? ⟨w.heap.size,5,none⟩=some (.bool n.shut):=hk.Qb d a
 replace f:=zh<|f.trans hk
 replace g:=zh c
 clear c hk
 go_wp2_with fail
 refine(jw _ _ _ n.till B g.out zo zo (by simp[dL])).mono ?_
 rintro e G⟨rfl,c,hk⟩
 replace d:G.cell? ⟨w.heap.size,5,none⟩=some (.bool n.shut):=hk.Qb d a
 replace f:=zh<|f.trans hk
 replace g:=zh c
 clear c hk
 go_wp2_with fail
 refine(CQ _ _ _ n.shut G g.out (by simp[dL])).mono ?_
 rintro e J⟨rfl,c,hk⟩
 replace f:=zh<|f.trans hk
 replace g:=zh c
 clear c hk
 go_wp2_with fail
 refine(iI _ _ _ J g.out (by simp[dL,iH])).mono ?_
 rintro e K⟨⟨A',c',rfl,z⟩,r⟩
 have H:=J2 z r
 clear z r
 have I:[]++beI 2 id++beI 1 n.kind++beI 2 n.links++beI 2 n.size++beI 8 n.till++iH n.shut=eY id n:=by unfold eY;simp
 rw[I,jX] at H ⊢
 go_wp2
 refine Zb (.tuple #[.slice A' 16 c',.int .i64 0]) (by simp[results,results157,go_sem]) ?_
 obtain⟨z,r⟩:=H.out
 exact⟨⟨A',c',rfl,ownsRow_base_a z (by have:=f.size;have:=F.size;omega)⟩,F.new ((f.new r).Qi fun b hb=>hb)⟩
def fP(p:List UInt8×Int):List UInt8:=dU p.1++beI 2 p.2
def iC(p:Int×eI):List UInt8:=dU (eY p.1 p.2.n)++dU p.2.b++beI 2 p.2.names.length++(p.2.names.map fP).flatten
def e_(T:dX):List UInt8:=beI 2 T.length++(T.map iC).flatten
structure rN (T:dX):Prop where
 few:T.length<=1000
 node:∀p∈T,qs p.1 p.2.n
 names:∀p∈T,p.2.names.length<=10000
 short:∀p∈T,∀x∈p.2.names,x.1.length<=16
theorem eC(b:List UInt8):(dU b).length<=65537:=by
 unfold dU
 rw[zL,dL,List.length_take]
 omega
theorem iG{α:Type}(f:α->List UInt8)(m:Nat):∀(l:List α),(∀x∈l,(f x).length<=m)->((l.map f).flatten).length<=l.length*m
 | [],_=>by simp
 | x::r,h=>by
  rw[List.map_cons,List.flatten_cons,zL,List.length_cons,Nat.succ_mul]
  have h1:=h x (List.mem_cons_self ..)
  have h2:=iG f m r fun y hy=>h y (List.mem_cons_of_mem _ hy)
  omega
theorem nU{p:Int×eI}(h:p.2.names.length<=10000):(iC p).length<=700000000:=by
 unfold iC
 have h1:=eC (eY p.1 p.2.n)
 have h2:=eC p.2.b
 have h3:=iG fP 65539 p.2.names fun x _=>by unfold fP;rw[zL,dL];have:=eC x.1;omega
 rw[zL,zL,zL,dL]
 have:p.2.names.length*65539<=10000*65539:=Nat.mul_le_mul_right _ h
 omega
theorem wm(h:rN T):(e_ T).length<=700000000002:=by
 unfold e_
 have h1:=iG iC 700000000 T fun p a=>nU (h.names p a)
 rw[zL,dL]
 have:T.length*700000000<=1000*700000000:=Nat.mul_le_mul_right _ h.few
 omega
section
variable {w w':World}{nb bm:Nat}{c:Col}{i bt:Nat}{q:fx}{T:dX}
theorem nC(nm:List UInt8)(w:World):∃(cp:Nat) (w':World),(convert 9 22 (.string (dR nm))).run prog w=.ok (.slice (some ⟨w.heap.size,0,none⟩) nm.length cp) w'/\nm.length<=cp/\New w w'/\Bs w' (fun b=>w.heap.size<=b) (some ⟨w.heap.size,0,none⟩) nm.length nm:=by
 have h:=run_bytes_of_string (P:=prog) w 9 22 5 (dR nm) underlying9 underlying22 underlying5
 have hs:(dR nm).size=nm.length:=by show nm.toArray.size=_;rw[List.size_toArray]
 rw[hs] at h
 refine⟨_,_,h,?_,(zN w).drew.alloc _,by rw[List.length_map,Nat.mul_one],fun hn=>⟨w.heap.size,0,rfl,zr,?_,fun k u a=>?_⟩⟩
 ·exact grownCap_ge _ _ _ _
 ·show w.heap.size<(w.heap.push _).size;simp
 have hk:k<nm.length:=by have:=(List.getElem?_eq_some_iff.1 a).1;rwa[List.length_map] at this
 have hd:(dR nm).data=nm.toArray:=rfl
 have h3:=bytesRow_at (dR nm) (grownCap w nm.length 0 5) k (by rw[hd,List.size_toArray];exact hk)
 have h2:(w.drew.alloc (.cells (bytesRow (dR nm) (grownCap w nm.length 0 5)) 5 ((bytesRow (dR nm) (grownCap w nm.length 0 5)).size,(bytesRow (dR nm) (grownCap w nm.length 0 5)).size+1))).heap[w.heap.size]?=some (.cells (bytesRow (dR nm) (grownCap w nm.length 0 5)) 5 ((bytesRow (dR nm) (grownCap w nm.length 0 5)).size,(bytesRow (dR nm) (grownCap w nm.length 0 5)).size+1)):=by
  show(w.heap.push _)[w.heap.size]?=_
  simp
 rw[Nat.zero_add,cell_of_row _ _ _ _ _ _ h2,h3,<- a,List.getElem?_map,List.getElem?_eq_getElem hk]
 rfl
theorem xG(B1:Nat)(h1:w.heap[B1]?=some (.cells #[.map none] 212 (0,0))):
  Calls prog 158 #[.func (.func 245) #[] #[.pointer (some ⟨B1,0,none⟩)]] w fun e w'=>e=.returned (.slice none 0 0)/\New w w':=by
 have a:SeqGives Fence.wide 2 prog 245 #[.pointer (some ⟨B1,0,none⟩)] encStr (fun b:List (List UInt8)=>b=[]) 0 w :=
  AnyZ.keys_gives_nil (ρ:=rE) { Hu with } Fence.wide _ trivial rfl B1 w (Zl h1) (a_ h1 (k:=0) rfl)
 have c:=AnyZ.sorted_in Ch Fence.wide 5 trivial trivial trivial trivial rfl zo (EM _) (enters_of func244 zk rfl) 245 #[.pointer (some ⟨B1,0,none⟩)] trivial (enters_of func245 zk rfl) _ 0 (Nat.zero_le _) zo _ a
 change CallsIn _ _ prog 158 _ _ _ at c
 refine(callsIn_wide.1 c).mono ?_
 rintro e w'⟨v,b,rfl,d,f,hn,hb⟩
 exact⟨by rw[hn.2 d],l7 hb⟩
theorem yJ(w:World):Calls prog 159 #[.map none] w fun e w'=>e=.returned (.func (.func 245) #[] #[.pointer (some ⟨w.heap.size,0,none⟩)])/\w'=w.alloc (.cells #[.map none] 212):=by
 go_in
 go_wp2
 go_ret
 exact⟨rfl,rfl⟩
end
theorem Eo{l:List (List UInt8×Int)}{j:Int}(h:j≠id):((l.filter fun p => !decide (p.2=id)).countP fun e=>decide (e.2=j))=l.countP fun e=>decide (e.2=j):=by
 rw[List.countP_filter]
 refine List.countP_congr fun x _=>?_
 by_cases e:x.2=j
 ·simp[e,h]
 simp[e]
theorem F_{l:List (List UInt8×Int)}:((l.filter fun p => !decide (p.2=id)).countP fun e=>decide (e.2=id))=0:=by
 rw[List.countP_filter,List.countP_eq_zero]
 intro x _
 simp
theorem Cw{l:List (List UInt8×Int)}(hr:ee l){nm:List UInt8}(h:dN (l.filter fun p => !decide (p.2=id)) nm=some k):dN l nm=some k/\k≠id:=by
 have hm:=fC h
 obtain⟨h1,h2⟩:=List.mem_filter.1 hm
 exact⟨hr.get h1,by simpa using h2⟩
theorem vQ{j:Int}:ir (T.map fun p=>(p.1,gP id p.2)) j=if j=id then 0 else ir T j:=by
 induction T with
 | nil=>simp[ir,nB]
 | cons q r ih =>
  rw[List.map_cons,iq,iq,ih]
  by_cases e:j=id
  ·rw[if_pos e,if_pos e,e]
   have:=F_ (l:=q.2.names) (id:=id)
   unfold gP
   dsimp only
   omega
  rw[if_neg e,if_neg e]
  have:=Eo (l:=q.2.names) (id:=id) (j:=j) e
  unfold gP
  dsimp only
  omega
theorem F5(h:eo T)(hg:dN T id=some it)(hk:it.n.kind≠2):eo (qV id T):=by
 have c:=(h.node id it hg).kind.resolve_right hk
 have h0:id≠0:=fun e=>by
  have:=h.root
  rw[<- e,jn hg,c] at this
  exact absurd this Zd
 have b:∀k x,dN (T.map fun p=>(p.1,gP id p.2)) k=some x->∃y,dN T k=some y/\x=gP id y:=fun k x a=>by
  rw[mx] at a
  cases e:dN T k with
  | none=>rw[e] at a;cases a
  | some y=>rw[e] at a;injection a with a;exact⟨y,rfl,a.symm⟩
 obtain⟨f,hd⟩:=h.depth
 have g:∀k,iP (T.map fun p=>(p.1,gP id p.2)) k=iP T k:=fun k=>by
  unfold iP
  rw[mx]
  cases dN T k <;> rfl
 have m:iN (T.map fun p=>(p.1,gP id p.2)) (fun j=>if j=id then it.n.links else 0):={
  rising:=h.rising.map _
  names:=fun k x a=>by
   obtain⟨y,hy,rfl⟩:=b k x a
   exact List.Pairwise.filter _ (h.names k y hy)
  few:=by rw[List.length_map];exact h.few
  ids:=fun k x a=>by obtain⟨y,hy,rfl⟩:=b k x a;exact h.ids k y hy
  root:=by rw[g];exact h.root
  kind:=fun k x a=>by obtain⟨y,hy,rfl⟩:=b k x a;exact(h.node k y hy).kind
  bare:=fun k x a h1=>by
   obtain⟨y,hy,rfl⟩:=b k x a
   show y.names.filter _=[]
   rw[(h.node k y hy).bare h1]
   rfl
  dir:=fun k x a h1=>by
   obtain⟨y,hy,rfl⟩:=b k x a
   have:=(h.node k y hy).dir h1
   exact⟨this.1,this.2.1,this.2.2.1⟩
  size:=fun k x a=>by obtain⟨y,hy,rfl⟩:=b k x a;exact(h.node k y hy).size
  till:=fun k x a=>by obtain⟨y,hy,rfl⟩:=b k x a;exact(h.node k y hy).till
  leads:=fun d x l k a hn=>by
   obtain⟨y,hy,rfl⟩:=b d x a
   have o:=(Cw (h.names d y hy) hn).1
   have h1:=h.leads d y l k hy o
   refine⟨h1.1,h1.2.1,?_⟩
   rw[mx,Option.isSome_map]
   exact h1.2.2
  count:=fun k x a q=>by
   obtain⟨y,hy,rfl⟩:=b k x a
   rw[vQ]
   have h1:=h.count k y hy q
   show y.n.links=_
   by_cases e:k=id
   ·rw[if_pos e,if_pos e]
    rw[e,hg] at hy
    injection hy with hy
    rw[hy]
    simp
   rw[if_neg e,if_neg e,h1]
   simp
  one:=fun k x a h1=>by
   obtain⟨y,hy,rfl⟩:=b k x a
   exact((h.node k y hy).dir h1).2.2.2 }
 have i:dN (T.map fun p=>(p.1,gP id p.2)) id=some (gP id it):=by rw[mx,hg];rfl
 have r:=m.gone (δ':=fun _=>0) i (m.bare id _ i c) h0 (by rw[vQ,if_pos rfl]) (fun j hj=>by simp[hj])
 have s:xj (T.map fun p=>(p.1,gP id p.2)) f:=by
  refine⟨hd.1,fun d x l k a hn=>?_⟩
  obtain⟨y,hy,rfl⟩:=b d x a
  rw[g]
  exact hd.2 d y l k hy (Cw (h.names d y hy) hn).1
 unfold qV
 refine r.done (fun _ _ _ _=>rfl) (fun j x a hl=>?_) ⟨f,zv s⟩
 rw[gi] at a
 split at a
 ·cases a
 obtain⟨y,hy,rfl⟩:=b j x a
 exact h.alive j y hy hl
theorem qW(h:eo T)(id:Int):eo (gD T id):=by
 unfold gD
 cases hg:dN T id with
 | none=>exact h
 | some a =>
  dsimp only
  split
  ·rename_i hc;exact F5 h hg hc.1
  exact h
theorem ny{α β:Type}(P:β->Prop)(f:β->α->β)(hf:∀b a,P b->P (f b a)):∀(l:List α) (b:β),P b->P (l.foldl f b)
 | [],_,h=>h
 | a::r,b,h=>ny P f hf r _ (hf b a h)
theorem pN(h:eo T):eo (fT T):=ny eo gD (fun _ a hb=>qW hb a) _ _ h
def eV(T:dX):Prop:=∀k it,dN T k=some it->it.n.links<=64
theorem sJ(h:eV T){x:eI}(hx:x.n.links<=64):eV (eN k x T):=fun j y hy=>by
 rw[dS] at hy
 split at hy
 ·injection hy with hy;subst hy;exact hx
 exact h j y hy
theorem Cs(h:eV T):eV (jv k T):=fun j y hy=>by
 rw[gi] at hy
 split at hy
 ·cases hy
 exact h j y hy
theorem Eh(h:eV T){l:List (List UInt8×Int)}:eV (setNames T k l):=by
 unfold setNames
 cases hg:dN T k with
 | none=>exact h
 | some a=>exact sJ h (h k a hg)
theorem BD(h:eV T):eV (mD T k):=by
 unfold mD
 cases hg:dN T k with
 | none=>exact h
 | some a =>
  dsimp only
  split
  ·exact Cs h
  exact h
theorem Fs(h:eV T)(p:eZ)(kind:Int):eV (g_ T p kind).2.2:=by
 unfold g_
 repeat' split
 all_goals first|exact h|exact Eh (sJ h (by show(1:Int)<=64;decide))
theorem BZ(h:eV T)(id:Int)(b:List UInt8):eV (fE T id b).2:=by
 unfold fE
 cases hg:dN T id with
 | none=>exact h
 | some a =>
  dsimp only
  repeat' split
  all_goals first|exact h|exact sJ h (h id a hg)
theorem EQ(h:eV T)(id till:Int):eV (je T id till).2:=by
 unfold je
 cases hg:dN T id with
 | none=>exact h
 | some a =>
  dsimp only
  repeat' split
  all_goals first|exact h|(refine BD (sJ h ?_);exact h id a hg)
theorem qX(h:eV T)(id:Int):eV (gD T id):=by
 unfold gD
 cases hg:dN T id with
 | none=>exact h
 | some b =>
  dsimp only
  split
  ·refine Cs fun k x a=>?_
   rw[mx] at a
   cases e:dN T k with
   | none=>rw[e] at a;cases a
   | some y=>rw[e] at a;injection a with a;rw[<- a];exact h k y e
  exact h
theorem pO(h:eV T):eV (fT T):=ny eV gD (fun _ a hb=>qX hb a) _ _ h
theorem Hg:∀(ks:List Int),(∀e∈nB T,e.2.2∈ks)->(∀k∈ks,ir T k<=64)->(nB T).length<=ks.length*64:=by
 unfold ir
 generalize nB T=l
 intro ks
 induction ks generalizing l with
 | nil =>
  intro h _
  cases l with
  | nil=>simp
  | cons e r=>exact absurd (h e (List.mem_cons_self ..)) (by simp)
 | cons k r ih =>
  intro h hc
  have h1:=ih (l.filter fun e => !decide (e.2.2=k)) (fun e he=>by
   obtain⟨h2,h3⟩:=List.mem_filter.1 he
   rcases List.mem_cons.1 (h e h2) with a|a
   ·simp[a] at h3
   exact a) (fun j hj=>Nat.le_trans (by
   rw[List.countP_filter]
   exact List.countP_mono_left fun x _ b=>by simp at b ⊢;exact b.1) (hc j (List.mem_cons_of_mem _ hj)))
  have h2:=hc k (List.mem_cons_self ..)
  have h3:l.length=(l.countP fun e=>decide (e.2.2=k))+(l.filter fun e => !decide (e.2.2=k)).length:=by
   rw[<- List.countP_eq_length_filter]
   have:=List.length_eq_countP_add_countP (fun e:Int×List UInt8×Int=>decide (e.2.2=k)) (l:=l)
   rw[this]
   congr 1
   exact List.countP_congr fun x _=>by simp
  rw[List.length_cons]
  omega
theorem tO(h:eo T)(hf:eV T){p:Int×eI}(hp:p∈T):p.2.names.length<=4096:=by
 have h1:p.2.names.length<=(nB T).length:=by
  unfold nB
  obtain⟨a,b,rfl⟩:=List.append_of_mem hp
  rw[List.flatMap_append,List.flatMap_cons,zL,zL,List.length_map]
  omega
 have h2:=Hg (T:=T) (T.map (·.1)) (fun e he=>by
  unfold nB at he
  obtain⟨q,hq,he⟩:=List.mem_flatMap.1 he
  obtain⟨x,c,rfl⟩:=List.mem_map.1 he
  have g1:=h.rising.get (k:=q.1) (x:=q.2) hq
  have j:=(h.names q.1 q.2 g1).get (k:=x.1) (x:=x.2) c
  have:=(h.leads q.1 q.2 x.1 x.2 g1 j).2.2
  obtain⟨y,hy⟩:=Option.isSome_iff_exists.1 this
  exact List.mem_map.2 ⟨_,fC hy,rfl⟩) (fun k hk=>by
  obtain⟨q,hq,rfl⟩:=List.mem_map.1 hk
  have g1:=h.rising.get (k:=q.1) (x:=q.2) hq
  by_cases e:q.1=0
  ·have:ir T q.1=0:=by
    unfold ir
    rw[List.countP_eq_zero]
    intro x c hz
    unfold nB at c
    obtain⟨d,g,c⟩:=List.mem_flatMap.1 c
    obtain⟨y,hy,rfl⟩:=List.mem_map.1 c
    have f:=h.rising.get (k:=d.1) (x:=d.2) g
    have i:=(h.names d.1 d.2 f).get (k:=y.1) (x:=y.2) hy
    have:=(h.leads d.1 d.2 y.1 y.2 f i).1
    simp at hz
    omega
   omega
  have h3:=h.count q.1 q.2 g1 e
  have l:=hf q.1 q.2 g1
  omega)
 rw[List.length_map] at h2
 have:=h.few
 omega
theorem eo.ok(h:eo T)(hf:eV T):rN T where
 few:=by have:=h.few;omega
 node:=fun p a=>by
  have hg:=h.rising.get (k:=p.1) (x:=p.2) a
  have hn:=h.node _ _ hg
  have hi:=h.ids _ _ hg
  refine⟨zo,?_,hn.till,?_⟩
  ·have:=hf _ _ hg
   by_cases e:p.1=0
   ·have h2:p.2.n.kind=2:=by
     have:=h.root
     rw[<- e,jn hg] at this
     exact this
    have:=(hn.dir h2).2.2.2
    omega
   have:=h.count _ _ hg e
   omega
  rcases hn.kind with e|e
  ·refine .inl ⟨e,?_⟩
   have:=hn.size
   omega
  have:=hn.dir e
  have h2:=hn.size
  refine .inr ⟨e,?_,this.2.1,this.2.2.1⟩
  rw[h2.1,this.1]
  rfl
 names:=fun p a=>by have:=tO h hf a;omega
 short:=fun p a x b=>by
  have hg:=h.rising.get (k:=p.1) (x:=p.2) a
  have hn:=(h.names _ _ hg).get (k:=x.1) (x:=x.2) b
  have:=(h.leads _ _ _ _ hg hn).2.1
  unfold ep at this
  simp at this
  omega
theorem fX(h:fg s p g=true):64<=s/\s<=4096/\16<=p/\p<=1024/\0<=g/\g<=512/\1+2*p+8*g<=s:=by
 have:=jy.1 h
 omega
theorem rZ{i:Int}(h:fg s p g=true)(hi:i=0\/i=1)(w:World):
  Calls prog 166 #[.agg #[.int .i64 s,.int .i64 p,.int .i64 g],.int .i64 i] w fun e w'=>e=.returned (.tuple #[.int .i64 (1+i*p),.int .i64 0])/\New w w':=by
 have hb:=heap_alloc_new w (.cells #[.int .i64 s,.int .i64 p,.int .i64 g] 35)
 have c:New w (w.alloc (.cells #[.int .i64 s,.int .i64 p,.int .i64 g] 35)):=(zN w).alloc _
 obtain⟨d,f,j,l,_,_,_⟩:=fX h
 have a:=fun W=>zh (kP s p g zo W)
 rw[h] at a
 have o:decide (i<0)=false:=decide_eq_false zo
 have q:decide (2<=i)=false:=decide_eq_false zo
 have r:0<=i*p/\i*p<=1024:=by rcases hi with rfl|rfl <;> omega
 have t:IntKind.i64.wrap (i*p)=i*p:=IntWalk.i64_in _ zo
 have u:IntKind.i64.wrap (1+i*p)=1+i*p:=IntWalk.i64_in _ zo
 clear h hi d f j l
 go_in
 go_upto_region 1 with fail
 generalize w.alloc _=x at *
 obtain⟨y,z,A⟩:=cs3 hb
 have m:=zh hb
 clear hb
 go_wp2_with fail
 refine(a _).mono ?_
 rintro e w'⟨rfl,b⟩
 have c1:=a_ (b.Qa m.out zt) (k:=1) rfl
 have n:=zh<|c.new b
 clear b c a
 go_wp2
 refine Zb (.tuple #[.int .i64 (1+i*p),.int .i64 0]) (by simp[results,results166,go_sem]) ?_
 exact⟨rfl,n.out⟩
theorem vo(h:fg s p g=true)(w:World):
  Calls prog 248 #[.agg #[.int .i64 s,.int .i64 p,.int .i64 g]] w fun e w'=>e=.returned (.int .i64 (128*p-94))/\New w w':=by
 have hb:=heap_alloc_new w (.cells #[.int .i64 s,.int .i64 p,.int .i64 g] 35)
 have c:New w (w.alloc (.cells #[.int .i64 s,.int .i64 p,.int .i64 g] 35)):=(zN w).alloc _
 obtain⟨d,f,n,i,_,_,_⟩:=fX h
 have a:=fun W=>zh (kP s p g zo W)
 rw[h] at a
 have o:IntKind.i64.wrap (128*p)=128*p:=IntWalk.i64_in _ zo
 have q:IntKind.i64.wrap (128*p-94)=128*p-94:=IntWalk.i64_in _ zo
 have l:0<=128*p-94:=by omega
 clear h d f i
 go_in
 go_upto_region 1 with fail
 generalize w.alloc _=r at *
 obtain⟨t,u,v⟩:=cs3 hb
 have j:=zh hb
 clear hb
 go_wp2_with fail
 refine(a _).mono ?_
 rintro e w'⟨rfl,b⟩
 have c1:=a_ (b.Qa j.out zt) (k:=1) rfl
 have m:=zh<|c.new b
 clear b c a
 go_wp2
 go_ret
 exact⟨by simp[Int.max_eq_right l],m.out⟩
structure kV where
 gen:Int
 seq:Int
 segs:Int
 head:List UInt8
 data:List UInt8
structure ol (p g:Int) (m:kV):Prop where
 gen:1<=m.gen/\m.gen<=1099511627776
 seq:0<=m.seq/\m.seq<=1099511627776
 segs:0<=m.segs/\m.segs<=g
 head:m.head.length=32
theorem tG{m:kV}(hm:ol p g m)(A B:Option Addr)(n c n2 c2:Nat)(hn:n=32)(w:World):
  Calls prog 247 #[.agg #[.int .i64 s,.int .i64 p,.int .i64 g],.agg #[.int .u64 m.gen,.int .u64 m.seq,.int .i64 m.segs,.slice A n c,.slice B n2 c2]] w fun e w'=>e=.returned (.bool true)/\New w w':=by
 obtain⟨⟨a,b⟩,⟨j,d⟩,⟨t0,f⟩,_⟩:=hm
 obtain⟨h,se,i,hd,k⟩:=m
 dsimp only at *
 subst hn
 have l:decide (1<=h)=true:=decide_eq_true a
 have o:decide (h<=1099511627776)=true:=decide_eq_true b
 have q:decide (se<=1099511627776)=true:=decide_eq_true d
 have r:decide (0<=i)=true:=decide_eq_true t0
 have t:decide (i<=g)=true:=decide_eq_true f
 clear a b j d t0 f
 go_in
 go_wp2
 go_ret
 exact⟨by simp[*],((zN w).alloc _).alloc _⟩
open Go.Maps (Keyed)
attribute [local go_sem] Oper.semAt_some
def mP(M:gM)(first:Nat)(b:List UInt8){m:Nat}(pre:List { x:Nat // x<m }):gM:=fun k=>if (first:Int)<=k/\k<first+pre.length then(pre[(k-first).toNat]?).map fun x=>iz b x.1 else M k
def gO(M:gM)(first m:Nat)(b:List UInt8):gM:=fun k=>if (first:Int)<=k/\k<first+m then some (iz b (k-first).toNat) else M k
theorem zm(M:gM)(first:Nat)(b:List UInt8)(m:Nat):mP M first b (m:=m) []=M:=by
 funext k
 unfold mP
 rw[if_neg (by simp)]
theorem wU(M:gM)(first:Nat)(b:List UInt8)(pre:List { x:Nat // x<m })(x:{ x:Nat // x<m }):mP M first b (pre++[x])=(mP M first b pre).put ((first+pre.length:Nat):Int) (iz b x.1):=by
 funext k
 unfold mP gM.put
 by_cases e:k=((first+pre.length:Nat):Int)
 ·rw[if_pos e,if_pos (by rw[zL,List.length_singleton];omega),show(k-first).toNat=pre.length from by omega,List.getElem?_append_right zr]
  simp
 rw[if_neg e]
 dsimp only
 by_cases h:(first:Int)<=k/\k<first+pre.length
 ·rw[if_pos h,if_pos (by rw[zL,List.length_singleton];omega),List.getElem?_append_left zo]
 rw[if_neg h,if_neg (by rw[zL,List.length_singleton];omega)]
theorem u_{m:Nat}:∀ {k:Nat},k<=m->∀j (_h:j<k) (h2:j<m),(ml m k)[j]?=some ⟨j,h2⟩
 | 0,_,j,h,_=>absurd h (Nat.not_lt_zero j)
 | k+1,hk,j,h,h2=>by
  have hl:=iV (m:=m) (k:=k) zo
  rw[pT hk]
  by_cases e:j=k
  ·subst e
   rw[List.getElem?_append_right zo,hl,Nat.sub_self]
   rfl
  rw[List.getElem?_append_left zo]
  exact u_ zo j zo h2
theorem zn(M:gM)(first m:Nat)(b:List UInt8):mP M first b (ml m m)=gO M first m b:=by
 funext k
 unfold mP gO
 rw[iV zr]
 by_cases h:(first:Int)<=k/\k<first+m
 ·rw[if_pos h,if_pos h,u_ zr _ zo zo]
  rfl
 rw[if_neg h,if_neg h]
theorem fj.swap2{q:g9}{M:gM}(h:fj w D q S M n wr)(hI:∀b,b<w.heap.size->D b->F b)(hF:∀b,b=q.bd\/b=q.bs\/b=q.bm->¬F b):fj w F q S M n wr :=
 ⟨h.disk,h.safe,h.dirty.imp hI,h.size,hF⟩
theorem tS{q:g9}{M:gM}{k first:Nat}(h:fj w D q S M n wr)(hk:S.length=k*128)(hD:∀b,w.heap.size<=b->D b)(hfit:first+m<=k)(hn:n+m<1000000)(hm0:0<m)(hm1:m<=1000)(A:Option Addr)(cap:Nat)(b:List UInt8)(hB:Bs w D2 A (m*128) b)(hcap:m*128<=cap)(hcm:cap<=9223372036854775807)(hD2:∀j,D2 j->j≠q.bd/\j≠q.bm):
  Calls prog 75 #[.pointer (some ⟨q.bd,0,none⟩),.int .i64 first,.slice A (m*128) cap] w fun e w'=>e=.returned (.tuple #[])/\b_ (fun j=>j≠q.bd/\j≠q.bm) w w' /\
   ∃wr',fj w' D q S (gO M first m b) (n+m) wr':=by
 have O:=hB.len
 have P:k<=4096:=by obtain⟨k',e,-,h2⟩:=h.size;omega
 obtain⟨u,off,af,ag,aw,ah⟩:=hB.2 zo
 subst af
 have HH:=J9 h hk hD hB hD2 O hfit hn P
 have x0:=((zN (w.alloc (.cells #[.pointer (some ⟨q.bd,0,none⟩)] 31))).alloc (.cells #[.int .i64 first] 3)).Qa (heap_alloc_new w (.cells #[.pointer (some ⟨q.bd,0,none⟩)] 31)) trivial
 have U:=heap_alloc_new (w.alloc (.cells #[.pointer (some ⟨q.bd,0,none⟩)] 31)) (.cells #[.int .i64 first] 3)
 rw[show(w.alloc (.cells #[.pointer (some ⟨q.bd,0,none⟩)] 31)).heap.size=w.heap.size+1 from by simp] at U
 have k0:New w ((w.alloc (.cells #[.pointer (some ⟨q.bd,0,none⟩)] 31)).alloc (.cells #[.int .i64 first] 3)):=((zN w).alloc _).alloc _
 have N:((w.alloc (.cells #[.pointer (some ⟨q.bd,0,none⟩)] 31)).alloc (.cells #[.int .i64 first] 3)).heap.size=w.heap.size+1+1:=by simp
 clear h hk hD hB hD2 O hfit hn P ah ag
 refine(callsIn_wide (n:=6)).1 ?_
 refine callsIn_of_wp_marks func75 rfl trivial ?_ rfl
 simp only[ntmps75,List.size_toArray,List.length_cons,List.length_nil,Nat.reduceAdd,Nat.reduceSub,Array.replicate_succ,Array.replicate_zero,List.push_toArray,List.append_toArray,List.nil_append,List.cons_append]
 gi_wp2
 refine⟨zt,(callsIn_wide.2 (vS _ _ _ _)).mono ?_⟩
 rintro e i⟨rfl,y⟩
 obtain⟨a,f⟩:=zx (w.heap.size+1)
 rw[<- f] at U N
 generalize (w.alloc (.cells #[.pointer (some ⟨q.bd,0,none⟩)] 31)).alloc (.cells #[.int .i64 first] 3)=Q at *
 have V:New Q i:=by rw[y];exact((zN Q).alloc _).alloc _
 have y1:i.heap[a+1]?=some (.cells #[.slice (some ⟨u,off,none⟩) (m*128) cap] 22 (0,0)):=by rw[y,<- N];exact(b_.alloc (zN _) _).Qa (heap_alloc_new Q _) trivial
 have y2:i.heap[a+1+1]?=some (.cells #[.int .i64 128] 3 (0,0)):=by rw[y,<- N,show Q.heap.size+1=(Q.alloc (.cells #[.slice (some ⟨u,off,none⟩) (m*128) cap] 22)).heap.size from by simp];exact heap_alloc_new _ _
 have v:i.heap.size=a+1+1+1:=by rw[y];simp[N]
 have ai:=V.Qa U trivial
 have x2:=V.Qa x0 trivial
 have R:=k0.new V
 rw[N,<- f]
 have s:=zh f
 have t:=zh v
 clear y V k0 U x0 N f v
 gi_wp2
 have aj:i.cell? ⟨a+1,0,none⟩=some (.slice (some ⟨u,off,none⟩) (m*128) cap):=a_ y1 rfl
 have ak:i.cell? ⟨a+1+1,0,none⟩=some (.int .i64 128):=a_ y2 rfl
 have ad:SeqStopsK Fence.wide (6-1) prog 209 #[.pointer (some ⟨a+1,0,none⟩),.pointer (some ⟨a+1+1,0,none⟩)] (fun x:{ x:Nat // x<m }=>#[Value.slice (some ⟨u,off+x.1*128,none⟩) 128 128])
   (fun X Y=>b_ (fun j=>j=a+1\/j=a+1+1) X Y) (fun xs=>xs=ml m m) (fun _=>True) m i:=fun l J Jx W hW hJ _ hY al=>by
  have hk:b_ (fun j=>j=a+1\/j=a+1+1) i W:=(b_.below hW).imp fun j hj _=>hj
  exact vT (6-1) Zd l (a+1) (a+1+1) u off m cap hm1 hcap hcm J Jx _ hJ hY W (hk.Qb aj (.inl rfl)) (hk.Qb ak (.inr rfl)) al
 obtain⟨B,hk,hD,hB,hD2,O,hfit,hn,P⟩:=HH.out
 have ay:=B.ne
 have hlt:=B.lt
 have ae:∀j,j=q.bd\/j=q.bs\/j=q.bm->¬(D j/\j<w.heap.size\/i.heap.size<=j):=fun j hj hd=>by
  have h1:=hlt j hj
  have h2:=R.size
  rcases hd with⟨hd,_⟩|hd
  ·exact B.out j hj hd
  omega
 have d2:=(B.swap2 (F:=fun j=>D j/\j<w.heap.size\/i.heap.size<=j) (fun j hj hd=>.inl ⟨hd,hj⟩) ae).new R
 rw[<- zm M first b m] at d2
 have aa:=R.size
 have am:=(hB.imp (E:=fun j=>D2 j/\j<w.heap.size) fun j hj hd=>⟨hd,hj⟩).new R
 refine wpIn_rangeFunc_ownG (α:={ x:Nat // x<m }) rfl Zd (gf:=209) (lb:=#[.pointer (some ⟨a+1,0,none⟩),.pointer (some ⟨a+1+1,0,none⟩)]) rfl trivial (enters_of func209 zk rfl)
  ad (fun h1 h2=>h1.trans h2) (fun W l o o' hl ho _ _=>⟨rfl,rfl,rfl,by simp,fun j _ hj=>World.putObj_heap_other (by have:=s.out;have:=t.out;omega)⟩) (Below.refl _ _) (fun _=>rfl)
  (fun g W=>(∃wr',fj W (fun j=>D j/\j<w.heap.size\/i.heap.size<=j) q S (mP M first b g) (n+g.length) wr')/\W.heap[a]?=some (.cells #[.int .i64 ((first+g.length:Nat):Int)] 3 (0,0))/\b_ (fun j=>j<i.heap.size/\j≠q.bd/\j≠q.bm/\j≠a) i W)
  (fun _ _ _=>False) ?hI (fun _ _ _ _ _ hs _ _=>hs) ⟨⟨_,d2⟩,ai,b_.refl _ _⟩
  (fun x=>{ tmps:=#[.pointer (some ⟨q.bd,0,none⟩),.int .i64 first,.slice (some ⟨u,off,none⟩) (m*128) cap,.pointer (some ⟨w.heap.size,0,none⟩),.pointer (some ⟨a,0,none⟩),undef,.slice (some ⟨u,off+x.1*128,none⟩) 128 128,.slice (some ⟨u,off,none⟩) (m*128) cap,.func (.func 209) #[] #[.pointer (some ⟨a+1,0,none⟩),.pointer (some ⟨a+1+1,0,none⟩)],.slice (some ⟨u,off+x.1*128,none⟩) 128 128,undef,undef,undef,undef,undef,undef],defers:=[] }) ?assign ?body ?done ?stop
 case hI =>
  rintro g A C az⟨⟨wr',hd⟩,hf,d⟩ hg hr
  have f:=s.out
  have v:=t.out
  refine⟨⟨wr',hd.other hg i.heap.size (fun j hj=>Nat.lt_of_lt_of_le (hlt j hj) aa) hr⟩,(hg.block a (Zl hf) (fun e=>by have:=(hr a e.symm).1;omega)).trans hf,d.trans ⟨hg.os,hg.tape,hg.output,hg.size,fun j an hj=>hg.block j an (fun e=>by have:=(hr j e.symm).1;omega)⟩⟩
 case assign =>
  intro l x W K hK
  gi_wp2
  exact hK
 case body =>
  rintro l g x W⟨⟨wr',hd⟩,hf,d⟩ ax
  have f:=s.out
  have v:=t.out
  have aA:=x.2
  have c4:W.cell? ⟨w.heap.size,0,none⟩=some (.pointer (some ⟨q.bd,0,none⟩)):=a_ ((d.block w.heap.size zo ⟨zo,fun e=>by have:=hlt q.bd (.inl rfl);omega,fun e=>by have:=hlt q.bm (.inr (.inr rfl));omega,zo⟩).trans x2) rfl
  have c8:W.cell? ⟨a,0,none⟩=some (.int .i64 ((first+g.length:Nat):Int)):=a_ hf rfl
  have aB:=d.size
  have ab:=(xT am (x:=x.1*128) (m:=128) zo).keep d (fun j hj hd=>⟨hj,(hD2 j hd.1).1,(hD2 j hd.1).2,zo⟩)
  have HW:=zh<|uk hd hk (fun j hj=>.inr zo) zo (first+g.length) zo _ 128 _ ab
  have Z:=J3 hd hf d
  clear ab hd hf d f v
  obtain⟨z,hz⟩:=zx (first+g.length)
  rw[<- hz] at HW c8
  replace hz:=zh hz
  gi_wp2
  refine⟨zt,(CallsIn.inRound l (callsIn_wide.2 HW.out)).mono ?_⟩
  rintro e T⟨rfl,G,ao,I⟩
  obtain⟨hd,hf,d⟩:=Z.out
  have f:=s.out
  have v:=t.out
  have p:=(G.block a (Zl hf) ⟨fun e=>by have:=hlt q.bd (.inl rfl);omega,fun e=>by have:=hlt q.bm (.inr (.inr rfl));omega⟩).trans hf
  rw[<- hz.out] at p
  have c8:T.cell? ⟨a,0,none⟩=some (.int .i64 (z:Int)):=a_ p rfl
  have z8:=dP p 0
  have ap:=J3 G I p
  have aC:z<=5000:=by have:=hz.out;omega
  clear G I p hd hf d f v
  gi_wp2
  have f:=s.out
  have v:=t.out
  obtain⟨hd,hf,d⟩:=Z.out
  obtain⟨G,I,p⟩:=ap.out
  have aq:=hz.out
  have ac:b_ (fun j=>j≠a) T (T.setCell ⟨a,0,none⟩ (.int .i64 ((z:Int)+1))):=(b_.refl _ T).setCell (fun hd=>absurd rfl hd) _
  have e1:=hlt q.bd (.inl rfl)
  have e2:=hlt q.bm (.inr (.inr rfl))
  have e3:=hlt q.bs (.inr (.inl rfl))
  have L:b_ (fun j=>j≠q.bd/\j≠q.bm/\j≠a) W (T.setCell ⟨a,0,none⟩ (.int .i64 ((z:Int)+1))):=(G.imp (E:=fun j=>j≠q.bd/\j≠q.bm/\j≠a) fun _ _ hj=>⟨hj.1,hj.2.1⟩).Qd ac fun _ _ hj=>hj.2.2
  refine⟨⟨L.size,fun j o hj ho _=>(L.block j (Zl ho) ⟨zo,zo,zo⟩).trans ho⟩,L.imp (fun j _ hj=>by omega),⟨ao,?_⟩,?_,?_⟩
  ·have ar:=I.keep ac (fun j hj=>by rcases hj with rfl|rfl|rfl <;> omega) (fun j hj aD e=>by subst e;omega)
   rw[wU,zL,List.length_singleton,<- aq,<- Nat.add_assoc];exact ar
  ·have hv:((z:Int)+1)=((first+(g++[x]).length:Nat):Int):=by rw[zL,List.length_singleton];omega
   rw[dM p 0,hv]
   rfl
  exact d.Qd L fun j _ hj=>hj.2
 case done =>
  rintro Db xs W au rfl⟨⟨wr',hd⟩,hf,d⟩ H
  rw[zn,iV zr] at hd
  have Z:=J3 d H hd
  clear hd hf d H
  gi_wp2
  obtain⟨d,H,av⟩:=Z.out
  have f:=s.out
  have v:=t.out
  have e1:=hlt q.bd (.inl rfl)
  have e2:=hlt q.bm (.inr (.inr rfl))
  have e3:=hlt q.bs (.inr (.inl rfl))
  refine⟨by simp,.inl ⟨_,_,rfl,run_takeDeferred H,?_⟩⟩
  have hg:=grownBy_putObj' W Db (.deferred none)
  have q1:b_ (fun j=>j≠q.bd/\j≠q.bm) w W:=(b_.Qe R).Qd d (fun j hj hd=>⟨zo,hd.1,hd.2,zo⟩)
  refine⟨_,results_none rfl _ _ _,rfl,q1.grown hg (fun j e hd=>by injection e with e;omega),wr',(av.other hg i.heap.size (fun j hj=>Nat.lt_of_lt_of_le (hlt j hj) aa) (fun r e=>by injection e with e;subst e;exact⟨au,_,H,rfl⟩)).swap2 (fun j _ hj=>?_) B.out⟩
  rcases hj with hj|hj
  ·exact hj.1
  exact hD j zo
 rintro D c g W _ _ h _
 exact h.elim
theorem CB(c:BitVec 32):beI 2 (wv (c >>> 16))++beI 2 (wv c)=be4 c:=by
 have h:∀(x y:BitVec 32) (z:Int),z=wv y->UInt8.ofNat (z%256).toNat=mV y:=fun _ y z h=>by
  subst h
  unfold mV wv
  congr 1
 have h2:c >>> 16 >>> 8=c >>> 24:=by rw[<- BitVec.shiftRight_add]
 unfold be4
 simp only[beI,List.range_succ,List.range_zero,List.nil_append,List.map_cons,List.map_nil,List.cons_append]
 rw[h c (c >>> 24) _ (by rw[<- h2];exact zS (c >>> 16) 8),h c (c >>> 16) _ (by simp),h c (c >>> 8) (wv c/2^(8*(2-1-0))) (zS c 8),h c c (wv c/2^(8*(2-1-1))) (by simp)]
theorem CO(w:World):∃w0,(convert 22 22 (.slice (some ⟨w.heap.size,0,none⟩) 4 4)).run prog (w.alloc (.cells #[.int .u8 87,.int .u8 79,.int .u8 82,.int .u8 77] 5))=.ok (.slice (some ⟨w.heap.size,0,none⟩) 4 4) w0/\Bs w0 (fun b=>w.heap.size<=b) (some ⟨w.heap.size,0,none⟩) 4 [87,79,82,77]/\New w w0:=by
 obtain⟨w0,c,d,f⟩:=vR 4 4 (heap_alloc_new w (.cells #[.int .u8 87,.int .u8 79,.int .u8 82,.int .u8 77] 5))
 have h:Bs (w.alloc (.cells #[.int .u8 87,.int .u8 79,.int .u8 82,.int .u8 77] 5)) (fun g=>w.heap.size<=g) (some ⟨w.heap.size,0,none⟩) 4 [87,79,82,77]:=I_ w 87 79 82 77
 have j:Bs w0 (fun b=>w.heap.size<=b) (some ⟨w.heap.size,0,none⟩) 4 [87,79,82,77]:=by
  obtain⟨h1,h2⟩:=Row.like h f
  refine⟨h1,fun hn=>?_⟩
  obtain⟨b,off,e,_,hl,hc⟩:=h2 hn
  injection e with e
  injection e with e e'
  subst e e'
  exact⟨_,_,rfl,zr,hl,hc⟩
 have a:New w w0:=(b_.Qd (D:=fun b=>b<w.heap.size) (b_.Qe ((zN w).alloc (.cells #[.int .u8 87,.int .u8 79,.int .u8 82,.int .u8 77] 5))) d (fun i _ hi e=>by subst e;exact absurd hi (Nat.lt_irrefl _))).Qi (fun i hi=>hi)
 exact⟨w0,c,j,a⟩
def m_(n:Int)(id:List UInt8):List UInt8:=[87,79,82,77]++beI 2 1++beI 2 n++id
def fc(n:Int)(id:List UInt8):List UInt8:=m_ n id++be4 (fp (m_ n id))++List.replicate 100 0
theorem qv{n:Int}{id:List UInt8}(h:id.length=16):(m_ n id).length=24:=by unfold m_;simp[dL,h]
theorem gl{n:Int}{id:List UInt8}(h:id.length=16):(fc n id).length=128:=by unfold fc;rw[zL,zL,qv h,List.length_replicate];rfl
theorem C2{n:Int}{c:Nat}(hn:n<64\/4096<n\/m≠16)(hr : -9223372036854775808<=n/\n<=9223372036854775807)(w:World):
  Calls prog 72 #[.int .i64 n,.slice A m c] w fun e w'=>e=.returned (.tuple #[.slice none 0 0,.int .i64 1])/\New w w':=by
 have a:=zh<|oL n hr w
 by_cases h1:64<=n/\n<=4096
 ·have hm:m≠16:=by omega
  have hd:((m:Int)==16)=false:=by simp;omega
  have e:=lF h1.1 h1.2
  rw[e] at a
  dsimp only at a
  generalize n/4=p at *
  generalize (n-1-2*p)/8=g at *
  clear e h1 hn
  go_in
  go_wp2_with fail
  refine a.mono ?_
  rintro e w'⟨rfl,b⟩
  go_wp2
  refine Zb (.tuple #[.slice none 0 0,.int .i64 1]) (by simp[results,results72,go_sem]) ?_
  exact⟨rfl,b.alloc _⟩
 have e:j9 n=(0,0,0,1):=by unfold j9;rw[if_pos zo]
 rw[e] at a
 dsimp only at a
 clear e h1 hn
 go_in
 go_wp2_with fail
 refine a.mono ?_
 rintro e w'⟨rfl,b⟩
 go_wp2
 refine Zb (.tuple #[.slice none 0 0,.int .i64 1]) (by simp[results,results72,go_sem]) ?_
 exact⟨rfl,b.alloc _⟩
theorem vb{n:Int}(h0:64<=n)(h1:n<=4096){c:Nat}{id:List UInt8}(hB:Bs w D A 16 id):
  Calls prog 72 #[.int .i64 n,.slice A 16 c] w fun e w'=>(∃A' c',e=.returned (.tuple #[.slice A' 128 c',.int .i64 0])/\fy w' w.heap.size 5 A' 128 c' (fc n id))/\New w w':=by
 have B:=zh<|oL n zo w
 rw[lF h0 h1] at B
 dsimp only at B
 generalize n/4=p at *
 generalize (n-1-2*p)/8=g at *
 have C:=hB.len
 have Q:=zh hB
 clear hB h0 h1
 go_in
 go_wp2_with fail
 refine B.mono ?_
 rintro e w1⟨rfl,R⟩
 go_upto_region 2 with fail
 have S:=R.alloc (.cells #[.int .i64 n,.int .i64 p,.int .i64 g] 35)
 generalize w1.alloc (.cells #[.int .i64 n,.int .i64 p,.int .i64 g] 35)=M at *
 have r:=zh S
 clear R S B
 go_wp2_with fail
 refine(gV M).mono ?_
 rintro e w3⟨⟨q,rfl,F⟩,T⟩
 have d:=zh<|b_.Qe (D:=fun b=>b<M.heap.size) T
 have U:=zh r.size
 have f:=zh F
 clear T F
 go_upto_region 5 with fail
 obtain⟨ad,e0,s,t⟩:=CO w3
 have G:=zh<|f.keep t fun _ _=>zt
 have H:=zh<|d.new t
 clear f d t
 go_wp2_with fail
 refine(iy _ _ _ _ 4 4 _ _ _ G.out s Zd).mono ?_
 rintro e w4⟨rfl,a,hk⟩
 have d:=zh<|H.trans hk
 have f:=zh a
 clear a hk s G H
 go_wp2_with fail
 refine(fR _ _ _ 1 w4 f.out Zd).mono ?_
 rintro e w5⟨rfl,a,hk⟩
 replace d:=zh<|d.trans hk
 replace f:=zh a
 clear a hk
 go_wp2_with fail
 refine(fR _ _ _ n w5 f.out (by simp[dL])).mono ?_
 rintro e w6⟨rfl,a,hk⟩
 replace d:=zh<|d.trans hk
 replace f:=zh a
 clear a hk
 go_wp2_with fail
 refine(iy _ _ _ A 16 c _ id w6 f.out (((Q.new r.out).imp (E:=fun b=>b<M.heap.size) fun b hb _=>hb).keep d.out fun b _ hb=>hb) (by simp[dL])).mono ?_
 rintro e w7⟨rfl,a,hk⟩
 replace d:=zh<|d.trans hk
 have u:[]++[87,79,82,77]++beI 2 1++beI 2 n++id=m_ n id:=by unfold m_;simp
 rw[u] at a
 have h:=qv (n:=n) C
 have V:Hid (fc n id=m_ n id++be4 (fp (m_ n id))++List.replicate 100 0):=zh rfl
 generalize k:m_ n id=bs at a h V
 replace f:=zh a
 clear a hk u k
 go_wp2_with fail
 refine(iI _ _ _ w7 f.out (by rw[h];decide)).mono ?_
 rintro e X⟨⟨A8,c8,rfl,N⟩,O⟩
 replace d:=zh<|d.new O
 replace f:=zh<|f.keep O fun _ _=>zt
 rw[h] at N
 have Y:=zh N
 clear O N
 rw[h]
 go_wp2_with fail
 refine(pn _ A8 24 c8 bs X (Row.Qc Y.out) Zd).mono ?_
 rintro e Z⟨rfl,rfl⟩
 generalize fp bs=i at *
 have q1:IntKind.i64.wrap (wv (i >>> 16))=wv (i >>> 16):=IntWalk.i64_in _ (by have:=uY (i >>> 16);omega)
 have q2:IntKind.i64.wrap (wv i)=wv i:=IntWalk.i64_in _ (by have:=uY i;omega)
 clear Y
 go_wp2_with fail
 refine(fR _ _ _ (wv (i >>> 16)) X f.out (by rw[h];decide)).mono ?_
 rintro e Z⟨rfl,a,hk⟩
 replace d:=zh<|d.trans hk
 replace f:=zh a
 clear a hk
 go_wp2_with fail
 refine(fR _ _ _ (wv i) Z f.out (by rw[zL,h,dL];decide)).mono ?_
 rintro e aa⟨rfl,a,hk⟩
 replace d:=zh<|d.trans hk
 rw[List.append_assoc,CB] at a
 have j:(bs++be4 i).length=28:=by rw[zL,h];rfl
 generalize k:bs++be4 i=ae at a j
 have P:=zh k
 replace f:=zh a
 clear a hk k q1 q2
 go_wp2_with fail
 refine(iI _ _ _ aa f.out (by rw[j];decide)).mono ?_
 rintro e x⟨⟨af,ag,rfl,ab⟩,y⟩
 replace d:=zh<|d.new y
 replace f:=zh<|f.keep y fun _ _=>zt
 clear y ab
 rw[j]
 obtain⟨o,l⟩:=zx (((List.replicate 100 (0:UInt8)).map eE).toArray)
 have ah:∀W,(Instr.makeSlice 22 (.int .i64 100) (.int .i64 100)).run prog W=.ok (.slice (some ⟨W.heap.size,0,none⟩) 100 100) (W.alloc (.cells o 5)):=fun W=>by rw[l];exact l8 100 Zd W
 have I:Hid (o.toList=(List.replicate 100 (0:UInt8)).map eE/\o.size=100):=zh ⟨by rw[l],by rw[l];rfl⟩
 clear l
 go_wp2_with fail
 have hz:=Row.made x 5 o 100 1 (by rw[I.2])
 rw[I.1] at hz
 replace d:=zh<|d.new ((zN x).alloc (.cells o 5))
 replace f:=zh<|f.keep ((zN x).alloc (.cells o 5)) fun _ _=>zt
 refine(iy _ _ _ _ 100 100 _ _ _ f.out hz (by rw[j];decide)).mono ?_
 rintro e ac⟨rfl,a,hk⟩
 replace d:=zh<|d.trans hk
 rw[<- P.out,<- V.out] at a
 replace f:=zh a
 have z:=gl (n:=n) C
 clear a hk hz
 go_wp2_with fail
 refine(iI _ _ _ ac f.out (by rw[z];decide)).mono ?_
 rintro e ai⟨⟨J,K,rfl,L⟩,m⟩
 have HF:=J2 L m
 clear L m
 rw[z] at HF ⊢
 go_wp2
 refine Zb (.tuple #[.slice J 128 K,.int .i64 0]) (by simp[results,results72,go_sem]) ?_
 obtain⟨ho,m⟩:=HF.out
 exact⟨⟨J,K,rfl,ownsRow_base_a ho (by have:=d.size;have:=U.out;omega)⟩,r.new ((d.new m).Qi fun b hb=>hb)⟩
def fJ(m:kV):List UInt8:=beI 8 m.gen++beI 8 m.seq++beI 2 m.segs++m.head++beI 8 m.data.length
def eG(p:Int)(m:kV):List UInt8:=fJ m++be4 (fp (fJ m))++gL m.data++m.data++List.replicate ((128*p).toNat-94-m.data.length) 0
theorem lE{m:kV}(h:m.head.length=32):(fJ m).length=58:=by unfold fJ;simp[dL,h]
theorem yl{m:kV}(hr:fg s p g=true)(hm:ol p g m){B:Option Addr}{E:Nat->Prop}(hA:Bs w D A 32 m.head)(hB:Bs w E B m.data.length m.data)(hc2:m.data.length<=c2)(hfit:(m.data.length:Int)<=128*p-94):
  Calls prog 165 #[.agg #[.int .i64 s,.int .i64 p,.int .i64 g],.agg #[.int .u64 m.gen,.int .u64 m.seq,.int .i64 m.segs,.slice A 32 c1,.slice B m.data.length c2]] w fun e w'=>(∃A' c',e=.returned (.tuple #[.slice A' (eG p m).length c',.int .i64 0])/\fy w' w.heap.size 5 A' (eG p m).length c' (eG p m))/\New w w':=by
 obtain⟨l,T⟩:=zx (m.data.length)
 rw[<- T] at hB hc2 hfit ⊢
 have HR:=fun W=>zh (kP s p g (by have:=fX hr;omega) W)
 rw[hr] at HR
 have HM:=fun W=>zh (tG (s:=s) hm A B 32 c1 l c2 rfl W)
 have HO:=fun W=>zh (vo hr W)
 obtain⟨-,-,aG,aH,-,-,-⟩:=fX hr
 have aX:l<=1000000:=by omega
 have aV:=hm.gen
 have aW:=hm.seq
 have aj:=hm.head
 obtain⟨k,hk⟩:=zx ((128*p).toNat-94-l)
 have ak:Hid (eG p m=fJ m++be4 (fp (fJ m))++gL m.data++m.data++List.replicate k 0):=zh (by rw[hk,T];rfl)
 have aB:128*p-94-(l:Int)=(k:Int):=zo
 have aI:k<=1000000:=by omega
 have aJ:decide (128*p-94<(l:Int))=false:=decide_eq_false zo
 generalize 128*p-94=RM at HO aB aJ
 have al:=zh<|lE aj
 have am:Hid (fJ m=[]++beI 8 m.gen++beI 8 m.seq++beI 2 m.segs++m.head++beI 8 l):=zh (by unfold fJ;rw[T];simp)
 obtain⟨Q,se,R,hd,M⟩:=m
 dsimp only at *
 replace T:=zh T
 clear hr hm aG aH hk hfit
 have kA:=((zN w).alloc (.cells #[.int .i64 s,.int .i64 p,.int .i64 g] 35)).alloc (.cells #[.int .u64 Q,.int .u64 se,.int .i64 R,.slice A 32 c1,.slice B l c2] 101)
 have x1:=((zN (w.alloc (.cells #[.int .i64 s,.int .i64 p,.int .i64 g] 35))).alloc (.cells #[.int .u64 Q,.int .u64 se,.int .i64 R,.slice A 32 c1,.slice B l c2] 101)).Qa (heap_alloc_new w (.cells #[.int .i64 s,.int .i64 p,.int .i64 g] 35)) trivial
 have x2:=heap_alloc_new (w.alloc (.cells #[.int .i64 s,.int .i64 p,.int .i64 g] 35)) (.cells #[.int .u64 Q,.int .u64 se,.int .i64 R,.slice A 32 c1,.slice B l c2] 101)
 rw[show(w.alloc (.cells #[.int .i64 s,.int .i64 p,.int .i64 g] 35)).heap.size=w.heap.size+1 from by simp] at x2
 go_in
 go_upto_region 1 with fail
 generalize hgp:w.heap.size=n at *
 generalize (w.alloc (.cells #[.int .i64 s,.int .i64 p,.int .i64 g] 35)).alloc (.cells #[.int .u64 Q,.int .u64 se,.int .i64 R,.slice A 32 c1,.slice B l c2] 101)=w1 at *
 have HG:=zh hgp
 clear hgp
 obtain⟨o,r,t⟩:=cs3 x1
 obtain⟨u,x,y,z,C⟩:=cs5 x2
 have d:=J2 x1 x2
 have H:=zh kA
 clear x1 x2 kA
 go_wp2_with fail
 refine(HR _).mono ?_
 rintro e w2⟨rfl,k2⟩
 replace d:=J2 (k2.Qa d.1 zt) (k2.Qa d.2 zt)
 replace H:=zh<|H.new k2
 clear o r t u x y z C k2 HR
 obtain⟨o,r,t⟩:=cs3 d.1
 obtain⟨u,x,y,z,C⟩:=cs5 d.2
 go_wp2_with fail
 refine(HM _).mono ?_
 rintro e L⟨rfl,k3⟩
 replace d:=J2 (k3.Qa d.1 zt) (k3.Qa d.2 zt)
 replace H:=zh<|H.new k3
 clear o r t u x y z C k3 HM
 go_upto_region 5 with fail
 have U:∀W,New L W->W.cell? ⟨n,0,none⟩=some (.int .i64 s):=fun W a=>a.Qb (a_ d.1 (k:=0) rfl) trivial
 have V:∀W,New L W->W.cell? ⟨n,1,none⟩=some (.int .i64 p):=fun W a=>a.Qb (a_ d.1 (k:=1) rfl) trivial
 have X:∀W,New L W->W.cell? ⟨n,2,none⟩=some (.int .i64 g):=fun W a=>a.Qb (a_ d.1 (k:=2) rfl) trivial
 have Y:∀W,New L W->W.cell? ⟨n+1,4,none⟩=some (.slice B l c2):=fun W a=>a.Qb (a_ d.2 (k:=4) rfl) trivial
 refine eL zk ?_
 have h:New L L.drew:=(zN L).drew
 replace U:=fun W (a:New L.drew W)=>U W (b_.new h a)
 replace V:=fun W (a:New L.drew W)=>V W (b_.new h a)
 replace X:=fun W (a:New L.drew W)=>X W (b_.new h a)
 replace Y:=fun W (a:New L.drew W)=>Y W (b_.new h a)
 refine cL 0 ?_
 refine cL 1 ?_
 refine cL 2 ?_
 refine cL 3 ?_
 refine d_ (i:=4) zk rfl rfl (fun K N=>?_)
 go_simp
 refine(HO _).mono ?_
 rintro e j⟨rfl,k4⟩
 go_wp2_with fail
 refine N _ _ k4 ?_
 clear N K
 try simp only[zy]
 replace h:=b_.new h k4
 replace U:=fun W (a:New j W)=>U W (b_.new k4 a)
 replace V:=fun W (a:New j W)=>V W (b_.new k4 a)
 replace X:=fun W (a:New j W)=>X W (b_.new k4 a)
 replace Y:=fun W (a:New j W)=>Y W (b_.new k4 a)
 refine cL 5 ?_
 refine cL 6 ?_
 refine wpAnyH_done zk ?_ _
 have ac:New L j:=h
 replace d:=J2 (ac.Qa d.1 zt) (ac.Qa d.2 zt)
 replace H:=zh<|H.new ac
 clear U V X Y h ac
 go_wp2_with fail
 refine(gV j).mono ?_
 rintro e w5⟨⟨q,rfl,an⟩,k5⟩
 have aK:=d.1
 have I:n<j.heap.size/\n+1<j.heap.size:=⟨World.block_lt_of_cell? j ⟨n,0,none⟩ (a_ d.1 (k:=0) rfl),World.block_lt_of_cell? j ⟨n+1,0,none⟩ (a_ d.2 (k:=0) rfl)⟩
 clear aK
 have F:Hid (∀W,b_ (Lo j.heap.size) j W->W.cell? ⟨n,0,none⟩=some (.int .i64 s)/\W.cell? ⟨n,1,none⟩=some (.int .i64 p)/\W.cell? ⟨n,2,none⟩=some (.int .i64 g)/\W.cell? ⟨n+1,0,none⟩=some (.int .u64 Q)/\W.cell? ⟨n+1,1,none⟩=some (.int .u64 se)/\W.cell? ⟨n+1,2,none⟩=some (.int .i64 R)/\W.cell? ⟨n+1,3,none⟩=some (.slice A 32 c1)/\W.cell? ⟨n+1,4,none⟩=some (.slice B l c2)) :=
  zh fun W a=>⟨a.Qb (a_ d.1 (k:=0) rfl) I.1,a.Qb (a_ d.1 (k:=1) rfl) I.1,a.Qb (a_ d.1 (k:=2) rfl) I.1,a.Qb (a_ d.2 (k:=0) rfl) I.2,a.Qb (a_ d.2 (k:=1) rfl) I.2,a.Qb (a_ d.2 (k:=2) rfl) I.2,a.Qb (a_ d.2 (k:=3) rfl) I.2,a.Qb (a_ d.2 (k:=4) rfl) I.2⟩
 have aL:Hid (∀W,b_ (Lo j.heap.size) j W->Bs W (Lo j.heap.size) A 32 hd):=zh fun W a=>((hA.new H.out).imp (E:=Lo j.heap.size) fun b hb _=>hb).keep a fun b _ hb=>hb
 have ao:Hid (∀W,b_ (Lo j.heap.size) j W->Bs W (Lo j.heap.size) B l M):=zh fun W a=>((hB.new H.out).imp (E:=Lo j.heap.size) fun b hb _=>hb).keep a fun b _ hb=>hb
 generalize G:j.heap.size=base at *
 have ad:=zh G
 have c:=zh<|b_.Qe (D:=Lo base) k5
 have f:=zh an
 clear k5 an d hA hB G I
 obtain⟨o,r,t,u,x,y,z,C⟩:=F.out _ c.out
 go_wp2_with fail
 refine(jw _ _ _ Q w5 f.out zo zo Zd).mono ?_
 rintro e w6⟨rfl,a,hk⟩
 replace c:=zh<|c.trans hk
 replace f:=zh a
 clear a hk o r t u x y z C
 obtain⟨o,r,t,u,x,y,z,C⟩:=F.out _ c.out
 go_wp2_with fail
 refine(jw _ _ _ se w6 f.out zo zo (by simp[dL])).mono ?_
 rintro e w7⟨rfl,a,hk⟩
 replace c:=zh<|c.trans hk
 replace f:=zh a
 clear a hk o r t u x y z C
 obtain⟨o,r,t,u,x,y,z,C⟩:=F.out _ c.out
 go_wp2_with fail
 refine(fR _ _ _ R w7 f.out (by simp[dL])).mono ?_
 rintro e w8⟨rfl,a,hk⟩
 replace c:=zh<|c.trans hk
 replace f:=zh a
 clear a hk o r t u x y z C
 obtain⟨o,r,t,u,x,y,z,C⟩:=F.out _ c.out
 go_wp2_with fail
 refine(iy _ _ _ A 32 c1 _ hd w8 f.out (aL.out _ c.out) (by simp[dL])).mono ?_
 rintro e w9⟨rfl,a,hk⟩
 replace c:=zh<|c.trans hk
 replace f:=zh a
 clear a hk o r t u x y z C
 obtain⟨o,r,t,u,x,y,z,C⟩:=F.out _ c.out
 go_wp2_with fail
 refine(jw _ _ _ (l:Int) w9 f.out zo zo (by simp[dL,aj])).mono ?_
 rintro e aM⟨rfl,a,hk⟩
 replace c:=zh<|c.trans hk
 rw[<- am.out] at a
 have O:=al.out
 generalize fJ { gen:=Q,seq:=se,segs:=R,head:=hd,data:=M }=bs at a O ak
 replace f:=zh a
 clear a hk o r t u x y z C al am
 go_wp2_with fail
 refine(iI _ _ _ aM f.out (by rw[O];decide)).mono ?_
 rintro e ap⟨⟨A8,c8,rfl,o8⟩,k8⟩
 replace c:=zh<|c.new k8
 replace f:=zh<|f.keep k8 fun _ _=>zt
 rw[O] at o8
 have O8:=zh o8
 clear k8 o8
 rw[O]
 go_wp2_with fail
 refine(pn _ A8 58 c8 bs ap (Row.Qc O8.out) Zd).mono ?_
 rintro e aq⟨rfl,rfl⟩
 generalize fp bs=S at *
 have q1:IntKind.i64.wrap (wv (S >>> 16))=wv (S >>> 16):=IntWalk.i64_in _ (by have:=uY (S >>> 16);omega)
 have q2:IntKind.i64.wrap (wv S)=wv S:=IntWalk.i64_in _ (by have:=uY S;omega)
 clear O8
 go_wp2_with fail
 refine(fR _ _ _ (wv (S >>> 16)) ap f.out (by rw[O];decide)).mono ?_
 rintro e aq⟨rfl,a,hk⟩
 replace c:=zh<|c.trans hk
 replace f:=zh a
 clear a hk
 go_wp2_with fail
 refine(fR _ _ _ (wv S) aq f.out (by rw[zL,O,dL];decide)).mono ?_
 rintro e aN⟨rfl,a,hk⟩
 replace c:=zh<|c.trans hk
 rw[List.append_assoc,CB] at a
 have Z:(bs++be4 S).length=62:=by rw[zL,O];rfl
 generalize G:bs++be4 S=ar at a Z
 have aC:=zh G
 replace f:=zh a
 clear a hk G q1 q2
 obtain⟨o,r,t,u,x,y,z,C⟩:=F.out _ c.out
 go_wp2_with fail
 refine(mm _ B l c2 M aN (ao.out _ c.out) hc2 zo).mono ?_
 rintro e aO⟨⟨A9,c9,rfl,o9⟩,k9⟩
 replace c:=zh<|c.new k9
 replace f:=zh<|f.keep k9 fun _ _=>zt
 have O9:=zh o9
 clear k9 o9 o r t u x y z C
 go_wp2_with fail
 refine(iy _ _ _ A9 32 c9 _ _ aO f.out (Row.Qc O9.out) (by rw[Z];decide)).mono ?_
 rintro e aP⟨rfl,a,hk⟩
 replace c:=zh<|c.trans hk
 have aa:(ar++gL M).length=94:=by rw[zL,Z,gy]
 generalize G:ar++gL M=au at a aa
 have aD:=zh G
 replace f:=zh a
 clear a hk G O9
 obtain⟨o,r,t,u,x,y,z,C⟩:=F.out _ c.out
 go_wp2_with fail
 refine(iy _ _ _ B l c2 _ M aP f.out (ao.out _ c.out) (by rw[aa];omega)).mono ?_
 rintro e J⟨rfl,a,hk⟩
 replace c:=zh<|c.trans hk
 have ab:(au++M).length=94+l:=by rw[zL,aa,T.out]
 generalize G:au++M=aQ at a ab
 have aE:=zh G
 replace f:=zh a
 clear a hk G o r t u x y z C
 go_upto_region 18 with fail
 obtain⟨Zc,ae⟩:=zx (((List.replicate k (0:UInt8)).map eE).toArray)
 have aR:∀W,(Instr.makeSlice 22 (.int .i64 (k:Int)) (.int .i64 (k:Int))).run prog W=.ok (.slice (some ⟨W.heap.size,0,none⟩) k k) (W.alloc (.cells Zc 5)):=fun W=>by rw[ae];exact l8 k aI W
 have av:Hid (Zc.toList=(List.replicate k (0:UInt8)).map eE/\Zc.size=k):=zh ⟨by rw[ae],by rw[ae];simp⟩
 clear ae
 have U:∀W,b_ (Lo base) J.drew W->W.cell? ⟨n,0,none⟩=some (.int .i64 s):=fun W a=>(F.out W (c.drew.trans a)).1
 have V:∀W,b_ (Lo base) J.drew W->W.cell? ⟨n,1,none⟩=some (.int .i64 p):=fun W a=>(F.out W (c.drew.trans a)).2.1
 have X:∀W,b_ (Lo base) J.drew W->W.cell? ⟨n,2,none⟩=some (.int .i64 g):=fun W a=>(F.out W (c.drew.trans a)).2.2.1
 have Y:∀W,b_ (Lo base) J.drew W->W.cell? ⟨n+1,4,none⟩=some (.slice B l c2):=fun W a=>(F.out W (c.drew.trans a)).2.2.2.2.2.2.2
 have q4:IntKind.i64.wrap (k:Int)=k:=IntWalk.i64_in _ zo
 have q3:IntKind.i64.wrap (RM-(l:Int))=RM-(l:Int):=IntWalk.i64_in _ zo
 refine eu (b_ (Lo base) J.drew) zk ?_
 have h:b_ (Lo base) J.drew J.drew:=b_.refl _ _
 refine c_ 0 h ?_
 refine c_ 1 h ?_
 refine c_ 3 h ?_
 refine c_ 4 h ?_
 refine c_ 5 h ?_
 refine dQ (i:=2) zk rfl rfl (fun K N=>?_)
 go_simp
 refine(HO _).mono ?_
 rintro e aw⟨rfl,ag⟩
 go_wp2_with fail
 have P:=b_.new h ag
 refine N _ _ P ?_
 clear N K
 try simp only[zy]
 replace h:=P
 clear P
 refine c_ 6 h ?_
 have kz:=(zN aw).alloc (.cells Zc 5)
 have hz:=Row.made aw 5 Zc k 1 (by rw[av.2,Nat.mul_one])
 rw[av.1] at hz
 refine dQ (i:=7) zk rfl rfl (fun K N=>?_)
 go_simp
 go_wp2_with fail
 have P:=b_.new h kz
 refine N _ _ P ?_
 clear N K
 try simp only[zy]
 replace h:=P
 clear P
 have ah:=zh<|((f.keep (D:=fun _=>True) (b_.drew (zN J)) fun _ _=>zt).keep ag fun _ _=>zt).keep kz fun _ _=>zt
 refine dQ (i:=8) zk rfl rfl (fun K N=>?_)
 (go_simp;refine(iy _ _ _ _ k k _ _ _ ah.out hz (by rw[ab];omega)).mono ?_)
 (rintro e aS ⟨rfl,a,hk⟩;go_wp2_with fail)
 have P:=h.trans hk
 refine N _ _ P ?_
 clear N K
 try simp only[zy]
 replace h:=P
 clear P
 refine wpAnyH_done zk ?_ _
 replace c:=zh<|c.drew.trans h
 have ax:Hid (eG p { gen:=Q,seq:=se,segs:=R,head:=hd,data:=M }=aQ++List.replicate k 0):=zh (by rw[ak.out,<- aE.out,<- aD.out,<- aC.out])
 rw[<- ax.out] at a
 have aF:(eG p { gen:=Q,seq:=se,segs:=R,head:=hd,data:=M }).length<=3000000:=by rw[ax.out,zL,ab,List.length_replicate];omega
 obtain⟨aT,ai⟩:∃b,b=eG p { gen:=Q,seq:=se,segs:=R,head:=hd,data:=M }:=⟨_,rfl⟩
 rw[<- ai] at a aF
 have aU:=zh ai
 clear ai
 replace f:=zh a
 clear a hk hz U V X Y h aR kz ag ah
 go_wp2_with fail
 refine(iI _ _ _ aS f.out zo).mono ?_
 rintro e aY⟨⟨ay,az,rfl,aA⟩,af⟩
 have HF:=J2 aA af
 clear aA af
 go_wp2
 refine Zb (.tuple #[.slice ay aT.length az,.int .i64 0]) (by simp[results,results165,go_sem]) ?_
 obtain⟨ho,af⟩:=HF.out
 rw[<- aU.out]
 exact⟨⟨ay,az,rfl,ownsRow_base_a ho (by have:=c.size;have:=H.size;have:=ad.out;have:=HG.out;omega)⟩,H.new ((c.new af).Qi fun b hb=>by have:=ad.out;show b<base;omega)⟩
theorem mJ{p:Nat}{m:kV}(h:m.head.length=32)(hf:(m.data.length:Int)<=128*(p:Int)-94):(eG (p:Int) m).length=p*128:=by
 unfold eG
 have hs:=gy m.data
 rw[zL,zL,zL,zL,lE h,hs,List.length_replicate]
 have:(be4 (fp (fJ m))).length=4:=rfl
 omega
theorem DP{q:g9}{M:gM}{k p g:Nat}{m:kV}(h:fj w D q S M n wr)(hk:S.length=k*128)(hD:∀b,w.heap.size<=b->D b)(hn:n+p<1000000)(hp1:p<=1000)(hr:fg k p g=true)(hm:ol p g m){B:Option Addr}{D1:Nat->Prop}(hA:Bs w D1 A 32 m.head)(hB:Bs w D2 B m.data.length m.data)(hc2:m.data.length<=c2)(hfit:(m.data.length:Int)<=128*(p:Int)-94):
  Calls prog 76 #[.pointer (some ⟨q.bd,0,none⟩),.agg #[.int .i64 k,.int .i64 p,.int .i64 g],.agg #[.int .u64 m.gen,.int .u64 m.seq,.int .i64 m.segs,.slice A 32 c1,.slice B m.data.length c2]] w fun e w'=>e=.returned (.int .i64 0)/\b_ (fun j=>j≠q.bd/\j≠q.bm) w w' /\
   ∃wr',fj w' D q S (gO M (1+(m.gen%2).toNat*p) p (eG p m)) (n+p) wr':=by
 have a:=mJ (p:=p) hm.head hfit
 obtain⟨b1,b2,Y,b4,b5,b6,b7⟩:=fX hr
 obtain⟨r,t⟩:∃r:Nat,m.gen%2=(r:Int)/\r<=1:=⟨(m.gen%2).toNat,zo,zo⟩
 have c:=fun W (Z:New w W)=>zh (yl (c1:=c1) hr hm (hA.new Z) (hB.new Z) hc2 hfit)
 rw[a] at c
 have d:=fun W=>zh (rZ (i:=(r:Int)) hr zo W)
 have af:=hm.gen
 have ag:m.gen.tmod 2=(r:Int):=by rw[Int.tmod_eq_emod_of_nonneg zo];exact t.1
 have ah:m.gen%2=(r:Int):=t.1
 have I:(m.gen%2).toNat=r:=by omega
 rw[I]
 have ai:IntKind.i64.wrap (r:Int)=r:=IntWalk.i64_in _ zo
 have aj:r*p<=p:=by have:=Nat.mul_le_mul_right p t.2;omega
 have f:(1+(r:Int)*(p:Int))=((1+r*p:Nat):Int):=by push_cast;rfl
 rw[f] at d
 have HH:=J4 h hk hD a
 have aa:Hid (∀j,j=q.bd\/j=q.bs\/j=q.bm->j<w.heap.size):=zh h.lt
 obtain⟨first,J⟩:=zx (1+r*p)
 rw[<- J] at d ⊢
 have ab:Hid (first+p<=k):=zh zo
 obtain⟨pb,K⟩:=zx (eG (p:Int) m)
 rw[<- K] at c HH ⊢
 obtain⟨z,se,C,hd,E⟩:=m
 dsimp only at *
 have O:=J3 hp1 hn Y
 clear h hk hD a hA hB hm hr hfit J K f I b1 b2 Y b4 b5 b6 b7 hp1 hn hc2
 have P:=((zN w).alloc (.cells #[.int .i64 k,.int .i64 p,.int .i64 g] 35)).alloc (.cells #[.int .u64 z,.int .u64 se,.int .i64 C,.slice A 32 c1,.slice B E.length c2] 101)
 have F:=((zN (w.alloc (.cells #[.int .i64 k,.int .i64 p,.int .i64 g] 35))).alloc (.cells #[.int .u64 z,.int .u64 se,.int .i64 C,.slice A 32 c1,.slice B E.length c2] 101)).Qa (heap_alloc_new w (.cells #[.int .i64 k,.int .i64 p,.int .i64 g] 35)) trivial
 have u:=heap_alloc_new (w.alloc (.cells #[.int .i64 k,.int .i64 p,.int .i64 g] 35)) (.cells #[.int .u64 z,.int .u64 se,.int .i64 C,.slice A 32 c1,.slice B E.length c2] 101)
 rw[show(w.alloc (.cells #[.int .i64 k,.int .i64 p,.int .i64 g] 35)).heap.size=w.heap.size+1 from by simp] at u
 obtain⟨dn,v⟩:=zx (E.length)
 rw[<- v] at c F u P ⊢
 replace v:=zh v
 go_in
 go_upto_region 1 with fail
 generalize hgp:w.heap.size=gp at *
 generalize (w.alloc (.cells #[.int .i64 k,.int .i64 p,.int .i64 g] 35)).alloc (.cells #[.int .u64 z,.int .u64 se,.int .i64 C,.slice A 32 c1,.slice B dn c2] 101)=w1 at *
 have HG:=zh hgp
 clear hgp
 obtain⟨Q,R,T⟩:=cs3 F
 obtain⟨U,m1,m2,m3,m4⟩:=cs5 u
 have s:=J2 F u
 have l:=zh P
 clear F u P
 go_wp2_with fail
 refine(c _ l.out).mono ?_
 rintro e w2⟨⟨A',c',rfl,ob⟩,G⟩
 replace s:=J2 (G.Qa s.1 zt) (G.Qa s.2 zt)
 have ac:=zh G
 have x:=zh ob
 clear Q R T U m1 m2 m3 m4 G c ob
 obtain⟨Q,R,T⟩:=cs3 s.1
 have U:=a_ s.2 (k:=0) rfl
 go_wp2_with fail
 refine(d _).mono ?_
 rintro e w3⟨rfl,V⟩
 have y:=zh<|ac.new V
 have X:=zh V
 clear Q R T U V d s
 obtain⟨hd,hk,L,a⟩:=HH.out
 have hl:=aa.out
 have ad:=HG.out
 have hz:=l.size
 have N:=zh<|tS ((hd.new l.out).new y.out) hk (fun b hb=>L b (by have:=y.size;omega)) ab.out O.2.1 (by have:=O.2.2;omega) O.1 A' c' pb ((Row.Qc x.out).new X.out) (ew x.out) (eh x.out) (fun j hj=>⟨fun e=>by have:=hl q.bd (.inl rfl);omega,fun e=>by have:=hl q.bm (.inr (.inr rfl));omega⟩)
 clear hd hk L a hl ad hz
 go_wp2_with fail
 refine N.mono ?_
 rintro e w4⟨rfl,H,o⟩
 have HF:=J2 H o
 clear H o N
 go_wp2
 go_ret
 obtain⟨H,ae,o⟩:=HF.out
 exact⟨rfl,(b_.Qe (l.new y.out)).trans H,ae,o⟩
theorem lm(k:Nat)(n:Int)(rest:List UInt8)(h0:0<=n)(h1:n<256^k):∃m:Nat,RdS.num ⟨beI k n++rest,0⟩ k=(m,⟨rest,0⟩)/\(m:Int)=n :=
 ⟨fG (beI k n),RdS.Qp _ _ _ (dL k n).symm,j1 k n h0 h1⟩
theorem yF(x:BitVec 32):(mV x).toNat=x.toNat%256:=by
 unfold mV
 rw[UInt8.toNat_ofNat']
 omega
theorem Gi(c:BitVec 32)(rest:List UInt8):∃a b:Nat,∃r:List UInt8,RdS.num ⟨be4 c++rest,0⟩ 2=(a,⟨r,0⟩)/\RdS.num ⟨r,0⟩ 2=(b,⟨rest,0⟩)/\(a:Int)=wv (c >>> 16)/\(b:Int)=wv (c &&& 65535#32):=by
 refine⟨fG [mV (c >>> 24),mV (c >>> 16)],fG [mV (c >>> 8),mV c],[mV (c >>> 8),mV c]++rest,?_,RdS.Qp _ _ _ rfl,?_,?_⟩
 ·rw[show be4 c++rest=[mV (c >>> 24),mV (c >>> 16)]++([mV (c >>> 8),mV c]++rest) from rfl]
  exact RdS.Qp _ _ _ rfl
 ·have hc:=c.isLt
  simp only[fG,List.foldl_cons,List.foldl_nil,yF,wv,BitVec.toNat_ushiftRight,Nat.shiftRight_eq_div_pow]
  omega
 have hc:=c.isLt
 have e:(c &&& 65535#32).toNat=c.toNat%65536:=by
  rw[BitVec.toNat_and]
  exact Nat.and_two_pow_sub_one_eq_mod c.toNat 16
 simp only[fG,List.foldl_cons,List.foldl_nil,yF,wv,BitVec.toNat_ushiftRight,Nat.shiftRight_eq_div_pow,e]
 omega
theorem xn(c:BitVec 32):(c >>> 16) <<< 16 ||| (c &&& 65535#32)=c:=by
 apply BitVec.eq_of_toNat_eq
 have hc:=c.isLt
 have e:(c &&& 65535#32).toNat=c.toNat%65536:=by
  rw[BitVec.toNat_and]
  exact Nat.and_two_pow_sub_one_eq_mod c.toNat 16
 rw[BitVec.toNat_or,e,BitVec.toNat_shiftLeft,BitVec.toNat_ushiftRight,Nat.shiftRight_eq_div_pow,Nat.shiftLeft_eq]
 have h1:c.toNat/2^16*2^16%2^32=c.toNat/2^16*2^16:=by omega
 rw[h1,<- Nat.shiftLeft_eq,<- Nat.shiftLeft_add_eq_or_of_lt (show c.toNat%65536<2^16 by omega),Nat.shiftLeft_eq]
 omega
structure EB (bs:List UInt8) (m:kV) (g q s a b:Nat) (r1 r2 r3 r4 r5 r6 r7 r8 r9:List UInt8) (z:Nat):Prop where
 e1:RdS.num ⟨bs,0⟩ 8=(g,⟨r1,0⟩)
 e2:RdS.num ⟨r1,0⟩ 8=(q,⟨r2,0⟩)
 e3:RdS.num ⟨r2,0⟩ 2=(s,⟨r3,0⟩)
 e4:RdS.raw ⟨r3,0⟩ 32=(m.head,⟨r4,0⟩)
 e5:RdS.num ⟨r4,0⟩ 8=(m.data.length,⟨r5,0⟩)
 e6:RdS.num ⟨r5,0⟩ 2=(a,⟨r6,0⟩)
 e7:RdS.num ⟨r6,0⟩ 2=(b,⟨r7,0⟩)
 e8:RdS.raw ⟨r7,0⟩ 32=(gL m.data,⟨r8,0⟩)
 e9:RdS.raw ⟨r8,0⟩ m.data.length=(m.data,⟨r9,0⟩)
 hg:(g:Int)=m.gen
 hq:(q:Int)=m.seq
 hs:(s:Int)=m.segs
 ha:(a:Int)=wv (fp (bs.take 58) >>> 16)
 hb:(b:Int)=wv (fp (bs.take 58) &&& 65535#32)
 tail:bs.drop (94+m.data.length)=List.replicate z 0
 sum4:(bs.drop 58).take 4=be4 (fp (bs.take 58))
 hash:(bs.drop 62).take 32=gL m.data
 body:(bs.drop 94).take m.data.length=m.data
 r9z:r9=List.replicate z 0
theorem yi{m:kV}(hm:ol p g m)(hp:g<=512)(hf:m.data.length<=1000000):
  ∃g q s a b:Nat,∃r1 r2 r3 r4 r5 r6 r7 r8 r9:List UInt8,EB (eG p m) m g q s a b r1 r2 r3 r4 r5 r6 r7 r8 r9 ((128*p).toNat-94-m.data.length):=by
 obtain⟨z,hz⟩:=zx ((128*p).toNat-94-m.data.length)
 rw[<- hz]
 have n:=lE hm.head
 obtain⟨g1,o⟩:=hm.gen
 obtain⟨r,t⟩:=hm.seq
 obtain⟨u,v⟩:=hm.segs
 have hw:eG p m=beI 8 m.gen++(beI 8 m.seq++(beI 2 m.segs++(m.head++(beI 8 m.data.length++(be4 (fp (fJ m))++(gL m.data++(m.data++List.replicate z 0))))))):=by
  rw[hz]
  simp[eG,fJ]
 have f:eG p m=fJ m++(be4 (fp (fJ m))++(gL m.data++(m.data++List.replicate z 0))):=by rw[hz];simp[eG]
 have ht:(eG p m).take 58=fJ m:=by rw[f,List.take_append_of_le_length zo,List.take_of_length_le zo]
 have c:(eG p m).drop 58=be4 (fp (fJ m))++(gL m.data++(m.data++List.replicate z 0)):=by rw[f,List.drop_append_of_le_length zo,List.drop_eq_nil_of_le zo,List.nil_append]
 have d:(eG p m).drop 62=gL m.data++(m.data++List.replicate z 0):=by
  rw[show 62=58+4 from rfl,<- List.drop_drop,c,List.drop_append_of_le_length (by rw[kJ];omega),List.drop_eq_nil_of_le (by rw[kJ];omega),List.nil_append]
 have e:(eG p m).drop 94=m.data++List.replicate z 0:=by
  rw[show 94=62+32 from rfl,<- List.drop_drop,d,List.drop_append_of_le_length (by rw[gy];omega),List.drop_eq_nil_of_le (by rw[gy];omega),List.nil_append]
 obtain⟨i,e1,hg⟩:=lm 8 m.gen (beI 8 m.seq++(beI 2 m.segs++(m.head++(beI 8 m.data.length++(be4 (fp (fJ m))++(gL m.data++(m.data++List.replicate z 0))))))) zo zo
 obtain⟨j,e2,hq⟩:=lm 8 m.seq (beI 2 m.segs++(m.head++(beI 8 m.data.length++(be4 (fp (fJ m))++(gL m.data++(m.data++List.replicate z 0)))))) zo zo
 obtain⟨k,e3,hs⟩:=lm 2 m.segs (m.head++(beI 8 m.data.length++(be4 (fp (fJ m))++(gL m.data++(m.data++List.replicate z 0))))) zo zo
 obtain⟨l,e5,hn⟩:=lm 8 m.data.length (be4 (fp (fJ m))++(gL m.data++(m.data++List.replicate z 0))) zo zo
 obtain⟨a,b,r6,e6,e7,ha,hb⟩:=Gi (fp (fJ m)) (gL m.data++(m.data++List.replicate z 0))
 have h:l=m.data.length:=by omega
 rw[h] at e5
 refine⟨i,j,k,a,b,_,_,_,_,_,r6,_,_,_,⟨by rw[hw];exact e1,e2,e3,RdS.Qm _ _ _ (by rw[hm.head];rfl),e5,e6,e7,RdS.Qm _ _ _ (by rw[gy];rfl),RdS.Qm _ _ _ rfl,hg,hq,hs,by rw[ht];exact ha,by rw[ht];exact hb,?_,?_,?_,?_,rfl⟩⟩
 ·rw[<- List.drop_drop,e,List.drop_append_of_le_length zr,List.drop_eq_nil_of_le zr,List.nil_append]
 ·rw[c,ht,List.take_append_of_le_length (by rw[kJ];omega),List.take_of_length_le (by rw[kJ];omega)]
 ·rw[d,List.take_append_of_le_length (by rw[gy];omega),List.take_of_length_le (by rw[gy];omega)]
 rw[e,List.take_append_of_le_length zr,List.take_of_length_le zr]
