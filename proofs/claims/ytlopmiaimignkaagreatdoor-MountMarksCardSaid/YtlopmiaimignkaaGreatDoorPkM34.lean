/-
  PROVED HERE: parts of a law's walk, each under the conditions that its statement names.
-/
import Derived.Shelf.Small.Wraps
import Derived.Shelf.Strings.Split
import Derived.Sort.Walk0
import Derived.Deep.CutBlock
import Derived.Test.YtlopmiaimignkaaGreatDoorPkM33
set_option maxRecDepth 100000
set_option maxHeartbeats 4000000
namespace Go.Proofs.YtlopmiaimignkaaGreatDoor
open Go.Proofs.Tryz
open Go.RowKit
variable{b bytes cd ce cp g k m n off size:Nat}{p:eZ}{D:Nat->Prop}{A A2 E:Option Addr}{id:Int}{o oi:Oper}{l:List (List UInt8)}{v:Value}{w w' w0:World}{a:Act}{e t:TypeId}{news vs xs:List Value}
section
variable {w w':World}{g:Nat}{c0 c1 c2 c3 c4 c5 c6 c7 c8 c9:Value}{t:TypeId}
theorem eO(h:w.heap[g]?=some (.cells #[c0,c1,c2,c3,c4,c5,c6,c7,c8,c9] t (0,0))):w.cell? ⟨g,0,none⟩=some c0/\w.cell? ⟨g,1,none⟩=some c1/\w.cell? ⟨g,2,none⟩=some c2/\w.cell? ⟨g,3,none⟩=some c3/\w.cell? ⟨g,4,none⟩=some c4/\w.cell? ⟨g,5,none⟩=some c5/\w.cell? ⟨g,6,none⟩=some c6/\w.cell? ⟨g,7,none⟩=some c7/\w.cell? ⟨g,8,none⟩=some c8/\w.cell? ⟨g,9,none⟩=some c9 :=
 ⟨a_ h rfl,a_ h rfl,a_ h rfl,a_ h rfl,a_ h rfl,a_ h rfl,a_ h rfl,a_ h rfl,a_ h rfl,a_ h rfl⟩
theorem gC(h:w.heap[g]?=some (.cells #[c0,c1,c2,c3,c4,c5,c6,c7,c8,c9] t (0,0))):w.frozen? ⟨g,0,none⟩=false/\w.frozen? ⟨g,1,none⟩=false/\w.frozen? ⟨g,2,none⟩=false/\w.frozen? ⟨g,3,none⟩=false/\w.frozen? ⟨g,4,none⟩=false/\w.frozen? ⟨g,5,none⟩=false/\w.frozen? ⟨g,6,none⟩=false/\w.frozen? ⟨g,7,none⟩=false/\w.frozen? ⟨g,8,none⟩=false/\w.frozen? ⟨g,9,none⟩=false :=
 ⟨dP h 0,dP h 1,dP h 2,dP h 3,dP h 4,dP h 5,dP h 6,dP h 7,dP h 8,dP h 9⟩
theorem fI(h:w.heap[g]?=some (.cells #[c0,c1,c2,c3,c4,c5,c6,c7,c8,c9] t (0,0)))(x0 x1 x2 x3 x4 x5 x6 x7 x8 x9:Value):
  ((((((((((w.setCell ⟨g,0,none⟩ x0).setCell ⟨g,1,none⟩ x1).setCell ⟨g,2,none⟩ x2).setCell ⟨g,3,none⟩ x3).setCell ⟨g,4,none⟩ x4).setCell ⟨g,5,none⟩ x5).setCell ⟨g,6,none⟩ x6).setCell ⟨g,7,none⟩ x7).setCell ⟨g,8,none⟩ x8).setCell ⟨g,9,none⟩ x9).heap[g]?=some (.cells #[x0,x1,x2,x3,x4,x5,x6,x7,x8,x9] t (0,0)) /\
  b_ (fun b=>b≠g) w ((((((((((w.setCell ⟨g,0,none⟩ x0).setCell ⟨g,1,none⟩ x1).setCell ⟨g,2,none⟩ x2).setCell ⟨g,3,none⟩ x3).setCell ⟨g,4,none⟩ x4).setCell ⟨g,5,none⟩ x5).setCell ⟨g,6,none⟩ x6).setCell ⟨g,7,none⟩ x7).setCell ⟨g,8,none⟩ x8).setCell ⟨g,9,none⟩ x9):=by
 have a:∀(W:World) (k:Nat) (u:Value),b_ (fun b=>b≠g) w W->b_ (fun b=>b≠g) w (W.setCell ⟨g,k,none⟩ u):=fun W k u c=>c.setCell (p:=⟨g,k,none⟩) (fun hd=>absurd rfl hd) u
 have h0:(w.setCell ⟨g,0,none⟩ x0).heap[g]?=some (.cells #[x0,c1,c2,c3,c4,c5,c6,c7,c8,c9] t (0,0)):=dM h 0 x0
 have h1:((w.setCell ⟨g,0,none⟩ x0).setCell ⟨g,1,none⟩ x1).heap[g]?=some (.cells #[x0,x1,c2,c3,c4,c5,c6,c7,c8,c9] t (0,0)):=dM h0 1 x1
 have h2:(((w.setCell ⟨g,0,none⟩ x0).setCell ⟨g,1,none⟩ x1).setCell ⟨g,2,none⟩ x2).heap[g]?=some (.cells #[x0,x1,x2,c3,c4,c5,c6,c7,c8,c9] t (0,0)):=dM h1 2 x2
 have h3:((((w.setCell ⟨g,0,none⟩ x0).setCell ⟨g,1,none⟩ x1).setCell ⟨g,2,none⟩ x2).setCell ⟨g,3,none⟩ x3).heap[g]?=some (.cells #[x0,x1,x2,x3,c4,c5,c6,c7,c8,c9] t (0,0)):=dM h2 3 x3
 have d:(((((w.setCell ⟨g,0,none⟩ x0).setCell ⟨g,1,none⟩ x1).setCell ⟨g,2,none⟩ x2).setCell ⟨g,3,none⟩ x3).setCell ⟨g,4,none⟩ x4).heap[g]?=some (.cells #[x0,x1,x2,x3,x4,c5,c6,c7,c8,c9] t (0,0)):=dM h3 4 x4
 have h5:((((((w.setCell ⟨g,0,none⟩ x0).setCell ⟨g,1,none⟩ x1).setCell ⟨g,2,none⟩ x2).setCell ⟨g,3,none⟩ x3).setCell ⟨g,4,none⟩ x4).setCell ⟨g,5,none⟩ x5).heap[g]?=some (.cells #[x0,x1,x2,x3,x4,x5,c6,c7,c8,c9] t (0,0)):=dM d 5 x5
 have h6:(((((((w.setCell ⟨g,0,none⟩ x0).setCell ⟨g,1,none⟩ x1).setCell ⟨g,2,none⟩ x2).setCell ⟨g,3,none⟩ x3).setCell ⟨g,4,none⟩ x4).setCell ⟨g,5,none⟩ x5).setCell ⟨g,6,none⟩ x6).heap[g]?=some (.cells #[x0,x1,x2,x3,x4,x5,x6,c7,c8,c9] t (0,0)):=dM h5 6 x6
 have h7:((((((((w.setCell ⟨g,0,none⟩ x0).setCell ⟨g,1,none⟩ x1).setCell ⟨g,2,none⟩ x2).setCell ⟨g,3,none⟩ x3).setCell ⟨g,4,none⟩ x4).setCell ⟨g,5,none⟩ x5).setCell ⟨g,6,none⟩ x6).setCell ⟨g,7,none⟩ x7).heap[g]?=some (.cells #[x0,x1,x2,x3,x4,x5,x6,x7,c8,c9] t (0,0)):=dM h6 7 x7
 have e:(((((((((w.setCell ⟨g,0,none⟩ x0).setCell ⟨g,1,none⟩ x1).setCell ⟨g,2,none⟩ x2).setCell ⟨g,3,none⟩ x3).setCell ⟨g,4,none⟩ x4).setCell ⟨g,5,none⟩ x5).setCell ⟨g,6,none⟩ x6).setCell ⟨g,7,none⟩ x7).setCell ⟨g,8,none⟩ x8).heap[g]?=some (.cells #[x0,x1,x2,x3,x4,x5,x6,x7,x8,c9] t (0,0)):=dM h7 8 x8
 have f:((((((((((w.setCell ⟨g,0,none⟩ x0).setCell ⟨g,1,none⟩ x1).setCell ⟨g,2,none⟩ x2).setCell ⟨g,3,none⟩ x3).setCell ⟨g,4,none⟩ x4).setCell ⟨g,5,none⟩ x5).setCell ⟨g,6,none⟩ x6).setCell ⟨g,7,none⟩ x7).setCell ⟨g,8,none⟩ x8).setCell ⟨g,9,none⟩ x9).heap[g]?=some (.cells #[x0,x1,x2,x3,x4,x5,x6,x7,x8,x9] t (0,0)):=dM e 9 x9
 exact⟨f,a _ _ _ (a _ _ _ (a _ _ _ (a _ _ _ (a _ _ _ (a _ _ _ (a _ _ _ (a _ _ _ (a _ _ _ (a _ _ _ (b_.refl _ w))))))))))⟩
end
def ez.Qq(r:ez):Int:=match r.node with|some x=>x.1|none=>0
def ez.nd(r:ez):i':=match r.node with|some x=>x.2|none=>⟨0,0,0,0,false⟩
def dT(r:ez)(D:Option Addr)(cd:Nat)(N:Option Addr)(cn:Nat):Value :=
 .agg #[.int .i64 r.err,.int .i64 r.n,.slice D r.data.length cd,.slice N r.names.length cn,.int .i64 r.Qq,.int .i64 r.nd.kind,.int .i64 r.nd.links,.int .i64 r.nd.size,.int .u64 r.nd.till,.bool r.nd.shut]
theorem nJ(e0:Int)(w:World):Calls prog 47 #[.int .i64 e0] w fun e w'=>e=.returned (dT (noR e0) none 0 none 0)/\New w w':=by
 go_in
 go_wp2_with fail
 obtain⟨a,b,c,f3,d,f5,f6,f7,f8,f9⟩:=eO (heap_alloc_new w (.cells #[.int .i64 e0,.int .i64 0,.slice none 0 0,.slice none 0 0,.int .i64 0,.int .i64 0,.int .i64 0,.int .i64 0,.int .u64 0,.bool false] 55))
 refine Zb (dT (noR e0) none 0 none 0) (by simp[results,results47,go_sem,a,b,c,f3,d,f5,f6,f7,f8,f9,dT,noR,ez.Qq,ez.nd]) ?_
 exact⟨rfl,(zN w).alloc _⟩
def jW(w:World)(c:Col)(i:fe)(b:Nat)(x:ez×d')(e:Ending)(w':World):Prop :=
 (∃D cd N cn,e=.returned (dT x.1 D cd N cn)/\Bs w' (fun _=>True) D x.1.data.length x.1.data/\x.1.data.length<=cd/\Ps w' (fun _=>True) N x.1.names.length x.1.names) /\
 b_ (fun j=>j<w.heap.size/\¬i.has (c j)) w w'/\∃c' B',Ext w c c'/\ei w' c' i b B' x.2
section
variable {w w' w2:World}{c c' c2:Col}{i:fe}{b:Nat}{B:iu}{s s':d'}{T:dX}{q':fx}
theorem ei.Qr(h:ei w c i b B s)(hk:b_ (fun j=>j<w.heap.size/\c j≠i.t) w w')(hx:Ext w c c')(ht:ea w' c' i.t B.bt q' T):ei w' c' i b { B with q:=q' } { s with T:=T }:=by
 have h0:∀j,j<w.heap.size->c j=0->j<w.heap.size/\c j≠i.t:=fun j hj e=>⟨hj,by rw[e];exact h.ok.nz.1.symm⟩
 exact⟨(hk.block b h.lt ⟨h.lt,by rw[h.col];exact h.ok.ne.2.1.symm⟩).trans h.state,(hx _ h.lt).trans h.col,ht,h.snaps.keep hk hx (fun j hj hc=>hc.elim (fun e=>⟨hj,by rw[e];exact h.ok.ne.1.symm⟩) (h0 j hj)),fun k a=>(h.fd k a).keep hk hx h0,h.ok⟩
theorem t_(hk:b_ (fun j=>j<w.heap.size/\c j≠i.t) w w'):b_ (fun j=>j<w.heap.size/\¬i.has (c j)) w w':=hk.imp fun _ _ h=>⟨h.1,fun e=>h.2 (.inl e)⟩
theorem ju(k:b_ (fun j=>j<w.heap.size/\¬i.has (c j)) w w2)(x:Ext w c c2)(k':b_ (fun j=>j<w2.heap.size/\¬i.has (c2 j)) w2 w'):b_ (fun j=>j<w.heap.size/\¬i.has (c j)) w w' :=
 k.Qd k' fun j hj hh=>⟨Nat.lt_of_lt_of_le hj k.size,by rw[x j hj];exact hh.2⟩
theorem l_(k:b_ (fun j=>j<w.heap.size/\¬i.has (c j)) w w2)(hg:w.heap.size<=g)(k':b_ (fun j=>j≠g) w2 w'):b_ (fun j=>j<w.heap.size/\¬i.has (c j)) w w' :=
 k.Qd k' fun j hj _ e=>by omega
theorem ei.setFd(h:ei w c i b B s){k:Nat}(hk:k<8){p:Option Nat}{f:Option FdP}(hf:xi w c p f):
  ei (w.setCell ⟨b,3+k,none⟩ (.pointer (p.map fun b=>⟨b,0,none⟩))) c i b { B with fd:=fun j=>if j=k then p else B.fd j } (setFd s k f)/\b_ (fun j=>j≠b) w (w.setCell ⟨b,3+k,none⟩ (.pointer (p.map fun b=>⟨b,0,none⟩))):=by
 have a:b_ (fun j=>j≠b) w (w.setCell ⟨b,3+k,none⟩ (.pointer (p.map fun b=>⟨b,0,none⟩))):=(b_.refl _ w).setCell (p:=⟨b,3+k,none⟩) (fun hd=>absurd rfl hd) _
 have d:∀j,c j≠i.o->j≠b:=fun j hj e=>hj (by rw[e];exact h.col)
 have h0:∀j,j<w.heap.size->c j=0->j≠b:=fun j _ e=>d j (by rw[e];exact h.ok.nz.2.2.symm)
 refine⟨⟨?_,h.col,h.tree.keep a (Ext.refl _ _) fun j hj hc=>hc.elim (fun e=>d j (by rw[e];exact h.ok.ne.2.1)) (h0 j hj),h.snaps.keep a (Ext.refl _ _) fun j hj hc=>hc.elim (fun e=>d j (by rw[e];exact h.ok.ne.2.2)) (h0 j hj),fun j hj=>?_,h.ok⟩,a⟩
 ·have:=dM h.state (3+k) (.pointer (p.map fun b=>⟨b,0,none⟩))
  rw[this]
  congr 2
  match k,hk with
  | 0,_=>rfl
  | 1,_=>rfl
  | 2,_=>rfl
  | 3,_=>rfl
  | 4,_=>rfl
  | 5,_=>rfl
  | 6,_=>rfl
  | 7,_=>rfl
 show xi _ c (if j=k then p else B.fd j) (if j=k then f else s.fd j)
 by_cases e:j=k
 ·rw[if_pos e,if_pos e];exact hf.keep a (Ext.refl _ _) h0
 rw[if_neg e,if_neg e];exact(h.fd j hj).keep a (Ext.refl _ _) h0
theorem vJ(h:kH s=some k):k<8:=by
 unfold kH at h
 rw[List.find?_range_eq_some] at h
 exact List.mem_range.1 h.2.1
theorem vC{kind:Int}(h:(g_ T p kind).2.1≠0):(g_ T p kind).2.2=T:=by
 unfold g_ at h ⊢
 split
 ·rfl
 rename_i h1
 rw[if_neg h1] at h
 split
 ·rfl
 rename_i h2
 rw[if_neg h2] at h
 split
 ·rfl
 rename_i h3
 rw[if_neg h3] at h
 split
 ·rfl
 rename_i a
 rw[if_neg a] at h
 split
 ·rfl
 rename_i h5
 rw[if_neg h5] at h
 exact absurd rfl h
theorem ei.reply(h:ei w c i b B s){f:Nat}(hg:c g=f)(hf:f≠0/\¬i.has f)(k:b_ (fun j=>j≠g) w w'):ei w' c i b B s :=
 h.keep k (Ext.refl _ _) fun j _ hc e=>by subst e;rw[hg] at hc;exact hc.elim hf.2 hf.1
theorem ru(c:Col)(i:fe)(n:Nat):∃(c1:Col) (f:Nat),(∀b,b<n->c1 b=c b)/\c1 n=f/\(f≠0/\¬i.has f)/\∀b,n<b->c1 b=0:=by
 refine⟨fun b=>if b<n then c b else if b=n then i.t+i.s+i.o+1 else 0,i.t+i.s+i.o+1,fun b hb=>if_pos hb,?_,⟨zo,fun h=>by unfold fe.has at h;omega⟩,fun b hb=>?_⟩
 ·show(if n<n then _ else if n=n then _ else _)=_
  rw[if_neg (Nat.lt_irrefl _),if_pos rfl]
 show(if b<n then _ else if b=n then _ else _)=_
 rw[if_neg zo,if_neg zo]
theorem jW.no{B:iu}{e0:Int}(hk:b_ (fun j=>j<w.heap.size/\¬i.has (c j)) w w')(hx:Ext w c c')(h:ei w' c' i b B s):jW w c i b (noR e0,s) (.returned (dT (noR e0) none 0 none 0)) w' :=
 ⟨⟨none,0,none,0,rfl,Row.nil _ _ _ _,zr,Row.nil _ _ _ _⟩,hk,c',B,hx,h⟩
theorem xO(h:ei w c i b B s)(hS:fz s)(hR:Ps w D A n p)(hn:n<=1000)(hcp:n<=cp)(hs:∀nm∈p,nm.length<=1099511627776):
  Calls prog 48 #[.pointer (some ⟨b,0,none⟩),.slice A n cp] w (jW w c i b (gv s p)):=by
 obtain⟨c1,f,G,ae,hf,af⟩:=ru c i w.heap.size
 have k1:=(zN w).alloc (.cells #[.int .i64 0,.int .i64 0,.slice none 0 0,.slice none 0 0,.int .i64 0,.int .i64 0,.int .i64 0,.int .i64 0,.int .u64 0,.bool false] 55)
 have x1:=heap_alloc_new w (.cells #[.int .i64 0,.int .i64 0,.slice none 0 0,.slice none 0 0,.int .i64 0,.int .i64 0,.int .i64 0,.int .i64 0,.int .u64 0,.bool false] 55)
 have h1:=h.keep k1 (c':=c1) G fun _ _ _=>trivial
 have R1:=Row.new hR k1
 have hlt:=h.lt
 obtain⟨g,hg⟩:=zx (w.heap.size)
 have z:=J6 hg G ae hf af hlt
 rw[<- hg] at x1
 obtain⟨r,hr⟩:=zx (gv s p)
 rw[<- hr]
 have H:Hid (r=match kH s with
  | none=>(noR 25,s)
  | some k=>if (g_ s.T p 1).2.1≠0 then(noR (g_ s.T p 1).2.1,s) else({ noR 0 with n:=k },setFd { s with T:=(g_ s.T p 1).2.2 } k (some ⟨true,(g_ s.T p 1).1,[]⟩))):=zh hr
 have HS:=J2 hS hs
 clear hr hS hR hs ae hf af hlt h G
 go_in
 go_upto_region 1 with fail
 rw[<- hg]
 generalize w.alloc (.cells #[.int .i64 0,.int .i64 0,.slice none 0 0,.slice none 0 0,.int .i64 0,.int .i64 0,.int .i64 0,.int .i64 0,.int .u64 0,.bool false] 55)=w1 at *
 have a:=J4 k1 x1 h1 R1
 have HF:=zh<|Dg h1
 clear k1 x1 h1 R1 hg
 go_wp2_with fail
 refine HF.mono ?_
 rintro e q⟨rfl,rfl⟩
 clear HF
 cases hfr:kH s with
 | none =>
  have I:Hid (r=(noR 25,s)):=zh (by have:=H.out;rw[hfr] at this;exact this)
  clear H hfr
  simp only[Option.elim_none]
  go_wp2_with fail
  refine(nJ 25 w1).mono ?_
  rintro e w3⟨rfl,l⟩
  have d:=l.Qa a.2.1 trivial
  have C:=zh l
  obtain⟨J,K,L,M,N,O,P,Q,R,d9⟩:=eO d
  obtain⟨z0,S,U,z3,z4,z5,V,W,X,z9⟩:=gC d
  unfold dT noR ez.Qq ez.nd
  clear l
  go_wp2_with fail
  clear J K L M N O P Q R d9 z0 S U z3 z4 z5 V W X z9
  obtain⟨Y,o⟩:=fI d (.int .i64 25) (.int .i64 0) (.slice none 0 0) (.slice none 0 0) (.int .i64 0) (.int .i64 0) (.int .i64 0) (.int .i64 0) (.int .u64 0) (.bool false)
  generalize ag:World.setCell _ _ _=wE at *
  obtain⟨Z,f1,f2,f3,f4,f5,f6,f7,f8,f9⟩:=eO Y
  try simp only[Exit.inBlock,Exit.then]
  refine Zb (dT (noR 25) none 0 none 0) (by simp[results,results48,go_sem,Z,f1,f2,f3,f4,f5,f6,f7,f8,f9,dT,noR,ez.Qq,ez.nd]) ?_
  rw[I.out]
  have hg:=z.out
  exact jW.no (l_ (b_.Qe (a.1.new C.out)) zo o) hg.2.1 ((a.2.2.1.new C.out).reply (by rw[hg.1];exact hg.2.2.1) hg.2.2.2.1 o)
 | some k =>
  have ah:=vJ hfr
  rw[hfr] at H
  simp only[Option.elim_some]
  have aq:¬((k:Int)<0):=zo
  have aa:=zh ah
  have hg:=z.out
  have HM:=zh<|CX a.2.2.1.tree a.2.2.1.ok.nz.1 HS.1.tree HS.1.few a.2.2.2 hn hcp HS.2 (kind:=1) (.inl rfl)
  have c0:=a_ a.2.2.1.state (k:=0) rfl
  have E:=zh<|fun(hh:(g_ s.T p 1).2.1≠0)=>vC hh
  obtain⟨m,hm⟩:=zx (g_ s.T p 1)
  rw[<- hm] at HM E
  have F:Hid (r=if m.2.1≠0 then(noR m.2.1,s) else({ noR 0 with n:=k },setFd { s with T:=m.2.2 } k (some ⟨true,m.1,[]⟩))):=zh (by rw[hm];exact H.out)
  obtain⟨id,t,T'⟩:=m
  dsimp only at HM E F
  clear hfr H ah hg hm
  go_wp2_with fail
  refine HM.mono ?_
  rintro e q⟨rfl,k2,c2,q2,x,T2⟩
  have h2:=a.2.2.1.Qr k2 x T2
  have d:q.heap[g]?=_:=(k2.block g (Array.getElem?_eq_some_iff.1 a.2.1).1 ⟨(Array.getElem?_eq_some_iff.1 a.2.1).1,by rw[z.1,z.2.2.1];exact fun e=>z.2.2.2.1.2 (.inl e)⟩).trans a.2.1
  have y:=J4 (t_ k2) x h2 d
  clear k2 x T2 h2 HM c0
  by_cases hw:t=0
  rotate_left
  ·have I:Hid (r=(noR t,s)):=zh (by have:=F.out;rwa[if_pos hw] at this)
   have an:Hid (T'=s.T):=zh (E.out hw)
   have hb:(t !=0)=true:=by simpa using hw
   clear F E hw d
   go_wp2_with fail
   refine(nJ t q).mono ?_
   rintro e w3⟨rfl,l⟩
   have d:=l.Qa y.2.2.2 trivial
   have C:=zh l
   obtain⟨J,K,L,M,N,O,P,Q,R,d9⟩:=eO d
   obtain⟨z0,S,U,z3,z4,z5,V,W,X,z9⟩:=gC d
   unfold dT noR ez.Qq ez.nd
   clear l
   go_wp2_with fail
   clear J K L M N O P Q R d9 z0 S U z3 z4 z5 V W X z9
   obtain⟨Y,o⟩:=fI d (.int .i64 t) (.int .i64 0) (.slice none 0 0) (.slice none 0 0) (.int .i64 0) (.int .i64 0) (.int .i64 0) (.int .i64 0) (.int .u64 0) (.bool false)
   generalize ag:World.setCell _ _ _=wE at *
   obtain⟨Z,f1,f2,f3,f4,f5,f6,f7,f8,f9⟩:=eO Y
   try simp only[Exit.inBlock,Exit.then]
   refine Zb (dT (noR t) none 0 none 0) (by simp[results,results48,go_sem,Z,f1,f2,f3,f4,f5,f6,f7,f8,f9,dT,noR,ez.Qq,ez.nd]) ?_
   rw[I.out]
   obtain⟨n2,x,h2,-⟩:=y.out
   rw[an.out] at h2
   obtain⟨ab,u,ac,ad,ao,ai⟩:=z.out
   have n0:b_ (fun j=>j<w.heap.size/\¬i.has (c j)) w w3:=ju (c2:=c1) (b_.Qe a.1) u (n2.new C.out)
   exact jW.no (l_ n0 zo o) (fun j hj=>(x j (Nat.lt_of_lt_of_le hj a.1.size)).trans (u j hj)) ((h2.new C.out).reply (by rw[x g (Array.getElem?_eq_some_iff.1 a.2.1).1,ab,ac]) ad o)
  subst hw
  have I:Hid (r=({ noR 0 with n:=k },setFd { s with T:=T' } k (some ⟨true,id,[]⟩))):=zh (by have:=F.out;rwa[if_neg Zd] at this)
  clear F E d
  have u3:=y.2.2.1.fdCell aa.out
  have uz:=dP y.2.2.1.state (3+k)
  have am:=y.2.2.1.lt
  have ap:(k:Int)<8:=by have:=aa.out;omega
  go_upto_region 8 with fail
  rw[<- World.setCell_alloc_past _ _ _ _ am]
  have l:=(zN q).alloc (.cells #[.bool true,.int .i64 id,.slice none 0 0] 207)
  have x3:=heap_alloc_new q (.cells #[.bool true,.int .i64 id,.slice none 0 0] 207)
  have e3:=c2.Qg q fun _=>0
  have h3:=y.2.2.1.keep l e3 fun _ _ _=>trivial
  have hfd:xi (q.alloc (.cells #[.bool true,.int .i64 id,.slice none 0 0] 207)) (c2.on q.heap.size fun _=>0) (some q.heap.size) (some ⟨true,id,[]⟩):=⟨Col.Qf _ _ zr,none,0,x3,zr,Zd,Row.nil _ _ _ _⟩
  obtain⟨h4,k4⟩:=h3.setFd aa.out hfd
  have aj:g≠b:=by have:=z.out;omega
  have d:=(k4.block g (Array.getElem?_eq_some_iff.1 (l.Qa y.2.2.2 zt)).1 aj).trans (l.Qa y.2.2.2 zt)
  have H4:=J4 l e3 h4 k4
  clear l x3 e3 h3 hfd h4 k4 u3 uz aj
  simp only[Option.map_some] at d H4
  generalize World.setCell _ _ _=w4 at *
  obtain⟨J,K,L,M,N,O,P,Q,R,d9⟩:=eO d
  obtain⟨z0,S,U,z3,z4,z5,V,W,X,z9⟩:=gC d
  go_wp2_with fail
  clear J K L M N O P Q R d9 z0 S U z3 z4 z5 V W X z9
  obtain⟨Y,o⟩:=fI d (.int .i64 0) (.int .i64 k) (.slice none 0 0) (.slice none 0 0) (.int .i64 0) (.int .i64 0) (.int .i64 0) (.int .i64 0) (.int .u64 0) (.bool false)
  generalize ag:World.setCell _ _ _=wE at *
  obtain⟨Z,f1,f2,f3,f4,f5,f6,f7,f8,f9⟩:=eO Y
  try simp only[Exit.inBlock,Exit.then]
  refine Zb (dT { noR 0 with n:=k } none 0 none 0) (by simp[results,results48,go_sem,Z,f1,f2,f3,f4,f5,f6,f7,f8,f9,dT,noR,ez.Qq,ez.nd]) ?_
  rw[I.out]
  obtain⟨n2,x,h2,-⟩:=y.out
  obtain⟨l,e3,h4,k4⟩:=H4.out
  obtain⟨ab,u,ac,ad,ao,ai⟩:=z.out
  have ak:=(Array.getElem?_eq_some_iff.1 a.2.1).1
  have n0:b_ (fun j=>j<w.heap.size/\¬i.has (c j)) w w4:=(ju (c2:=c1) (b_.Qe a.1) u (n2.new l)).Qd k4 fun j hj hh e=>hh.2 (by rw[e,<- u b ai,(a.2.2.1).col];exact .inr (.inr rfl))
  have al:=n2.size
  have hx:Ext w c (c2.on q.heap.size fun _=>0):=fun j hj=>(e3 j (Nat.lt_of_lt_of_le hj (Nat.le_trans a.1.size al))).trans ((x j (Nat.lt_of_lt_of_le hj a.1.size)).trans (u j hj))
  exact⟨⟨none,0,none,0,rfl,Row.nil _ _ _ _,zr,Row.nil _ _ _ _⟩,l_ n0 zo o,_,_,hx,h4.reply (by rw[e3 g (Nat.lt_of_lt_of_le ak al),x g ak,ab,ac]) ad o⟩
end
def dY(o:OpP)(E:Option Addr)(cd:Nat):Array Value:=#[.int .i64 o.kind,.string (dR o.path),.string (dR o.goal),.int .i64 o.fd,.int .i64 o.at_,.int .i64 o.n,.int .u64 o.till,.int .i64 o.snap,.slice E o.data.length cd]
def fB(o:OpP)(E:Option Addr)(cd:Nat):Value:=.agg (dY o E cd)
section
variable {w w' w2:World}{c c' c2:Col}{i:fe}{b:Nat}{B:iu}{s s':d'}
theorem wT(h:ei w c i b B s){n:Int}{wr:Bool}{f:FdP}(hf:fdT s n wr=some f):0<=n/\n<8/\s.fd n.toNat=some f/\f.writing=wr/\∃g A cp,B.ptr n.toNat=.pointer (some ⟨g,0,none⟩)/\c g=0/\w.heap[g]?=some (.cells #[.bool f.writing,.int .i64 f.id,.slice A f.b.length cp] 207 (0,0))/\f.b.length<=cp/\cp<=9223372036854775807/\Bs w (fun b=>c b=0) A f.b.length f.b:=by
 unfold fdT at hf
 by_cases hn:0<=n/\n<8
 ·rw[if_pos hn] at hf
  obtain⟨h1,h2⟩:=Option.filter_eq_some_iff.1 hf
  have a:=h.fd n.toNat zo
  rw[h1] at a
  cases hB:B.fd n.toNat with
  | none=>rw[hB] at a;exact a.elim
  | some g =>
   rw[hB] at a
   obtain⟨d,A,cp,e,a3,a4,a5⟩:=a
   exact⟨hn.1,hn.2,h1,beq_iff_eq.1 h2,g,A,cp,by unfold iu.ptr;rw[hB];rfl,d,e,a3,a4,a5⟩
 rw[if_neg hn] at hf;cases hf
theorem zM{T:dX}{d:List UInt8}(h:(fE T id d).1≠0):(fE T id d).2=T:=by
 rw[qo] at h ⊢
 split
 ·rfl
 rename_i h1
 rw[if_neg h1] at h
 cases hg:dN T id with
 | none=>rfl
 | some a =>
  rw[hg] at h
  dsimp only at h ⊢
  split
  ·rfl
  rename_i h2
  rw[if_neg h2] at h
  split
  ·rfl
  rename_i h3
  rw[if_neg h3] at h
  exact absurd rfl h
theorem Ge(c:Col)(i:fe)(n:Nat):∃(c1:Col) (f:Nat),(∀b,b<n->c1 b=c b)/\c1 n=0/\c1 (n+1)=f/\(f≠0/\¬i.has f)/\∀b,n+1<b->c1 b=0:=by
 obtain⟨c1,f,h1,h2,h3,a⟩:=ru (fun b=>if b<n then c b else 0) i (n+1)
 refine⟨c1,f,fun b hb=>(h1 b zo).trans (if_pos hb),(h1 n zo).trans (if_neg (Nat.lt_irrefl _)),h2,h3,a⟩
theorem mp(c:Col)(i:fe)(w:World)(o:OpP)(E:Option Addr)(cd:Nat):∃(c1:Col) (f:Nat) (wa wb:World) (go g:Nat),(∀b,b<w.heap.size->c1 b=c b)/\c1 w.heap.size=0/\c1 (w.heap.size+1)=f/\(f≠0/\¬i.has f)/\(∀b,w.heap.size+1<b->c1 b=0) /\
  wa=w.alloc (.cells (dY o E cd) 29)/\wb=wa.alloc (.cells #[.int .i64 0,.int .i64 0,.slice none 0 0,.slice none 0 0,.int .i64 0,.int .i64 0,.int .i64 0,.int .i64 0,.int .u64 0,.bool false] 55)/\go=w.heap.size/\g=go+1/\wa.heap.size=g/\New w wb/\wb.heap[go]?=some (.cells (dY o E cd) 29 (0,0))/\wb.heap[g]?=some (.cells #[.int .i64 0,.int .i64 0,.slice none 0 0,.slice none 0 0,.int .i64 0,.int .i64 0,.int .i64 0,.int .i64 0,.int .u64 0,.bool false] 55 (0,0)):=by
 obtain⟨c1,f,a,d,e,hf,h⟩:=Ge c i w.heap.size
 have l:=(zN w).alloc (.cells (dY o E cd) 29)
 have m:=heap_alloc_new w (.cells (dY o E cd) 29)
 have j:(w.alloc (.cells (dY o E cd) 29)).heap.size=w.heap.size+1:=by simp
 have k:=(zN (w.alloc (.cells (dY o E cd) 29))).alloc (.cells #[.int .i64 0,.int .i64 0,.slice none 0 0,.slice none 0 0,.int .i64 0,.int .i64 0,.int .i64 0,.int .i64 0,.int .u64 0,.bool false] 55)
 have n:=heap_alloc_new (w.alloc (.cells (dY o E cd) 29)) (.cells #[.int .i64 0,.int .i64 0,.slice none 0 0,.slice none 0 0,.int .i64 0,.int .i64 0,.int .i64 0,.int .i64 0,.int .u64 0,.bool false] 55)
 have p:=k.Qa m trivial
 exact⟨c1,f,_,_,_,_,a,d,e,hf,h,rfl,rfl,rfl,rfl,j,l.new k,p,by rw[<- j];exact n⟩
theorem zX(h:ei w c i b B s)(hS:fz s){o:OpP}(hD:Bs w D E o.data.length o.data)(hc1:o.data.length<=cd)(hc2:cd<=9223372036854775807):
  Calls prog 52 #[.pointer (some ⟨b,0,none⟩),fB o E cd] w (jW w c i b (io s o)):=by
 obtain⟨c1,f,wa,a,go,g,ad,aj,ak,hf,al,ae,af,ag,hg,am,ab,xo,H⟩:=mp c i w o E cd
 have hlt:=h.lt
 unfold fB
 unfold dY at *
 have h2:=h.keep ab (c':=c1) ad fun _ _ _=>trivial
 have q:=J7 ab H h2 xo (Row.new hD ab) hc1 hc2
 have HG:=J8 ag hg ad aj ak hf al hlt
 have HF:=zh<|ws h2 o.fd true
 have o3:=a_ xo (k:=3) rfl
 have o8:=a_ xo (k:=8) rfl
 obtain⟨r,hr⟩:=zx (io s o)
 rw[<- hr]
 have HW:Hid (r=match fdT s o.fd true with
  | none=>(noR 26,s)
  | some f=>if 600<o.data.length then(noR 3,s) else if (fE s.T f.id o.data).1≠0 then(noR (fE s.T f.id o.data).1,s) else({ noR 0 with n:=(o.data.length:Nat) },{ s with T:=(fE s.T f.id o.data).2 })):=zh hr
 have HS:=zh hS
 have ap:=J3 ae af am
 clear hr hS hD hlt h ad aj ak hf al H ab h2 xo hc1 hc2
 go_in
 go_upto_region 1 with fail
 rw[<- ae,<- af,<- ag,<- hg]
 clear ae af am ag hg ap
 go_wp2_with fail
 refine HF.mono ?_
 rintro e w3⟨rfl,rfl⟩
 clear HF
 cases hfd:fdT s o.fd true with
 | none =>
  have J:Hid (r=(noR 26,s)):=zh (by have:=HW.out;rw[hfd] at this;exact this)
  clear HW hfd
  simp only[Option.isSome_none,Bool.false_eq_true,if_false]
  go_wp2_with fail
  refine(nJ 26 a).mono ?_
  rintro e w3⟨rfl,z⟩
  have u:=z.Qa q.2.1 trivial
  have y:=zh z
  obtain⟨L,M,N,O,P,Q,R,S,U,d9⟩:=eO u
  obtain⟨z0,V,X,z3,z4,z5,Y,Z,z8,z9⟩:=gC u
  unfold dT noR ez.Qq ez.nd
  clear z
  go_wp2_with fail
  clear L M N O P Q R S U d9 z0 V X z3 z4 z5 Y Z z8 z9
  obtain⟨hE,d⟩:=fI u (.int .i64 26) (.int .i64 0) (.slice none 0 0) (.slice none 0 0) (.int .i64 0) (.int .i64 0) (.int .i64 0) (.int .i64 0) (.int .u64 0) (.bool false)
  generalize ah:World.setCell _ _ _=wE at *
  obtain⟨f0,l,f2,f3,f4,f5,f6,f7,f8,f9⟩:=eO hE
  try simp only[Exit.inBlock,Exit.then]
  refine Zb (dT (noR 26) none 0 none 0) (by simp[results,results52,go_sem,f0,l,f2,f3,f4,f5,f6,f7,f8,f9,dT,noR,ez.Qq,ez.nd]) ?_
  rw[J.out]
  obtain⟨g1,A,g3,g4,C,F,g7,g8⟩:=HG.out
  exact jW.no (l_ (b_.Qe (q.1.new y.out)) zo d) g3 ((q.2.2.1.new y.out).reply (by rw[A,g1];exact C) F d)
 | some l =>
  obtain⟨q1,q2,q3,q4,gf,Af,ax,q5,q6,q7,q8,q9,aq⟩:=wT q.2.2.1 hfd
  have p:Hid (r=if 600<o.data.length then(noR 3,s) else if (fE s.T l.id o.data).1≠0 then(noR (fE s.T l.id o.data).1,s) else({ noR 0 with n:=(o.data.length:Nat) },{ s with T:=(fE s.T l.id o.data).2 })):=zh (by have:=HW.out;rw[hfd] at this;exact this)
  have ar:=((HS.fd _ l q3).1 q4).2
  have HQ:=J3 q6 q7 ar
  simp only[Option.isSome_some,if_true]
  rw[q5]
  obtain⟨n,hn⟩:=zx (o.data.length)
  have HN:=zh hn
  rw[<- hn] at o8
  clear HW hfd q3 q5 q6 q7 q8 q9 aq hn q1 q2
  by_cases aa:600<n
  ·have J:Hid (r=(noR 3,s)):=zh (by have:=p.out;rwa[<- HN.out,if_pos aa] at this)
   have hb:(n:Int)>600:=by omega
   clear p
   go_wp2_with fail
   refine(nJ 3 a).mono ?_
   rintro e w3⟨rfl,z⟩
   have u:=z.Qa q.2.1 trivial
   have y:=zh z
   obtain⟨L,M,N,O,P,Q,R,S,U,d9⟩:=eO u
   obtain⟨z0,V,X,z3,z4,z5,Y,Z,z8,z9⟩:=gC u
   unfold dT noR ez.Qq ez.nd
   clear z
   go_wp2_with fail
   clear L M N O P Q R S U d9 z0 V X z3 z4 z5 Y Z z8 z9
   obtain⟨hE,d⟩:=fI u (.int .i64 3) (.int .i64 0) (.slice none 0 0) (.slice none 0 0) (.int .i64 0) (.int .i64 0) (.int .i64 0) (.int .i64 0) (.int .u64 0) (.bool false)
   generalize ah:World.setCell _ _ _=wE at *
   obtain⟨f0,l,f2,f3,f4,f5,f6,f7,f8,f9⟩:=eO hE
   try simp only[Exit.inBlock,Exit.then]
   refine Zb (dT (noR 3) none 0 none 0) (by simp[results,results52,go_sem,f0,l,f2,f3,f4,f5,f6,f7,f8,f9,dT,noR,ez.Qq,ez.nd]) ?_
   rw[J.out]
   obtain⟨g1,A,g3,g4,C,F,g7,g8⟩:=HG.out
   exact jW.no (l_ (b_.Qe (q.1.new y.out)) zo d) g3 ((q.2.2.1.new y.out).reply (by rw[A,g1];exact C) F d)
  have hb:¬((n:Int)>600):=zo
  go_upto_region 6 with fail
  clear o3 o8
  have ac:ei a.drew c1 i b B s:=q.2.2.1.new (zN a).drew
  obtain⟨p1,p2,p3,p4,p5,p6,p7⟩:=q.out
  obtain⟨g1,A,g3,g4,C,F,g7,g8⟩:=HG.out
  have an:=p3.lt
  have ao:=(Zl p4)
  have ai:=(Zl p2)
  have hfl:=(Array.getElem?_eq_some_iff.1 HQ.2.1).1
  have nt:(0:Nat)≠i.t:=p3.ok.nz.1.symm
  have r0:∀W,b_ (fun j=>j<a.heap.size/\c1 j≠i.t) a.drew W->W.cell? ⟨b,0,none⟩=some (.pointer (some ⟨B.bt,0,none⟩)):=fun W hW=>hW.Qb (a_ (w:=a.drew) p3.state (k:=0) rfl) ⟨an,by rw[p3.col];exact p3.ok.ne.2.1.symm⟩
  have r1:∀W,b_ (fun j=>j<a.heap.size/\c1 j≠i.t) a.drew W->W.cell? ⟨gf,1,none⟩=some (.int .i64 l.id):=fun W hW=>hW.Qb (a_ (w:=a.drew) HQ.2.1 (k:=1) rfl) ⟨hfl,by rw[HQ.1];exact nt⟩
  have r8:∀W,b_ (fun j=>j<a.heap.size/\c1 j≠i.t) a.drew W->W.cell? ⟨go,8,none⟩=some (.slice E n cd):=fun W hW=>by rw[HN.out];exact hW.Qb (a_ (w:=a.drew) p4 (k:=8) rfl) ⟨ao,by rw[g1,g4];exact nt⟩
  have gk:∀W,b_ (fun j=>j<a.heap.size/\c1 j≠i.t) a.drew W->W.heap[g]?=some (.cells #[.int .i64 0,.int .i64 0,.slice none 0 0,.slice none 0 0,.int .i64 0,.int .i64 0,.int .i64 0,.int .i64 0,.int .u64 0,.bool false] 55 (0,0)):=fun W hW=>(hW.block g ai ⟨ai,by rw[A,g1,C];exact fun e=>F.2 (.inl e)⟩).trans p2
  have au:=zh gk
  have HA:=zh<|xx ac.tree HS.tree ac.ok.nz.1 (id:=l.id) (by have:=HQ.2.2;omega) (by have:=HQ.2.2;omega) p5.drew p6 p7 (by rw[<- HN.out];omega)
  have I:=zh<|fun(hh:(fE s.T l.id o.data).1≠0)=>zM hh
  obtain⟨m,hm⟩:=zx (fE s.T l.id o.data)
  rw[<- hm] at HA I p
  rw[<- HN.out] at HA p
  rw[if_neg aa] at p
  obtain⟨G,T'⟩:=m
  dsimp only at HA I p
  have av:=zh ac
  clear gk ac p1 p2 p3 p4 p5 p6 p7 g1 A g3 g4 C F g7 g8 an ao ai hfl nt hm aa hb
  refine eu (b_ (fun j=>j<a.heap.size/\c1 j≠i.t) a.drew) zk ?_
  have x:b_ (fun j=>j<a.heap.size/\c1 j≠i.t) a.drew a.drew:=b_.refl _ _
  refine c_ 0 x ?_
  refine c_ 1 x ?_
  refine c_ 2 x ?_
  refine c_ 3 x ?_
  refine c_ 4 x ?_
  refine c_ 5 x ?_
  refine c_ 6 x ?_
  refine c_ 7 x ?_
  refine c_ 8 x ?_
  refine c_ 9 x ?_
  refine dQ (i:=10) zk rfl rfl (fun K hK=>?_)
  go_simp
  refine HA.mono ?_
  rintro e w4⟨rfl,k4,c4,q4,e4,T4⟩
  have h4:=av.Qr k4 e4 T4
  have y4:=au.out w4 k4
  have o4:=r8 w4 k4
  have H4:=J4 (t_ k4) e4 h4 y4
  have K4:=zh k4
  clear e4 T4 h4 HA
  go_wp2_with fail
  refine hK _ _ K4.out ?_
  clear hK K x r0 r1 r8
  try simp only[zy]
  refine c_ 11 K4.out ?_
  refine wpAnyH_done zk ?_ _
  clear k4 K4
  by_cases hw:G=0
  rotate_left
  ·have J:Hid (r=(noR G,s)):=zh (by have:=p.out;rwa[if_pos hw] at this)
   have aw:Hid (T'=s.T):=zh (I.out hw)
   have hb:(G !=0)=true:=by simpa using hw
   clear p I hw y4
   go_wp2_with fail
   refine(nJ G w4).mono ?_
   rintro e w5⟨rfl,z⟩
   have u:=z.Qa H4.2.2.2 trivial
   have y:=zh z
   obtain⟨L,M,N,O,P,Q,R,S,U,d9⟩:=eO u
   obtain⟨z0,V,X,z3,z4,z5,Y,Z,z8,z9⟩:=gC u
   unfold dT noR ez.Qq ez.nd
   clear z
   go_wp2_with fail
   clear L M N O P Q R S U d9 z0 V X z3 z4 z5 Y Z z8 z9
   obtain⟨hE,d⟩:=fI u (.int .i64 G) (.int .i64 0) (.slice none 0 0) (.slice none 0 0) (.int .i64 0) (.int .i64 0) (.int .i64 0) (.int .i64 0) (.int .u64 0) (.bool false)
   generalize ah:World.setCell _ _ _=wE at *
   obtain⟨f0,l,f2,f3,f4,f5,f6,f7,f8,f9⟩:=eO hE
   try simp only[Exit.inBlock,Exit.then]
   refine Zb (dT (noR G) none 0 none 0) (by simp[results,results52,go_sem,f0,l,f2,f3,f4,f5,f6,f7,f8,f9,dT,noR,ez.Qq,ez.nd]) ?_
   rw[J.out]
   obtain⟨n2,H,h4,-⟩:=H4.out
   rw[aw.out] at h4
   obtain⟨g1,A,g3,g4,C,F,g7,g8⟩:=HG.out
   have x:b_ (fun j=>j<w.heap.size/\¬i.has (c j)) w w5:=ju (c2:=c1) (b_.Qe (b_.drew q.1)) g3 (n2.new y.out)
   exact jW.no (l_ x zo d) (fun j hj=>(H j (Nat.lt_of_lt_of_le hj q.1.size)).trans (g3 j hj)) ((h4.new y.out).reply (by rw[H g (Array.getElem?_eq_some_iff.1 q.2.1).1,A,g1,C]) F d)
  subst hw
  have J:Hid (r=({ noR 0 with n:=(n:Nat) },{ s with T:=T' })):=zh (by have:=p.out;rwa[if_neg Zd] at this)
  clear p I
  have u:=y4
  clear y4
  obtain⟨L,M,N,O,P,Q,R,S,U,d9⟩:=eO u
  obtain⟨z0,V,X,z3,z4,z5,Y,Z,z8,z9⟩:=gC u
  go_wp2_with fail
  clear L M N O P Q R S U d9 z0 V X z3 z4 z5 Y Z z8 z9
  obtain⟨hE,d⟩:=fI u (.int .i64 0) (.int .i64 n) (.slice none 0 0) (.slice none 0 0) (.int .i64 0) (.int .i64 0) (.int .i64 0) (.int .i64 0) (.int .u64 0) (.bool false)
  generalize ah:World.setCell _ _ _=wE at *
  obtain⟨f0,l,f2,f3,f4,f5,f6,f7,f8,f9⟩:=eO hE
  try simp only[Exit.inBlock,Exit.then]
  refine Zb (dT { noR 0 with n:=n } none 0 none 0) (by simp[results,results52,go_sem,f0,l,f2,f3,f4,f5,f6,f7,f8,f9,dT,noR,ez.Qq,ez.nd]) ?_
  rw[J.out]
  obtain⟨n2,H,h4,-⟩:=H4.out
  obtain⟨g1,A,g3,g4,C,F,g7,g8⟩:=HG.out
  have x:b_ (fun j=>j<w.heap.size/\¬i.has (c j)) w w4:=ju (c2:=c1) (b_.Qe (b_.drew q.1)) g3 n2
  exact⟨⟨none,0,none,0,rfl,Row.nil _ _ _ _,zr,Row.nil _ _ _ _⟩,l_ x zo d,_,_,fun j hj=>(H j (Nat.lt_of_lt_of_le hj q.1.size)).trans (g3 j hj),h4.reply (by rw[H g (Array.getElem?_eq_some_iff.1 q.2.1).1,A,g1,C]) F d⟩
end
def AO(md:Region.Mode)(ops:Array Oper)(i:Nat):List Nat :=
 ((List.range ops.size).foldl (fun acc j=>match ops[j]? with
  | some o=>if o.after.any (fun e=>Region.binds md e&&acc.contains e.on) then j::acc else acc
  | none=>acc) [i]).filter (fun j=>j !=i)
section
variable {P:Program}{ops:Array Oper}{Q:Exit->Act->World->Prop}{md:Region.Mode}{Ws Pi:List Nat}{S T:World->Prop}
theorem Es{l:Array Bool}(hs:∀k∈Ws,k∈Pi)(h:il Pi l=true):il Ws l=true :=
 List.all_eq_true.2 fun k hk=>List.all_eq_true.1 h k (hs k hk)
theorem uH{i:Nat}(hi:ops[i]?=some oi)(hsel:∀(j:Nat) (o:Oper) cs b,ops[j]?=some o->o.op≠.select cs b)(hQ:∀c a w,Q (.panic c) (a.put oi.dst v) w->Q (.panic c) a w)(hc:Et md ops Pi i=true)(hs:∀k∈Ws,k∈Pi):
  ∀(fuel:Nat) (listed:Array Bool) (a:Act) (w:World),
   (∀j oj,ops[j]?=some oj->j≠i->listed.getD j true=false->(∀e∈oj.after,Region.binds md e=true->e.on≠i)->oi.apart ops oj=true) ->
   i∈Region.ready md ops listed->il Pi listed=true->YieldsIf P ops T oi v a->S w->T w ->
   iZ P md ops Q Ws S T fuel (listed.setIfInBounds i true) (a.put oi.dst v) w->iZ P md ops Q Ws S T (fuel+1) listed a w:=by
 have E:i∉Pi:=by
  have:=(Bool.and_eq_true_iff.1 hc).1
  simpa using this
 intro fuel
 induction fuel with
 | zero =>
  intro listed a w _ f _ hy z l H
  refine⟨fun h=>(by rw[h] at f;cases f),fun j hj=>?_⟩
  by_cases d:j=i
  ·subst d;exact hy.wpOp hi l ⟨⟨z,fun _=>l⟩,H⟩
  have:=ready_mono hj d
  rw[H.1] at this
  cases this
 | succ fuel ih =>
  intro listed a w g f m hy z l H
  refine⟨fun h=>(by rw[h] at f;cases f),fun j hj=>?_⟩
  by_cases d:j=i
  ·subst d;exact hy.wpOp hi l ⟨⟨z,fun _=>l⟩,H⟩
  have h1:=H.2 j (ready_mono hj d)
  obtain⟨n,oj,p,A⟩:=mem_ready.1 hj
  have q:=(mem_ready.1 f).1
  have u:j∉Pi:=Cz hc m q hj
  have B:∀e∈oj.after,Region.binds md e=true->e.on≠i:=fun e he hb F=>by
   have h1:=A e he hb
   have h0:=q
   rw[F] at h1
   rcases Nat.lt_or_ge i listed.size with C|C
   ·simp[C] at h0 h1;rw[h0] at h1;cases h1
   simp[Array.getElem?_eq_none C] at h1
  have h2:=wpOp_putIf p (g j oj p d n B) (fun cs b=>hsel i oi cs b hi) (fun cs b=>hsel j oj cs b p) hQ hy h1
  have r:∀k s,ops[k]?=some s->k≠i->(listed.setIfInBounds j true).getD k true=false ->
    (∀e∈s.after,Region.binds md e=true->e.on≠i)->oi.apart ops s=true:=fun k s hk G x I=>by
   refine g k s hk G ?_ I
   by_cases y:j=k
   ·subst y;exact n
   rw[getD_set_ne true y] at x;exact x
  have D:il Pi (listed.setIfInBounds j true)=true:=lJ m u
  have t:il Ws ((listed.setIfInBounds i true).setIfInBounds j true)=true:=Es hs (lJ (lJ m E) u)
  refine wpOp_mono (fun J K h3=>⟨⟨h3.2.1.1,fun _=>h3.2.1.2 t⟩,ih (listed.setIfInBounds j true) J K r (ready_mono f (Ne.symm d)) D h3.1 h3.2.1.1 (h3.2.1.2 t) ?_⟩) h2
  rw[Array.setIfInBounds_comm _ _ d]
  exact h3.2.2
def HV(P:Program)(md:Region.Mode)(ops:Array Oper)(Q:Exit->Act->World->Prop)(last:Nat)(w0:World)(fuel:Nat)(listed:Array Bool)(a:Act)(w:World):Prop :=
 iZ P md ops Q [last] (fun _=>True) (New w0) fuel listed a w
variable {last:Nat}{w0:World}{fuel:Nat}{listed:Array Bool}{a:Act}{w:World}
theorem km(last:Nat){id:Nat}(hm:P.follows .mixedOrders=true)(h:HV P .any ops Q last w.drew ops.size (Array.replicate ops.size false) a w.drew):(Code.region id ops true).wp P Q a w :=
 oM [last] _ _ hm h
theorem dO(i:Nat){a':Act}(hT:New w0 w)(h:HV P md ops Q last w0 fuel (listed.setIfInBounds i true) a' w)(hi:ops[i]?=some oi:=by rfl)(hs:Region.noSelect ops=true:=by kernel_rfl)(hf:Region.free md ops listed i=true:=by kernel_rfl)(hr:(Region.ready md ops listed).contains i=true:=by kernel_rfl)(hc:Et md ops (AO md ops i) i=true:=by kernel_rfl)(hl:(AO md ops i).contains last=true:=by kernel_rfl)(hcl:il (AO md ops i) listed=true:=by kernel_rfl)(hQ:∀c a w,Q (.panic c) (a.put oi.dst v) w->Q (.panic c) a w:=by exact fun _ _ _ h=>h)(hw:Region.wanted oi (yielded ops a.tmps)=true:=by rfl)(hy:∀w',New w0 w'->(execOp a.eval oi).run P w'=.ok (.value v) w':=by intro w' hN;go_simp;try with_reducible rfl)(ha:a.put oi.dst v=a':=by (conv=>lhs;simp only[Act.put,ly1,ly2,ly3,ly4,ly5,ly6]);try exact rfl):HV P md ops Q last w0 (fuel+1) listed a w :=
 uH hi (Region.noSelect_spec hs) hQ hc (fun k hk=>by rw[List.mem_singleton] at hk;rw[hk];simpa using hl) fuel listed a w (Region.free_spec hi hf) (by simpa using hr) hcl (.inl ⟨hw,hy⟩) trivial hT (ha▸h)
theorem fH(i:Nat)(hr:Region.ready md ops listed=[i])(ho:ops[i]?=some o)(hw:Region.wanted o (yielded ops a.tmps)=true)(h:∀K:Act->World->Prop,Hid (∀a' w',New w0 w'->HV P md ops Q last w0 fuel (listed.setIfInBounds i true) a' w'->K a' w')->Oper.wp P o a w K Q):HV P md ops Q last w0 (fuel+1) listed a w :=
 jo hr ho hw fun K b=>h K (zh fun a' w' c hk=>b.out a' w' ⟨zt,fun _=>c⟩ hk)
theorem lM(hr:Region.ready md ops listed=[last])(hlt:last<listed.size)(ho:ops[last]?=some o)(hw:Region.wanted o (yielded ops a.tmps)=true)(hd:Region.ready md ops (listed.setIfInBounds last true)=[])(h:Oper.wp P o a w (fun a' w'=>Q .normal a' w') Q):HV P md ops Q last w0 (fuel+1) listed a w:=by
 refine jo hr ho hw fun K c=>?_
 refine Oper.wp_mono (fun a' w' hk=>c.out a' w' ⟨zt,fun b=>?_⟩ (ou hd hk _)) h
 have:=po b (List.mem_singleton.2 rfl)
 rw[Array.getD_eq_getD_getElem?,Array.getElem?_setIfInBounds_self_of_lt hlt] at this
 cases this
theorem ii{K:Act->World->Prop}{Q:Exit->Act->World->Prop}{s x:Operand}(ho:o.op=.call { callee:=.builtin .append,args:=#[s,x],argTypes:=#[t,t] })(ht:P.underlying t=some (.slice e))(hi:∃i z,P.info? e=some i/\i.zero=some z/\i.size=size/\i.bytes=bytes/\z.cells.size=size)(hsz:0<size){c:Nat}(hs:a.eval s=.slice A n c)(hown:Own w w0.heap.size e size A n c xs){c2:Nat}(hx:a.eval x=.slice A2 m c2)(hr:Row w D A2 m size news)(h1:∀u∈news,u.oneCell'=true)(h63:n+m<=maxLen)(hbytes:(n+m)*bytes<=140737488355328)(hk:New w0 w)(h:∀A' c' w',Own w' w0.heap.size e size A' (n+m) c' (xs++news)->New w0 w'->K (a.put o.dst (.slice A' (n+m) c')) w'):o.wp P a w K Q:=by
 obtain⟨i,z,hi,hz,g,k,l⟩:=hi
 obtain⟨A',c',w',d,h2,hg,_⟩:=jH (P:=P) w w0.heap.size t o.type e i z size bytes ht hi hz g k l hsz A n c xs hown D A2 m c2 news hr h1 h63 hbytes hk.size
 have p:New w0 w':=by
  refine b_.Qi (D:=fun b=>b<w0.heap.size) ((b_.Qe hk).Qd (E:=fun b=>some b≠blk A) ⟨hg.os,hg.tape,hg.output,hg.size,fun j hj f=>hg.block j hj f⟩ fun b hb _ e=>?_) fun b hb=>hb
  have:=eW hown b e.symm
  omega
 unfold Oper.wp execOp
 simp only[ho,resolve,invoke,builtin,Sem.run_bind,Sem.run_pure,Result.andThen_ok,List.map_toArray,List.map_cons,List.map_nil,hs,hx,d]
 exact h A' c' w' h2 p
theorem Row.cutTake(h:Row w D A n size vs)(hk:k<=n):Row w D A k size (vs.take (k*size)):=by
 have hl:=h.1
 refine⟨by rw[List.length_take,hl];exact Nat.min_eq_left (Nat.mul_le_mul_right _ hk),fun h0=>?_⟩
 obtain⟨b,off,e,hd,hlt,hc⟩:=h.2 zo
 exact⟨b,off,e,hd,hlt,fun j u a=>hc j u (by
  have hj:=(List.getElem?_eq_some_iff.1 a).1
  rw[List.length_take] at hj
  rw[List.getElem?_take_of_lt zo] at a
  exact a)⟩
theorem Row.cutDrop(h:Row w D (some ⟨b,off,none⟩) n size vs)(hk:k<=n):Row w D (some ⟨b,off+k*size,none⟩) (n-k) size (vs.drop (k*size)):=by
 have hl:=h.1
 refine⟨by rw[List.length_drop,hl,Nat.sub_mul],fun h0=>?_⟩
 obtain⟨d,c,e,hd,hlt,hc⟩:=h.2 zo
 injection e with e
 injection e with e1 e2
 subst e1 e2
 refine⟨_,_,rfl,hd,hlt,fun j u a=>?_⟩
 rw[List.getElem?_drop] at a
 have:=hc _ _ a
 rwa[<- Nat.add_assoc] at this
theorem Row.cutIf(h:Row w D (some ⟨b,off,none⟩) n size vs)(hk:k<=n)(hc:n<=ce):Row w D (if ce=k then some ⟨b,off,none⟩ else some ⟨b,off+k*size,none⟩) (n-k) size (vs.drop (k*size)):=by
 by_cases e:ce=k
 ·rw[if_pos e]
  have e2:n-k=0:=by omega
  have h2:=h.cutDrop hk
  exact⟨h2.1,fun h0=>by omega⟩
 rw[if_neg e];exact h.cutDrop hk
theorem rI{α:Type}(f:α->List Value)(s:Nat)(hf:∀x,(f x).length=s):∀(l:List α) (k:Nat),(l.map f).flatten.take (k*s)=((l.take k).map f).flatten
 | [],k=>by simp
 | x::r,0=>by simp
 | x::r,k+1=>by
  rw[List.map_cons,List.flatten_cons,List.take_succ_cons,List.map_cons,List.flatten_cons,<- rI f s hf r k,Nat.succ_mul,Nat.add_comm,List.take_append,hf x,List.take_of_length_le (by rw[hf x];omega)]
  congr 2
  omega
theorem rJ{α:Type}(f:α->List Value)(s:Nat)(hf:∀x,(f x).length=s):∀(l:List α) (k:Nat),(l.map f).flatten.drop (k*s)=((l.drop k).map f).flatten
 | [],k=>by simp
 | x::r,0=>by simp
 | x::r,k+1=>by
  rw[List.map_cons,List.flatten_cons,List.drop_succ_cons,<- rJ f s hf r k,Nat.succ_mul,Nat.add_comm,List.drop_append,hf x,List.drop_eq_nil_of_le (by rw[hf x];omega),List.nil_append]
  congr 1
  omega
end
section
variable {w w' w2:World}{c c' c2:Col}{i:fe}{b:Nat}{B:iu}{s s':d'}
def Iv(w:World)(c:Col)(i:fe)(b:Nat)(x:Int×d')(e:Ending)(w':World):Prop :=
 e=.returned (.int .i64 x.1)/\b_ (fun j=>j<w.heap.size/\¬i.has (c j)) w w'/\∃c' B',Ext w c c'/\ei w' c' i b B' x.2
theorem Di{T:dX}{till:Int}(h:(je T id till).1≠0):(je T id till).2=T:=by
 rw[ti] at h ⊢
 split
 ·rfl
 rename_i h1
 rw[if_neg h1] at h
 cases hg:dN T id with
 | none=>rfl
 | some a =>
  rw[hg] at h
  dsimp only at h ⊢
  split
  ·rfl
  rename_i h2
  rw[if_neg h2] at h
  split
  ·rfl
  rename_i h3
  rw[if_neg h3] at h
  exact absurd rfl h
theorem Aj(h:ei w c i b B s)(hS:fz s){o:OpP}(ht0:0<=o.till)(ht1:o.till<=18446744073709551615):
  Calls prog 53 #[.pointer (some ⟨b,0,none⟩),fB o E cd] w (Iv w c i b ((fO s o).1.err,(fO s o).2)):=by
 have k1:=(zN w).alloc (.cells (dY o E cd) 29)
 have N:=heap_alloc_new w (.cells (dY o E cd) 29)
 have P:=c.Qg w fun _=>0
 have Q:(c.on w.heap.size fun _=>0) w.heap.size=0:=Col.Qf _ _ zr
 unfold fB
 unfold dY at *
 obtain⟨d,J⟩:=zx (w.alloc (.cells #[.int .i64 o.kind,.string (dR o.path),.string (dR o.goal),.int .i64 o.fd,.int .i64 o.at_,.int .i64 o.n,.int .u64 o.till,.int .i64 o.snap,.slice E o.data.length cd] 29))
 rw[<- J] at k1 N
 have h2:=h.keep k1 P fun _ _ _=>trivial
 generalize (c.on w.heap.size fun _=>0)=c1 at *
 obtain⟨R,L⟩:=zx (w.heap.size)
 rw[<- L] at N Q
 have g:=J5 k1 h2 N P Q
 have aa:Hid (c b=i.o):=zh h.col
 have ab:=zh<|ws h2 o.fd true
 have S:=zh<|ws h2 o.fd false
 have o3:=a_ N (k:=3) rfl
 have o6:=a_ N (k:=6) rfl
 obtain⟨r,hr⟩:=zx (((fO s o).1.err,(fO s o).2):Int×d')
 rw[<- hr]
 have HW:Hid (r=((fO s o).1.err,(fO s o).2)):=zh hr
 have HS:=J3 hS ht0 ht1
 have af:=J2 J L
 clear hr hS h P Q k1 N h2 ht0 ht1
 go_in
 go_upto_region 1 with fail
 rw[<- J,<- L]
 clear J L af
 go_wp2_with fail
 refine ab.mono ?_
 rintro e w3⟨rfl,rfl⟩
 clear ab
 cases hfd:fdT s o.fd true with
 | none =>
  simp only[Option.isSome_none,Bool.false_eq_true,if_false]
  have y:fO s o=match fdT s o.fd false with
   | none=>(noR 26,s)
   | some _=>(noR 0,setFd s o.fd.toNat none):=by simp only[fO,hfd];rfl
  have x:=zh y
  clear hfd y
  go_wp2_with fail
  refine S.mono ?_
  rintro e w3⟨rfl,rfl⟩
  clear S
  cases hfd:fdT s o.fd false with
  | none =>
   have C:Hid (r=(26,s)):=zh (by rw[HW.out,x.out,hfd];rfl)
   clear hfd
   simp only[Option.isSome_none,Bool.false_eq_true,if_false]
   go_wp2
   go_ret
   rw[C.out]
   exact⟨rfl,b_.Qe g.1,_,_,g.2.2.2.1,g.2.1⟩
  | some z =>
   have C:Hid (r=(0,setFd s o.fd.toNat none)):=zh (by rw[HW.out,x.out,hfd];rfl)
   obtain⟨q1,q2,-⟩:=wT g.2.1 hfd
   obtain⟨k,hk⟩:∃k:Nat,o.fd=(k:Int):=⟨o.fd.toNat,zo⟩
   have l:Hid (k<8/\o.fd=(k:Int)):=zh ⟨zo,hk⟩
   have u:=J4 g.2.1 g.2.2.1 (show b_ (fun j=>j<w.heap.size/\¬i.has (c j)) w d from b_.Qe g.1) g.2.2.2.1
   rw[hk,Int.toNat_natCast] at C
   clear hfd q1 q2 hk x
   simp only[Option.isSome_some,if_true]
   go_upto_region 9 with fail
   refine km 6 zk ?_
   have D:=u.1
   have F:=u.2.1
   have v:New d d.drew:=(zN d).drew
   have q:=D.new v
   have r3:∀V,New d.drew V->V.cell? ⟨R,3,none⟩=some (.int .i64 (k:Int)):=fun V hV=>by rw[<- l.2];exact hV.Qb (a_ (w:=d.drew) F (k:=3) rfl) trivial
   have u3:=q.fdCell l.1
   have uz:=dP q.state (3+k)
   have ae:(k:Int)<8:=by have:=l.1;omega
   obtain⟨h5,A⟩:=q.setFd l.1 (p:=none) (f:=none) trivial
   have H5:=J3 v h5 A
   clear D F v q h5 A
   generalize d.drew=U at *
   have a:New U U:=zN _
   refine dO 0 a ?_
   refine dO 1 a ?_
   refine dO 2 a ?_
   refine dO 3 a ?_
   refine dO 4 a ?_
   refine dO 5 a ?_
   clear r3 a
   refine lM zk Zd rfl rfl zk ?_
   go_simp
   go_wp2
   go_ret
   rw[C.out]
   obtain⟨v,h5,A⟩:=H5.out
   obtain⟨-,-,a,hx⟩:=u.out
   exact⟨rfl,(a.new v).Qd A fun j hj hh e=>hh.2 (by rw[e,aa.out];exact .inr (.inr rfl)),_,_,hx,h5⟩
 | some z =>
  have y:fO s o=if (je s.T z.id o.till).1≠0 then(noR (je s.T z.id o.till).1,s) else(noR 0,setFd { s with T:=(je s.T z.id o.till).2 } o.fd.toNat none):=by simp only[fO,hfd]
  obtain⟨q1,q2,q3,q4,gf,Af,aj,q5,q6,q7,-⟩:=wT g.2.1 hfd
  have ac:=((HS.1.fd _ z q3).1 q4).2
  have X:=J3 q6 q7 ac
  obtain⟨k,hk⟩:∃k:Nat,o.fd=(k:Int):=⟨o.fd.toNat,zo⟩
  have l:Hid (k<8/\o.fd=(k:Int)):=zh ⟨zo,hk⟩
  rw[hk,Int.toNat_natCast] at y
  have x:=zh y
  simp only[Option.isSome_some,if_true]
  rw[q5]
  clear hfd q1 q2 q3 q4 q5 q6 q7 ac hk y S
  go_upto_region 3 with fail
  clear o3 o6
  have M:ei d.drew c1 i b B s:=g.2.1.new (zN d).drew
  obtain⟨p1,O,p4,p5,p6⟩:=g.out
  have ad:=O.lt
  have Y:=(Zl p4)
  have hfl:=(Array.getElem?_eq_some_iff.1 X.2.1).1
  have nt:(0:Nat)≠i.t:=O.ok.nz.1.symm
  have r0:∀W,b_ (fun j=>j<d.heap.size/\c1 j≠i.t) d.drew W->W.cell? ⟨b,0,none⟩=some (.pointer (some ⟨B.bt,0,none⟩)):=fun W I=>I.Qb (a_ (w:=d.drew) O.state (k:=0) rfl) ⟨ad,by rw[O.col];exact O.ok.ne.2.1.symm⟩
  have r1:∀W,b_ (fun j=>j<d.heap.size/\c1 j≠i.t) d.drew W->W.cell? ⟨gf,1,none⟩=some (.int .i64 z.id):=fun W I=>I.Qb (a_ (w:=d.drew) X.2.1 (k:=1) rfl) ⟨hfl,by rw[X.1];exact nt⟩
  have gk:∀W,b_ (fun j=>j<d.heap.size/\c1 j≠i.t) d.drew W->W.heap[R]?=some (.cells #[.int .i64 o.kind,.string (dR o.path),.string (dR o.goal),.int .i64 o.fd,.int .i64 o.at_,.int .i64 o.n,.int .u64 o.till,.int .i64 o.snap,.slice E o.data.length cd] 29 (0,0)):=fun W I=>(I.block R Y ⟨Y,by rw[p6];exact nt⟩).trans p4
  have r6:∀W,b_ (fun j=>j<d.heap.size/\c1 j≠i.t) d.drew W->W.cell? ⟨R,6,none⟩=some (.int .u64 o.till):=fun W I=>a_ (gk W I) (k:=6) rfl
  have ag:=zh gk
  have HA:=zh<|CU M.tree M.ok.nz.1 (id:=z.id) (by have:=X.2.2;omega) (by have:=X.2.2;omega) HS.2.1 HS.2.2
  have G:=zh<|fun(hh:(je s.T z.id o.till).1≠0)=>Di hh
  obtain⟨m,hm⟩:=zx (je s.T z.id o.till)
  rw[<- hm] at HA G x
  obtain⟨Z,T'⟩:=m
  dsimp only at HA G x
  have ah:=zh M
  clear gk M p1 O p4 p5 p6 ad Y hfl nt hm
  refine eu (b_ (fun j=>j<d.heap.size/\c1 j≠i.t) d.drew) zk ?_
  have a:b_ (fun j=>j<d.heap.size/\c1 j≠i.t) d.drew d.drew:=b_.refl _ _
  refine c_ 0 a ?_
  refine c_ 1 a ?_
  refine c_ 2 a ?_
  refine c_ 3 a ?_
  refine c_ 4 a ?_
  refine c_ 5 a ?_
  refine c_ 6 a ?_
  refine c_ 7 a ?_
  refine c_ 8 a ?_
  refine c_ 9 a ?_
  refine dQ (i:=10) zk rfl rfl (fun K hK=>?_)
  go_simp
  refine HA.mono ?_
  rintro e H⟨rfl,k4,c4,q4,e4,T4⟩
  have h4:=ah.Qr k4 e4 T4
  have y4:=ag.out H k4
  have o3:=a_ y4 (k:=3) rfl
  have H4:=J4 (t_ k4) e4 h4 y4
  have K4:=zh k4
  clear e4 T4 h4 HA y4
  go_wp2_with fail
  refine hK _ _ K4.out ?_
  clear hK K a r0 r1 r6
  try simp only[zy]
  refine c_ 11 K4.out ?_
  refine wpAnyH_done zk ?_ _
  clear k4 K4
  have n4:b_ (fun j=>j<w.heap.size/\¬i.has (c j)) w H:=ju (c2:=c1) (b_.Qe (b_.drew g.1)) g.2.2.2.1 H4.1
  have x4:Ext w c c4:=fun j hj=>(H4.2.1 j (Nat.lt_of_lt_of_le hj g.1.size)).trans (g.2.2.2.1 j hj)
  by_cases hw:Z=0
  rotate_left
  ·have C:Hid (r=(Z,s)):=zh (by rw[HW.out,x.out,if_pos hw];rfl)
   have ai:Hid (T'=s.T):=zh (G.out hw)
   have hb:(Z !=0)=true:=by simpa using hw
   have HX:=J2 n4 x4
   clear x G hw n4 x4
   go_wp2
   go_ret
   rw[C.out]
   have h4:=H4.2.2.1
   rw[ai.out] at h4
   exact⟨rfl,HX.1,_,_,HX.2,h4⟩
  subst hw
  have C:Hid (r=(0,setFd { s with T:=T' } k none)):=zh (by rw[HW.out,x.out,if_neg Zd];rfl)
  have u:=J4 H4.2.2.1 H4.2.2.2 n4 x4
  clear x G n4 x4
  go_upto_region 9 with fail
  refine km 6 zk ?_
  have D:=u.1
  have F:=u.2.1
  have v:New H H.drew:=(zN H).drew
  have q:=D.new v
  have r3:∀V,New H.drew V->V.cell? ⟨R,3,none⟩=some (.int .i64 (k:Int)):=fun V hV=>by rw[<- l.2];exact hV.Qb (a_ (w:=H.drew) F (k:=3) rfl) trivial
  have u3:=q.fdCell l.1
  have uz:=dP q.state (3+k)
  have ae:(k:Int)<8:=by have:=l.1;omega
  obtain⟨h5,A⟩:=q.setFd l.1 (p:=none) (f:=none) trivial
  have H5:=J3 v h5 A
  clear D F v q h5 A
  generalize H.drew=U at *
  have a:New U U:=zN _
  refine dO 0 a ?_
  refine dO 1 a ?_
  refine dO 2 a ?_
  refine dO 3 a ?_
  refine dO 4 a ?_
  refine dO 5 a ?_
  clear r3 a
  refine lM zk Zd rfl rfl zk ?_
  go_simp
  go_wp2
  go_ret
  rw[C.out]
  obtain⟨v,h5,A⟩:=H5.out
  obtain⟨-,-,a,hx⟩:=u.out
  exact⟨rfl,(a.new v).Qd A fun j hj hh e=>hh.2 (by rw[e,aa.out];exact .inr (.inr rfl)),_,_,hx,h5⟩
end
open Go.Shelf
def tX:Go.Shelf.Ren:=⟨fun|103=>227|210=>265|206=>284|n=>n,fun|9=>9|4=>4|24=>298|3=>3|n=>n,fun|n=>n⟩
theorem Bk:Go.Proofs.Lays.n103 prog tX:={
 mixed:=by kernel_rfl
 f103:=func227.trans (congrArg some zk)
 f206:=func284.trans (congrArg some zk)
 f210:=func265.trans (congrArg some zk)
 t3:=underlying3
 a3:=isAgg3
 z3:=sizeOf3
 v3:=zeroValue3
 t4:=underlying4
 a4:=isAgg4
 z4:=sizeOf4
 v4:=zeroValue4
 t9:=underlying9
 a9:=isAgg9
 z9:=sizeOf9
 v9:=zeroValue9
 t24:=underlying298
 a24:=isAgg298
 z24:=sizeOf298
 v24:=zeroValue298 }
def nT:Go.Shelf.Ren:=⟨fun|146=>228|221=>266|268=>285|138=>286|143=>287|195=>314|197=>315|218=>316|219=>317|260=>331|217=>332|225=>333|224=>334|267=>335|266=>338|314=>339|n=>n,fun|9=>9|31=>51|3=>3|4=>4|0=>0|105=>326|21=>21|5=>5|46=>248|119=>370|139=>373|138=>372|146=>393|51=>179|n=>n,fun|1=>2|3=>0|4=>1|n=>n⟩
theorem Ii:Go.Proofs.Lays.n146 prog nT:={
 mixed:=by kernel_rfl
 f138:=func286.trans (congrArg some zk)
 f143:=func287.trans (congrArg some zk)
 f146:=func228.trans (congrArg some zk)
 f195:=func314.trans (congrArg some zk)
 f197:=func315.trans (congrArg some zk)
 f217:=func332.trans (congrArg some zk)
 f218:=func316.trans (congrArg some zk)
 f219:=func317.trans (congrArg some zk)
 f221:=func266.trans (congrArg some zk)
 f224:=func334.trans (congrArg some zk)
 f225:=func333.trans (congrArg some zk)
 f260:=func331.trans (congrArg some zk)
 f266:=func338.trans (congrArg some zk)
 f267:=func335.trans (congrArg some zk)
 f268:=func285.trans (congrArg some zk)
 f314:=func339.trans (congrArg some zk)
 t0:=underlying0
 a0:=isAgg0
 z0:=sizeOf0
 v0:=zeroValue0
 t3:=underlying3
 a3:=isAgg3
 z3:=sizeOf3
 v3:=zeroValue3
 t4:=underlying4
 a4:=isAgg4
 z4:=sizeOf4
 v4:=zeroValue4
 t5:=underlying5
 a5:=isAgg5
 z5:=sizeOf5
 v5:=zeroValue5
 t9:=underlying9
 a9:=isAgg9
 z9:=sizeOf9
 v9:=zeroValue9
 t21:=underlying21
 a21:=isAgg21
 z21:=sizeOf21
 v21:=zeroValue21
 t31:=underlying51
 a31:=isAgg51
 z31:=sizeOf51
 v31:=zeroValue51
 t46:=underlying248
 a46:=isAgg248
 z46:=sizeOf248
 v46:=zeroValue248
 t51:=underlying179
 a51:=isAgg179
 z51:=sizeOf179
 v51:=zeroValue179
 t105:=underlying326
 a105:=isAgg326
 z105:=sizeOf326
 v105:=zeroValue326
 t119:=underlying370
 a119:=isAgg370
 z119:=sizeOf370
 t138:=underlying372
 a138:=isAgg372
 z138:=sizeOf372
 v138:=zeroValue372
 t139:=underlying373
 a139:=isAgg373
 z139:=sizeOf373
 v139:=zeroValue373
 t146:=underlying393
 a146:=isAgg393
 z146:=sizeOf393
 v146:=zeroValue393
 g1:=by kernel_rfl
 g3:=by kernel_rfl
 g4:=by kernel_rfl }
def fD(w:World):Prop:=∃m:Int,w.cell? ⟨2,0,none⟩=some (.int .i64 m)
theorem fD.new(h:fD w)(k:New w w'):fD w':=by obtain⟨m,hm⟩:=h;exact⟨m,k.Qb hm zt⟩
theorem zY(x:ByteArray):dR x.data.toList=x:=by cases x;simp[dR]
theorem tc(r:List UInt8):Lib.splitB (dR [47]) 0 (Lib.countB (dR r) (dR [47])) (dR r)=(gK r).map dR:=by
 have h:=Lib.splitB_data (dR [47]) 0 (Lib.countB (dR r) (dR [47])) (dR r)
 have e:Lib.splitK (dR [47]).data.toList 0 (Lib.countB (dR r) (dR [47])) (dR r).data.toList=gK r:=by
  rw[<- EL r.length r zr];rfl
 rw[e] at h
 rw[<- h,List.map_map]
 conv=>lhs;rw[<- List.map_id (Lib.splitB _ _ _ _)]
 exact List.map_congr_left fun x _=>(zY x).symm
theorem BQ(r:List UInt8):Lib.countB (dR r) (dR [47])+1=(gK r).length:=by
 have h:=congrArg List.length (tc r)
 rw[List.length_map] at h
 rw[<- h]
 exact(Lib.splitB_all (dR [47]) Zd 0 _ (dR r) rfl).symm
theorem wI(w:World)(p:eZ)(t:TypeId):Ps (w.alloc (.cells ((p.map dR).map Value.string).toArray t)) (fun b=>w.heap.size<=b) (some ⟨w.heap.size,0,none⟩) p.length p:=by
 refine⟨by simp,fun _=>⟨w.heap.size,0,rfl,zr,by simp,fun k u a=>?_⟩⟩
 rw[Nat.zero_add]
 refine a_ (heap_alloc_new w _) ?_
 rw[List.getElem?_toArray,List.map_map]
 exact a
theorem AL(s:List UInt8)(hs:s.length<=100000)(w:World)(hm:fD w):Calls prog 130 #[.string (dR s)] w fun e w' =>
  (∃A n c,e=.returned (.tuple #[.slice A n c,.int .i64 (eH s).2])/\Ps w' (fun b=>w.heap.size<=b) A n (eH s).1/\n<=c/\c<=9223372036854775807)/\New w w':=by
 have a:=zh<|Any.strings_CutPrefix Bk (dR s) (dR [47]) w
 have i:dR [47]={ data:=#[47] }:=rfl
 have D:∀z:Int,(eH s)=([],z)->∀(W:World) (k:New w W),(∃A n c,(Ending.returned (.tuple #[.slice none 0 0,.int .i64 z]))=.returned (.tuple #[.slice A n c,.int .i64 (eH s).2])/\Ps W (fun b=>w.heap.size<=b) A n (eH s).1/\n<=c/\c<=9223372036854775807)/\New w W:=fun z hz W k=>by
  rw[hz];exact⟨⟨none,0,0,rfl,Row.nil _ _ _ _,zr,Zd⟩,k⟩
 have j:=zh D
 clear D
 cases s with
 | nil =>
  rw[show Lib.trimPrefix (dR []).data.toList (dR [47]).data.toList=[] from rfl,show Lib.hasPrefix (dR []).data.toList (dR [47]).data.toList=false from rfl,i] at a
  go_in
  go_wp2_with fail
  refine a.mono ?_
  rintro e y⟨rfl,rfl⟩
  go_wp2
  refine Zb (.tuple #[.slice none 0 0,.int .i64 12]) (by simp[results,results130,go_sem]) ?_
  exact j.out 12 rfl _ (zN _)
 | cons b r =>
  have l:Lib.hasPrefix (dR (b::r)).data.toList (dR [47]).data.toList=decide (b=47):=by
   show(((47:UInt8)==b)&&List.isPrefixOf [] r)=_
   rw[show List.isPrefixOf [] r=true by cases r <;> rfl,Bool.and_true]
   by_cases h:b=47
   ·subst h;rfl
   rw[decide_eq_false h];exact beq_eq_false_iff_ne.2 fun e=>h e.symm
  by_cases hb:b=47
  ·subst hb
   rw[l,show Lib.trimPrefix (dR (47::r)).data.toList (dR [47]).data.toList=r from by unfold Lib.trimPrefix;rw[l];rfl] at a
   have o:(⟨r.toArray⟩:ByteArray)=dR r:=rfl
   rw[o,i,decide_eq_true rfl] at a
   have d:eH (47::r)=if r=[] then([],0) else if el (gK r)≠0 then([],el (gK r)) else(gK r,0):=by
    have h0:¬((47:UInt8)≠47):=Zd
    unfold eH
    dsimp only
    rw[if_neg h0]
   by_cases p:r=[]
   ·rw[if_pos p] at d
    subst p
    clear l o
    go_in
    go_wp2_with fail
    refine a.mono ?_
    rintro e y⟨rfl,rfl⟩
    go_wp2
    refine Zb (.tuple #[.slice none 0 0,.int .i64 0]) (by simp[results,results130,go_sem]) ?_
    exact j.out 0 rfl _ (zN _)
   rw[if_neg p] at d
   have L:(r==[])=false:=beq_eq_false_iff_ne.2 p
   obtain⟨m,hm⟩:=hm
   have q:=zh<|Any.strings_Split Ii zk (dR r) (dR [47]) m w (by show r.toArray.size<_;rw[List.size_toArray];simp at hs;omega) hm Zd
   rw[BQ,show Lib.splitB (dR [47]) 0 (Lib.countB (dR r) (dR [47])) (dR r)=(gK r).map dR from tc r,i] at q
   have u:=wI w (gK r) (nT.t 9)
   have H:=(zN w).alloc (.cells (((gK r).map dR).map Value.string).toArray (nT.t 9))
   have M:r.length<=100000:=by simp at hs;omega
   have E:(gK r).length<=1000000:=by have:=(mC r []).2;unfold gK;omega
   have B:=zh<|vq _ _ _ (gK r).length (gK r) _ u zo (fun K I=>by have:=nH r [] K I;simp at this;omega)
   have C:=J2 u H
   generalize World.alloc w (.cells (((gK r).map dR).map Value.string).toArray (nT.t 9))=O at *
   have g:=zh d
   obtain⟨f,hf⟩:=zx (el (gK r))
   rw[<- hf] at B g
   obtain⟨n,hn⟩:=zx ((gK r).length)
   rw[<- hn] at q B C E
   clear l o d u H hn p hm hf
   go_in
   go_wp2_with fail
   refine a.mono ?_
   rintro e y⟨rfl,rfl⟩
   clear a
   go_wp2_with fail
   refine q.mono ?_
   rintro e P⟨rfl,rfl⟩
   clear q
   go_wp2_with fail
   refine B.mono ?_
   rintro e Q⟨rfl,J⟩
   have F:=zh J
   clear B J
   by_cases h0:f=0
   ·subst h0
    have G:Hid (eH (47::r)=(gK r,0)):=zh (by have:=g.out;rwa[if_neg Zd] at this)
    clear g
    go_wp2
    refine Zb (.tuple #[.slice (some ⟨y.heap.size,0,none⟩) n n,.int .i64 0]) (by simp[results,results130,go_sem]) ?_
    rw[G.out]
    exact⟨⟨_,_,_,rfl,Row.new C.1 F.out,zr,zo⟩,C.2.new F.out⟩
   have N:(f !=0)=true:=by simpa using h0
   have G:Hid (eH (47::r)=([],f)):=zh (by have:=g.out;rwa[if_pos h0] at this)
   clear g h0
   go_wp2
   refine Zb (.tuple #[.slice none 0 0,.int .i64 f]) (by simp[results,results130,go_sem]) ?_
   exact j.out f G.out _ (C.2.new F.out)
  rw[l,decide_eq_false hb,i] at a
  have d:eH (b::r)=([],12):=if_pos hb
  generalize (⟨(Lib.trimPrefix _ _).toArray⟩:ByteArray)=x at a
  clear l
  go_in
  go_wp2_with fail
  refine a.mono ?_
  rintro e y⟨rfl,rfl⟩
  go_wp2
  refine Zb (.tuple #[.slice none 0 0,.int .i64 12]) (by simp[results,results130,go_sem]) ?_
  exact j.out 12 d _ (zN _)
section
variable {P:Program}{ops:Array Oper}{Q:Exit->Act->World->Prop}{md:Region.Mode}{last:Nat}{w0 w:World}{fuel fuel2:Nat}{listed listed2:Array Bool}{a:Act}
theorem pk(i j:Nat){o':Oper}(hr:Region.ready md ops listed=[i,j])(ho:ops[i]?=some o)(hw:Region.wanted o (yielded ops a.tmps)=true)(ho':ops[j]?=some o')(hw':Region.wanted o' (yielded ops a.tmps)=true)(h:∀K:Act->World->Prop,Hid (∀a' w',New w0 w'->HV P md ops Q last w0 fuel (listed.setIfInBounds i true) a' w'->K a' w')->Oper.wp P o a w K Q)(h':∀K:Act->World->Prop,Hid (∀a' w',New w0 w'->HV P md ops Q last w0 fuel (listed.setIfInBounds j true) a' w'->K a' w')->Oper.wp P o' a w K Q):HV P md ops Q last w0 (fuel+1) listed a w:=by
 refine⟨fun h0=>absurd (hr▸h0) (by simp),fun k hk=>?_⟩
 rw[hr] at hk
 have c:k=i\/k=j:=by simpa using hk
 unfold wpOp
 rcases c with rfl|rfl
 ·simp only[ho,hw,if_true]
  exact .inl (h _ (zh fun a' w' b hk=>⟨⟨zt,fun _=>b⟩,hk⟩))
 simp only[ho',hw',if_true]
 exact .inl (h' _ (zh fun a' w' b hk=>⟨⟨zt,fun _=>b⟩,hk⟩))
end
def zP(w:World)(D:Nat->Prop)(p:Value×List UInt8):Prop:=∃A' c',p.1=.slice A' p.2.length c'/\p.2.length<=c'/\Bs w D A' p.2.length p.2
theorem CA(hr:Row w D A n 1 vs)(hl:l.length=n)(hz:∀p∈vs.zip l,zP w D p):Bss w D A n l:=by
 refine⟨vs,hr,hl,fun k hk=>?_⟩
 have b:k<vs.length:=by have:=hr.1;omega
 have:=hz (vs[k],l[k]) (by
  have a:k<(vs.zip l).length:=by rw[List.length_zip];omega
  have:=List.getElem_mem a
  rwa[List.getElem_zip] at this)
 obtain⟨c,d,h1,h2,h3⟩:=this
 exact⟨c,d,by rw[List.getElem?_eq_getElem b];exact congrArg some h1,h2,h3⟩
theorem pR(hl:vs.length=l.length)(h:∀k (h:k<l.length),∃A' c',vs[k]?=some (.slice A' l[k].length c')/\l[k].length<=c'/\Bs w D A' l[k].length l[k]):∀p∈vs.zip l,zP w D p:=by
 intro p a
 obtain⟨k,hk,rfl⟩:=List.getElem_of_mem a
 rw[List.length_zip] at hk
 rw[List.getElem_zip]
 obtain⟨A',c',h1,h2,h3⟩:=h k zo
 rw[List.getElem?_eq_getElem zo] at h1
 injection h1 with h1
 exact⟨A',c',h1,h2,h3⟩
theorem oW{α β:Type}(l:List α)(m:List β)(n:Nat):(l.take n).zip (m.take n)=(l.zip m).take n/\(l.drop n).zip (m.drop n)=(l.zip m).drop n:=by
 simp only[List.zip_eq_zipWith,List.take_zipWith,List.drop_zipWith,and_self]
theorem GA{α β:Type}(l:List α)(m:List β)(k:Nat)(h:l.length=m.length):(ij k l).zip (ij k m)=ij k (l.zip m):=by
 unfold ij
 rw[List.zip_append (by rw[List.length_take,List.length_take,h]),(oW l m k).1,(oW l m (k+1)).2]
theorem G8{α:Type}{l:List α}{x:α}(h:x∈ij k l):x∈l:=by
 unfold ij at h
 rcases List.mem_append.1 h with h|h
 ·exact List.mem_of_mem_take h
 exact List.mem_of_mem_drop h
theorem Gz{α β:Type}(l:List α)(m:List β)(k:Nat)(x:α)(y:β)(h:l.length=m.length):(gZ k x l).zip (gZ k y m)=gZ k (x,y) (l.zip m):=by
 unfold gZ
 rw[List.zip_append (by rw[List.length_take,List.length_take,h]),List.zip_cons_cons,(oW l m k).1,(oW l m k).2]
theorem G7{α:Type}{l:List α}{x y:α}(h:y∈gZ k x l):y=x\/y∈l:=by
 unfold gZ at h
 rcases List.mem_append.1 h with h|h
 ·exact .inr (List.mem_of_mem_take h)
 rcases List.mem_cons.1 h with h|h
 ·exact .inl h
 exact .inr (List.mem_of_mem_drop h)
theorem zP.keep{c c':Col}{F:Nat->Prop}{p:Value×List UInt8}(h:zP w (fun b=>c b=0) p)(hk:b_ F w w')(hx:Ext w c c')(h0:∀b,b<w.heap.size->c b=0->F b):zP w' (fun b=>c' b=0) p:=by
 obtain⟨a,d,h1,h2,h3⟩:=h
 exact⟨a,d,h1,h2,jR h3 hk hx h0⟩
theorem yO{α:Type}(f:α->List Value)(s:Nat)(hf:∀x,(f x).length=s)(l:List α)(k:Nat)(x:α):[]++(l.map f).flatten.take (k*s)++f x++(l.map f).flatten.drop (k*s)=((gZ k x l).map f).flatten:=by
 rw[List.nil_append,rI f s hf,rJ f s hf]
 unfold gZ
 rw[List.map_append,List.map_cons,List.flatten_append,List.flatten_cons,List.append_assoc]
theorem qM{α:Type}{l:List α}(hk:k<=l.length)(x:α):(gZ k x l).length=0+k+1+(l.length-k):=by
 unfold gZ
 rw[zL,List.length_cons,List.length_take,List.length_drop];omega
section
variable {w w':World}{c c':Col}{i j bt:Nat}{R:eM}
theorem sG(h:ey w c i bt R)(hF:m8 R)(id:Int):
  Calls prog 250 #[.pointer (some ⟨bt,0,none⟩),.int .i64 id] w fun e w'=>e=.returned (.int .i64 (atL (wO id) R.nodes))/\w=w':=by
 obtain⟨-,A,ca,B,G,E,H,h1,⟨m,D⟩,-,-,o,-,-⟩:=h
 have u:=a_ h1 (k:=0) rfl
 have v:=zh o
 have hn:=hF.nodes
 clear h1 o hF
 generalize R.nodes=l at *
 obtain⟨n,a⟩:=zx (l.length)
 rw[<- a] at u m hn
 have p:=zh a
 obtain⟨r,d⟩:=zx (atL (wO id) l)
 rw[<- d]
 have q:=zh d
 clear a d
 go_in
 go_wp2_with fail
 go_loopw [4,5] (fun x i z=>∃k:Nat,x=.int .i64 0/\k<=n/\i=.int .i64 (k:Int)/\(∀j (_:j<k) (hj:j<l.length),wO id l[j]=false)/\w=z) (fun _ i _=>n-(intOf i).toNat)
 case atStart=>exact⟨0,rfl,Nat.zero_le _,rfl,fun j h=>absurd h (Nat.not_lt_zero _),rfl⟩
 obtain⟨k,rfl,hk,rfl,hb,rfl⟩:=hrel
 have f:=zh hb
 clear hb
 by_cases hlt:k<n
 ·have b:k<l.length:=by have:=p.out;omega
  obtain⟨g,off,rfl,-,C,-⟩:=Row.rnode v.out b
  obtain⟨y,hy⟩:=zx (l[k].1)
  rw[<- hy] at C
  have s:=zh hy
  clear hy
  by_cases he:y=id
  ·subst he
   go_wp2
   go_ret
   exact⟨by rw[q.out,BX b (decide_eq_true s.symm) fun j hj=>f.out j hj _];rfl,rfl⟩
  have F:(y==id)=false:=beq_eq_false_iff_ne.2 he
  have t:=zh he
  clear he
  go_wp2
  go_roundw
  case rel=>exact⟨k+1,rfl,zo,by go_num,fun j h hj=>(Nat.lt_or_eq_of_le (Nat.le_of_lt_succ h)).elim (fun h=>f.out j h hj) (fun e=>by subst e;exact decide_eq_false fun e=>t.out (s.trans e)),by first|rfl|trivial⟩
  simp[intOf];omega
 obtain rfl:k=n:=by omega
 go_wp2
 go_ret
 exact⟨by rw[q.out,uA fun j hj=>f.out j (by have:=p.out;omega) hj];rfl,rfl⟩
theorem tu(h:ey w c i bt R)(hF:m8 R)(d:Int)(nm:List UInt8):
  Calls prog 183 #[.pointer (some ⟨bt,0,none⟩),.int .i64 d,.string (dR nm)] w fun e w'=>e=.returned (.int .i64 (atL (nw d nm) R.e))/\w=w':=by
 obtain⟨-,A,ca,B,N,E,O,h1,-,-,⟨t,M⟩,-,-,u⟩:=h
 have G:=a_ h1 (k:=2) rfl
 have H:=zh u
 have hn:=hF.e
 clear h1 u hF
 generalize R.e=l at *
 obtain⟨n,m⟩:=zx (l.length)
 rw[<- m] at G t hn
 have v:=zh m
 obtain⟨r,q⟩:=zx (atL (nw d nm) l)
 rw[<- q]
 have x:=zh q
 clear m q
 go_in
 go_wp2_with fail
 go_loopw [6,7] (fun I i J=>∃k:Nat,I=.int .i64 0/\k<=n/\i=.int .i64 (k:Int)/\(∀j (_:j<k) (hj:j<l.length),nw d nm l[j]=false)/\w=J) (fun _ i _=>n-(intOf i).toNat)
 case atStart=>exact⟨0,rfl,Nat.zero_le _,rfl,fun j h=>absurd h (Nat.not_lt_zero _),rfl⟩
 obtain⟨k,rfl,hk,rfl,hb,rfl⟩:=hrel
 have s:=zh hb
 clear hb
 by_cases hlt:k<n
 ·have o:k<l.length:=by have:=v.out;omega
  obtain⟨g,off,rfl,-,K,L,-⟩:=Row.rent H.out o
  obtain⟨y,hy⟩:=zx (l[k])
  rw[<- hy] at K L
  have z:=zh hy
  clear hy
  have b:nw d nm y=false->∀j (_:j<k+1) (hj:j<l.length),nw d nm l[j]=false:=fun C j h hj=>(Nat.lt_or_eq_of_le (Nat.le_of_lt_succ h)).elim (fun h=>s.out j h hj) (fun e=>by subst e;rw[<- z.out];exact C)
  have D:=zh b
  clear b
  by_cases he:y.1=d
  ·by_cases a:y.2.1=nm
   ·have p:(y.1==d)=true:=beq_iff_eq.2 he
    have F:(y.2.1==nm)=true:=beq_iff_eq.2 a
    have f:=J2 he a
    clear he a
    go_wp2
    go_ret
    exact⟨by rw[x.out,BX o (by rw[<- z.out];simp[nw,f.1,f.2]) fun j hj=>s.out j hj _];rfl,rfl⟩
   have p:(y.1==d)=true:=beq_iff_eq.2 he
   have F:(y.2.1==nm)=false:=beq_eq_false_iff_ne.2 a
   have f:Hid (nw d nm y=false):=zh (by simp[nw,a])
   clear he a
   go_wp2
   go_roundw
   case rel=>exact⟨k+1,rfl,zo,by go_num,D.out f.out,by first|rfl|trivial⟩
   simp[intOf];omega
  have p:(y.1==d)=false:=beq_eq_false_iff_ne.2 he
  have f:Hid (nw d nm y=false):=zh (by simp[nw,he])
  clear he
  go_wp2
  go_roundw
  case rel=>exact⟨k+1,rfl,zo,by go_num,D.out f.out,by first|rfl|trivial⟩
  simp[intOf];omega
 obtain rfl:k=n:=by omega
 go_wp2
 go_ret
 exact⟨by rw[x.out,uA fun j hj=>s.out j (by have:=v.out;omega) hj];rfl,rfl⟩
end
section
variable {w w':World}{c c':Col}{i j bt:Nat}{R:eM}
def jD(w:World)(c:Col)(i bt:Nat)(R:eM)(v:Value)(e:Ending)(w':World):Prop :=
 e=.returned v/\b_ (fun b=>b≠bt) w w'/\∃c',Ext w c c'/\ey w' c' i bt R
theorem jD.stay(h:ey w c i bt R)(hk:New w w')(v:Value):jD w c i bt R v (.returned v) w':=⟨rfl,b_.Qe hk,c,Ext.refl _ _,h.new hk⟩
theorem zC{α:Type}(f:α->List Value)(s:Nat)(hf:∀x,(f x).length=s)(l:List α)(k:Nat):[]++(l.map f).flatten.take (k*s)++(l.map f).flatten.drop ((k+1)*s)=((ij k l).map f).flatten:=by
 rw[List.nil_append,rI f s hf,rJ f s hf]
 unfold ij
 rw[List.map_append,List.flatten_append]
theorem wX{α:Type}{l:List α}(hk:k<l.length):(ij k l).length=0+k+(l.length-(k+1)):=by
 unfold ij
 rw[zL,List.length_take,List.length_drop];omega
theorem E8(h:ey w c i bt R)(hi:i≠0)(hF:m8 R)(hk:k<R.e.length):
  Calls prog 186 #[.pointer (some ⟨bt,0,none⟩),.int .i64 (k:Int)] w (jD w c i bt (R.cut k) (.tuple #[])):=by
 have hlt:=h.lt
 obtain⟨hc,A,ca,B,cb,E,x,h1,P,Q,⟨I,ab⟩,S,hB,q⟩:=h
 have hn:=hF.e
 obtain⟨g,off,rfl,ac,-⟩:=q.rent hk
 have o:=qH R.e
 have hfl:=zC ic 3 (fun _=>rfl) R.e k
 have d:=wX hk
 have hd:c g=0:=by obtain⟨_,_,e,hd,_⟩:=q.2 zo;injection e with e;injection e with e _;rw[e];exact hd
 obtain⟨vs,t⟩:=zx ((R.e.map ic).flatten)
 rw[<- t] at q o hfl
 have T:=(q.cutTake (k:=k) zo).drew
 have M:=(q.cutIf (k:=k+1) zo I).drew
 obtain⟨n,J⟩:=zx (R.e.length)
 rw[<- J] at hk I hn M d h1
 have c2:∀W,New w.drew W->W.cell? ⟨bt,2,none⟩=some (.slice (some ⟨g,off,none⟩) n x):=fun W hW=>hW.Qb (a_ (w:=w.drew) h1 (k:=2) rfl) trivial
 have L:=J2 S hB
 have U:=J4 h1 hfl d t
 have y:=J3 T M o
 have ad:k<=x:=by omega
 have ae:k+1<=n:=hk
 have af:k+1<=x:=by omega
 have ag:IntKind.i64.wrap ((k:Int)+1)=((k+1:Nat):Int):=by rw[IntWalk.i64_in _ zo];rfl
 have b1:(0:Int)<=(k:Int)+1:=by omega
 have b2:(k:Int)+1<=(n:Int):=zo
 clear q S hB h1 hfl d t T M o J
 go_in
 go_upto_region 0 with fail
 refine km 19 zk ?_
 have V:New w w.drew:=(zN w).drew
 have hz:w.drew.heap.size=w.heap.size:=rfl
 have z:=J2 V hz
 clear V hz
 generalize w.drew=f at *
 have a:New f f:=zN _
 refine dO 0 a ?_
 refine dO 2 a ?_
 refine dO 3 a ?_
 refine dO 4 a ?_
 refine dO 5 a ?_
 refine dO 6 a ?_
 refine dO 7 a ?_
 refine dO 9 a ?_
 refine dO 10 a ?_
 refine dO 11 a ?_
 refine dO 12 a ?_
 refine dO 13 a ?_
 refine dO 14 a ?_
 refine dO 15 a ?_
 refine fH 1 zk rfl rfl (fun K j=>?_)
 go_simp
 have C:=(zN f).alloc (.cells #[] 247)
 have X:Own (f.alloc (.cells #[] 247)) f.heap.size 247 3 (some ⟨f.heap.size,0,none⟩) 0 0 []:=World.ownsRow_made f #[] 0 zr (by simp[maxLen]) (by simp)
 refine j _ _ C ?_
 clear j K
 try simp only[zy]
 generalize f.alloc (.cells #[] 247)=w1 at *
 refine fH 8 zk rfl rfl (fun K j=>?_)
 refine ii rfl underlying158 (fY kR) Zd rfl X rfl (y.1.new C) (fun u N=>y.2.2 u (List.mem_of_mem_take N)) (by unfold maxLen;omega) zo C ?_
 intro A8 c8 w8 Y D
 refine j _ _ D ?_
 clear j K
 try simp only[zy]
 refine fH 16 zk rfl rfl (fun K j=>?_)
 refine ii rfl underlying158 (fY kR) Zd rfl Y rfl (y.2.1.new D) (fun u N=>y.2.2 u (List.mem_of_mem_drop N)) (by unfold maxLen;omega) zo D ?_
 intro F G v r l
 refine j _ _ l ?_
 clear j K
 try simp only[zy]
 refine dO 17 l ?_
 refine dO 18 l ?_
 have s:=l.Qa (z.1.Qa U.1 zt) trivial
 have z2:=dP s 2
 have d2:=a_ s (k:=2) rfl
 have HO:=J3 r l s
 clear X Y r C D l s a c2
 generalize (if x=k+1 then(some ⟨g,off,none⟩:Option Addr) else some ⟨g,off+(k+1)*3,none⟩)=A2 at *
 generalize 0+k+(n-(k+1))=m at *
 refine lM zk Zd rfl rfl zk ?_
 go_simp
 go_wp2_with fail
 go_end0
 obtain⟨h1,hfl,d,-⟩:=U.out
 subst d
 obtain⟨r,l,s⟩:=HO.out
 have kk:New w v:=z.1.new l
 have H:=c.Qg w fun _=>0
 have O:b_ (fun b=>b≠bt) w (v.setCell ⟨bt,2,none⟩ (.slice F (ij k R.e).length G)):=(b_.Qe kk).setCell (p:=⟨bt,2,none⟩) (fun hd=>absurd rfl hd) _
 have h0:∀b,b<w.heap.size->c b=0->b≠bt:=fun b _ hb e=>by rw[e,hc] at hb;exact hi hb
 have k9:b_ (fun b=>b≠bt) v (v.setCell ⟨bt,2,none⟩ (.slice F (ij k R.e).length G)):=(b_.refl _ v).setCell (p:=⟨bt,2,none⟩) (fun hd=>absurd rfl hd) _
 have Z:=((Row.Qc r).keep k9 (fun b hb hd e=>by rw[e,z.2] at hd;omega)).imp (E:=fun b=>c.on w.heap.size (fun _=>0) b=0) fun b _ hb=>Col.Qf _ _ (by rw[<- z.2];exact hb)
 rw[hfl] at Z
 have aa:=dM s 2 (.slice F (ij k R.e).length G)
 exact⟨rfl,O,_,H,(H _ hlt).trans hc,A,ca,B,cb,F,G,aa,P,Q,⟨ew r,eh r⟩,lL L.1 O H h0,ra L.2 O H h0,Z⟩
end
section
variable {w w9:World}{c:Col}{i bt:Nat}{R:eM}{A9:Option Addr}{n9 c9:Nat}
theorem ey.parts(h:ey w c i bt R)(hi:i≠0)(hk:New w w9)(k:Nat)(v:Value):
  b_ (fun b=>b≠bt) w (w9.setCell ⟨bt,k,none⟩ v)/\b_ (fun b=>b≠bt) w9 (w9.setCell ⟨bt,k,none⟩ v)/\Ext w c (c.on w.heap.size fun _=>0)/\(∀b,b<w.heap.size->c b=0->b≠bt)/\∀b,w.heap.size<=b->b≠bt :=
 ⟨(b_.Qe hk).setCell (p:=⟨bt,k,none⟩) (fun hd=>absurd rfl hd) _,(b_.refl _ w9).setCell (p:=⟨bt,k,none⟩) (fun hd=>absurd rfl hd) _,c.Qg w _,fun b _ hb e=>by rw[e,h.1] at hb;exact hi hb,fun b hb e=>by have:=h.lt;omega⟩
theorem tI{et:TypeId}(h:ey w c i bt R)(hk:b_ (fun b=>b≠bt) w9 (w9.setCell ⟨bt,k,none⟩ v))(ho:Own w9 w.heap.size et size A9 n c9 vs):Row (w9.setCell ⟨bt,k,none⟩ v) (fun b=>c.on w.heap.size (fun _=>0) b=0) A9 n size vs :=
 ((Row.Qc ho).keep hk (fun b hb hd e=>by have:=h.lt;have a:w.heap.size<=b:=hd;omega)).imp fun b _ hb=>Col.Qf _ _ hb
theorem ey.setE(h:ey w c i bt R)(hi:i≠0)(hk:New w w9){e':List (Int×List UInt8×Int)}(ho:Own w9 w.heap.size 247 3 A9 e'.length c9 (e'.map ic).flatten):
  b_ (fun b=>b≠bt) w (w9.setCell ⟨bt,2,none⟩ (.slice A9 e'.length c9))/\Ext w c (c.on w.heap.size fun _=>0)/\ey (w9.setCell ⟨bt,2,none⟩ (.slice A9 e'.length c9)) (c.on w.heap.size fun _=>0) i bt ⟨R.nodes,R.data,e'⟩:=by
 obtain⟨d,g,a,h0,-⟩:=h.parts hi hk 2 (.slice A9 e'.length c9)
 have j:=tI h g ho
 have hlt:=h.lt
 obtain⟨hc,A,ca,B,k,E,n,h1,e,f,m,l,hB,o⟩:=h
 exact⟨d,a,(a _ hlt).trans hc,A,ca,B,k,A9,c9,dM (hk.Qa h1 zt) 2 _,e,f,⟨ew ho,eh ho⟩,lL l d a h0,ra hB d a h0,j⟩
theorem ey.setN(h:ey w c i bt R)(hi:i≠0)(hk:New w w9){l:List (Int×i')}(ho:Own w9 w.heap.size 53 6 A9 l.length c9 (l.map fo).flatten):
  b_ (fun b=>b≠bt) w (w9.setCell ⟨bt,0,none⟩ (.slice A9 l.length c9))/\Ext w c (c.on w.heap.size fun _=>0)/\ey (w9.setCell ⟨bt,0,none⟩ (.slice A9 l.length c9)) (c.on w.heap.size fun _=>0) i bt ⟨l,R.data,R.e⟩:=by
 obtain⟨d,j,a,h0,-⟩:=h.parts hi hk 0 (.slice A9 l.length c9)
 have k:=tI h j ho
 have hlt:=h.lt
 obtain⟨hc,A,ca,B,m,E,n,h1,p,f,g,q,hB,o⟩:=h
 exact⟨d,a,(a _ hlt).trans hc,A9,c9,B,m,E,n,dM (hk.Qa h1 zt) 0 _,⟨ew ho,eh ho⟩,f,g,k,ra hB d a h0,lL o d a h0⟩
theorem ey.setD(h:ey w c i bt R)(hi:i≠0)(hk:New w w9)(ho:Own w9 w.heap.size 22 1 A9 l.length c9 vs)(hz:∀p∈vs.zip l,zP w (fun b=>c b=0) p):
  b_ (fun b=>b≠bt) w (w9.setCell ⟨bt,1,none⟩ (.slice A9 l.length c9))/\Ext w c (c.on w.heap.size fun _=>0)/\ey (w9.setCell ⟨bt,1,none⟩ (.slice A9 l.length c9)) (c.on w.heap.size fun _=>0) i bt ⟨R.nodes,l,R.e⟩:=by
 obtain⟨d,j,a,h0,-⟩:=h.parts hi hk 1 (.slice A9 l.length c9)
 have k:=tI h j ho
 have hlt:=h.lt
 obtain⟨hc,A,ca,B,s,E,m,h1,f,r,g,n,hB,o⟩:=h
 exact⟨d,a,(a _ hlt).trans hc,A,ca,A9,c9,E,m,dM (hk.Qa h1 zt) 1 _,f,⟨ew ho,eh ho⟩,g,lL n d a h0,CA k rfl fun p q=>(hz p q).keep d a h0,lL o d a h0⟩
theorem jD.then{w2:World}{c2:Col}{R':eM}{e:Ending}(k:b_ (fun b=>b≠bt) w w2)(x:Ext w c c2)(h:jD w2 c2 i bt R' v e w'):jD w c i bt R' v e w':=by
 obtain⟨h1,h2,a,h3,d⟩:=h
 exact⟨h1,k.trans h2,a,fun b hb=>(h3 b (Nat.lt_of_lt_of_le hb k.size)).trans (x b hb),d⟩
end
theorem Io{α:Type}(k:Nat)(l:List α):(ij k l).length<=l.length:=by
 unfold ij
 rw[zL,List.length_take,List.length_drop];omega
theorem wZ(hl:vs.length=l.length)(h:∀p∈vs.zip l,zP w D p):∀u∈vs,u.oneCell'=true:=by
 intro u b
 obtain⟨k,hk,rfl⟩:=List.getElem_of_mem b
 have a:k<(vs.zip l).length:=by rw[List.length_zip];omega
 have hm:=List.getElem_mem a
 rw[List.getElem_zip] at hm
 obtain⟨c,d,h1,-⟩:=h _ hm
 have h2:vs[k]=.slice c _ d:=h1
 rw[h2];rfl
section
variable {w w':World}{c c':Col}{i j bt:Nat}{R:eM}
theorem vm(h:ey w c i bt R)(hi:i≠0)(hF:m8 R)(hk:atL (wO id) R.nodes=(k:Int))(hkl:k<R.nodes.length)(hd:R.data.length=R.nodes.length):
  Calls prog 187 #[.pointer (some ⟨bt,0,none⟩),.int .i64 id] w (jD w c i bt (R.gone k) (.tuple #[])):=by
 have HA:=zh<|sG h hF id
 rw[hk] at HA
 have M:=zh h
 have G:=zh hF
 have ah:=J2 hd hkl
 clear h hk hd
 go_in
 go_wp2_with fail
 refine HA.mono ?_
 rintro e w1⟨rfl,rfl⟩
 clear HA
 obtain⟨-,A,ca,B,P,E,ce,h1,H,I,aa,Y,hB,hE⟩:=M.out
 have hn:=G.nodes
 have s:=H.1
 have ab:=H.2
 have j:=Y
 have o:=nj (R).nodes
 obtain⟨Q,S⟩:=zx (((R).nodes.map fo).flatten)
 rw[<- S] at j o
 obtain⟨g,off,rfl,-⟩:=j.2 zo
 have N:=(j.cutTake (k:=k) zo).drew
 have x:=(j.cutIf (k:=k+1) zo s).drew
 obtain⟨n,q⟩:=zx ((R).nodes.length)
 rw[<- q] at s hn x h1 hkl
 have cx:∀V,New w.drew V->V.cell? ⟨bt,0,none⟩=some (.slice (some ⟨g,off,none⟩) n ca):=fun V j=>j.Qb (a_ (w:=w.drew) h1 (k:=0) rfl) trivial
 have O:=zh q
 have Z:=zh h1
 have r:=J3 N x o
 have T:=J2 S hkl
 have ac:k<=ca:=by omega
 have ad:k+1<=n:=hkl
 have ae:k+1<=ca:=by omega
 have af:IntKind.i64.wrap ((k:Int)+1)=((k+1:Nat):Int):=by rw[IntWalk.i64_in _ zo];rfl
 have b1:(0:Int)<=(k:Int)+1:=by omega
 have b2:(k:Int)+1<=(n:Int):=zo
 clear j Y hE h1 N x o q S hB
 go_upto_region 1 with fail
 refine km 19 zk ?_
 have U:New w w.drew:=(zN w).drew
 have y:w.drew.heap.size=w.heap.size:=rfl
 have z:=J2 U y
 clear U y
 generalize w.drew=d at *
 have a:New d d:=zN _
 refine dO 0 a ?_
 refine dO 2 a ?_
 refine dO 3 a ?_
 refine dO 4 a ?_
 refine dO 5 a ?_
 refine dO 6 a ?_
 refine dO 7 a ?_
 refine dO 9 a ?_
 refine dO 10 a ?_
 refine dO 11 a ?_
 refine dO 12 a ?_
 refine dO 13 a ?_
 refine dO 14 a ?_
 refine dO 15 a ?_
 refine fH 1 zk rfl rfl (fun K f=>?_)
 go_simp
 have t:=(zN d).alloc (.cells #[] 53)
 have W:Own (d.alloc (.cells #[] 53)) d.heap.size 53 6 (some ⟨d.heap.size,0,none⟩) 0 0 []:=World.ownsRow_made d #[] 0 zr (by simp[maxLen]) (by simp)
 refine f _ _ t ?_
 clear f K
 try simp only[zy]
 generalize d.alloc (.cells #[] 53)=w1 at *
 refine fH 8 zk rfl rfl (fun K f=>?_)
 refine ii rfl underlying156 (fY i7) Zd rfl W rfl (Row.new r.1 t) (fun u D=>r.2.2 u (List.mem_of_mem_take D)) (by unfold maxLen;omega) zo t ?_
 intro A8 c8 w8 X v
 refine f _ _ v ?_
 clear f K
 try simp only[zy]
 refine fH 16 zk rfl rfl (fun K f=>?_)
 refine ii rfl underlying156 (fY i7) Zd rfl X rfl (Row.new r.2.1 v) (fun u D=>r.2.2 u (List.mem_of_mem_drop D)) (by unfold maxLen;omega) zo v ?_
 intro A9 c9 w9 l b
 refine f _ _ b ?_
 clear f K
 try simp only[zy]
 refine dO 17 b ?_
 refine dO 18 b ?_
 have F:=b.Qa (z.1.Qa Z.out zt) trivial
 have zz:=dP F 0
 have dd:=a_ F (k:=0) rfl
 have HO:=J2 l b
 clear W X l t v b F a cx
 generalize (if ca=k+1 then(some ⟨g,off,none⟩:Option Addr) else some ⟨g,off+(k+1)*6,none⟩)=A2 at *
 generalize hm:0+k+(n-(k+1))=m at *
 have HM:=zh hm
 clear hm
 refine lM zk Zd rfl rfl zk ?_
 go_simp
 have hm:m=(ij k (R).nodes).length:=by rw[<- HM.out,O.out,wX (by rw[<- O.out];omega)]
 subst hm
 obtain⟨l,b⟩:=HO.out
 rw[z.2,T.1,zC fo 6 (fun _=>rfl)] at l
 obtain⟨ks,J,hT⟩:=M.setN hi (z.1.new b) l
 have H1:=J3 ks J hT
 generalize World.setCell _ _ _=C at *
 generalize (c.on w.heap.size fun _=>0)=c1 at *
 clear M G O Z r T z HO HM ks J hT hn s ab H I aa ac ad ae af b1 b2 dd zz hkl l b
 have M:=zh H1.2.2
 have G:Hid (m8 ⟨ij k R.nodes,R.data,R.e⟩):=zh ⟨Nat.le_trans (Io _ _) hF.nodes,hF.data,hF.e⟩
 have hkl:k<(eM.mk (ij k R.nodes) R.data R.e).data.length:=by have:=ah.out;show k<R.data.length;omega
 obtain⟨-,A,ca,B,P,E,ce,h1,H,I,aa,Y,hB,hE⟩:=M.out
 have hn:=G.data
 have s:=I.1
 have ab:=I.2
 obtain⟨Q,j,ai,ag⟩:=hB
 have L:Q.length=(eM.mk (ij k R.nodes) R.data R.e).data.length:=by have:=j.1;omega
 have hz:=pR L ag
 have o:=wZ L hz
 obtain⟨g,off,rfl,-⟩:=j.2 zo
 have N:=(j.cutTake (k:=k) zo).drew
 have x:=(j.cutIf (k:=k+1) zo s).drew
 simp only[Nat.mul_one] at N x
 obtain⟨n,q⟩:=zx ((eM.mk (ij k R.nodes) R.data R.e).data.length)
 rw[<- q] at s hn x h1 hkl
 have cx:∀V,New C.drew V->V.cell? ⟨bt,1,none⟩=some (.slice (some ⟨g,off,none⟩) n P):=fun V j=>j.Qb (a_ (w:=C.drew) h1 (k:=1) rfl) trivial
 have O:=zh q
 have Z:=zh h1
 have r:=J3 N x o
 have T:=J2 hz L
 have ac:k<=P:=by omega
 have ad:k+1<=n:=hkl
 have ae:k+1<=P:=by omega
 have af:IntKind.i64.wrap ((k:Int)+1)=((k+1:Nat):Int):=by rw[IntWalk.i64_in _ zo];rfl
 have b1:(0:Int)<=(k:Int)+1:=by omega
 have b2:(k:Int)+1<=(n:Int):=zo
 clear j Y hE h1 N x o q hz L ai ag
 go_upto_region 2 with fail
 refine km 19 zk ?_
 have U:New C C.drew:=(zN C).drew
 have y:C.drew.heap.size=C.heap.size:=rfl
 have z:=J2 U y
 clear U y
 generalize C.drew=d at *
 have a:New d d:=zN _
 refine dO 0 a ?_
 refine dO 2 a ?_
 refine dO 3 a ?_
 refine dO 4 a ?_
 refine dO 5 a ?_
 refine dO 6 a ?_
 refine dO 7 a ?_
 refine dO 9 a ?_
 refine dO 10 a ?_
 refine dO 11 a ?_
 refine dO 12 a ?_
 refine dO 13 a ?_
 refine dO 14 a ?_
 refine dO 15 a ?_
 refine fH 1 zk rfl rfl (fun K f=>?_)
 go_simp
 have t:=(zN d).alloc (.cells #[] 22)
 have W:Own (d.alloc (.cells #[] 22)) d.heap.size 22 1 (some ⟨d.heap.size,0,none⟩) 0 0 []:=World.ownsRow_made d #[] 0 zr (by simp[maxLen]) (by simp)
 refine f _ _ t ?_
 clear f K
 try simp only[zy]
 generalize d.alloc (.cells #[] 22)=w1 at *
 refine fH 8 zk rfl rfl (fun K f=>?_)
 refine ii rfl underlying157 (fY jY) Zd rfl W rfl (Row.new r.1 t) (fun u D=>r.2.2 u (List.mem_of_mem_take D)) (by unfold maxLen;omega) zo t ?_
 intro A8 c8 w8 X v
 refine f _ _ v ?_
 clear f K
 try simp only[zy]
 refine fH 16 zk rfl rfl (fun K f=>?_)
 refine ii rfl underlying157 (fY jY) Zd rfl X rfl (Row.new r.2.1 v) (fun u D=>r.2.2 u (List.mem_of_mem_drop D)) (by unfold maxLen;omega) zo v ?_
 intro A9 c9 w9 l b
 refine f _ _ b ?_
 clear f K
 try simp only[zy]
 refine dO 17 b ?_
 refine dO 18 b ?_
 have F:=b.Qa (z.1.Qa Z.out zt) trivial
 have zz:=dP F 1
 have dd:=a_ F (k:=1) rfl
 have HO:=J2 l b
 clear W X l t v b F a cx
 generalize (if P=k+1 then(some ⟨g,off,none⟩:Option Addr) else some ⟨g,off+(k+1),none⟩)=A2 at *
 generalize hm:0+k+(n-(k+1))=m at *
 have HM:=zh hm
 clear hm
 refine lM zk Zd rfl rfl zk ?_
 go_simp
 have hm:m=(ij k (eM.mk (ij k R.nodes) R.data R.e).data).length:=by rw[<- HM.out,O.out,wX (by rw[<- O.out];omega)]
 subst hm
 obtain⟨l,b⟩:=HO.out
 rw[z.2] at l
 have hfl:[]++Q.take k++Q.drop (k+1)=ij k Q:=by unfold ij;simp
 rw[hfl] at l
 obtain⟨ks,J,hT⟩:=M.setD hi (z.1.new b) l (fun p hp=>by rw[GA _ _ _ T.2] at hp;exact T.1 p (G8 hp))
 go_wp2_with fail
 go_end0
 exact jD.then H1.1 H1.2.1 ⟨rfl,ks,_,J,hT⟩
end
theorem Row.cutO(h:Row w D A n size vs)(hk:k<=n)(hc:n<=ce):Row w D (if ce=k then A else Option.map (fun x=>x.add (k*size)) A) (n-k) size (vs.drop (k*size)):=by
 refine⟨by rw[List.length_drop,h.1,Nat.sub_mul],fun h0=>?_⟩
 obtain⟨b,off,e,hd,hlt,d⟩:=h.2 zo
 subst e
 rw[if_neg zo]
 have a:=(h.cutDrop hk).2 h0
 show ∃f c,some ((⟨b,off,none⟩:Addr).add (k*size))=_/\_
 rw[Addr.add_lit]
 exact a
theorem mS(W:World){base:Nat}(hb:base<=W.heap.size)(e:TypeId)(_hs:0<size):Own (W.alloc (.cells #[] e)) base e size (some ⟨W.heap.size,0,none⟩) 0 0 [] :=
 eQ (World.ownsRow_made W #[] 0 zr (by simp[maxLen]) (by simp)) hb
theorem jI(w:World)(vs:List Value)(t:TypeId)(n size:Nat)(h:vs.length=n*size):Row (w.alloc (.cells vs.toArray t)) (fun b=>b=w.heap.size) (some ⟨w.heap.size,0,none⟩) n size vs :=
 ⟨h,fun _=>⟨w.heap.size,0,rfl,rfl,by simp,fun k u a=>by rw[Nat.zero_add];exact a_ (heap_alloc_new w _) (by rw[List.getElem?_toArray];exact a)⟩⟩
section
variable {P:Program}{Q:Exit->Act->World->Prop}
theorem fb{K:Act->World->Prop}{s x:Operand}(ho:o.op=.call { callee:=.builtin .append,args:=#[s,x],argTypes:=#[t,t] })(ht:P.underlying t=some (.slice e))(hi:∃i z,P.info? e=some i/\i.zero=some z/\i.size=size/\i.bytes=bytes/\z.cells.size=size)(hsz:0<size){c:Nat}(hs:a.eval s=.slice A n c)(hown:Own w w0.heap.size e size A n c xs){c2:Nat}(hx:a.eval x=.slice A2 m c2)(hr:Row w D A2 m size news)(h1:∀u∈news,u.oneCell'=true)(h63:n+m<=maxLen)(hbytes:(n+m)*bytes<=140737488355328)(hk:New w0 w)(h:∀A' c' w',Own w' w0.heap.size e size A' (n+m) c' (xs++news)->New w0 w'->b_ (fun b=>some b≠blk A) w w'->K (a.put o.dst (.slice A' (n+m) c')) w'):o.wp P a w K Q:=by
 obtain⟨i,z,hi,hz,k,l,p⟩:=hi
 obtain⟨A',c',w',d,h2,hg,_⟩:=jH (P:=P) w w0.heap.size t o.type e i z size bytes ht hi hz k l p hsz A n c xs hown D A2 m c2 news hr h1 h63 hbytes hk.size
 have f:b_ (fun b=>some b≠blk A) w w':=⟨hg.os,hg.tape,hg.output,hg.size,fun j hj g=>hg.block j hj g⟩
 have q:New w0 w':=by
  refine b_.Qi (D:=fun b=>b<w0.heap.size) ((b_.Qe hk).Qd f fun b hb _ e=>?_) fun b hb=>hb
  have:=eW hown b e.symm
  omega
 unfold Oper.wp execOp
 simp only[ho,resolve,invoke,builtin,Sem.run_bind,Sem.run_pure,Result.andThen_ok,List.map_toArray,List.map_cons,List.map_nil,hs,hx,d]
 exact h A' c' w' h2 q f
end
def mu{α:Type}(p:α->Bool)(l:List α):Nat:=(l.takeWhile p).length
def jt(d:Int)(nm:List UInt8)(x:Int×List UInt8×Int):Bool:=decide (x.1<d\/x.1=d/\x.2.1<nm)
theorem yI{α:Type}(p:α->Bool):∀l:List α,mu p l<=l.length
 | []=>Nat.le_refl _
 | x::r=>by
  unfold mu
  rw[List.takeWhile_cons]
  split
  ·exact Nat.succ_le_succ (yI p r)
  exact Nat.zero_le _
theorem tW{α:Type}{p:α->Bool}:∀ {l:List α}{k:Nat},k<=l.length->(∀j (_:j<k) (hj:j<l.length),p l[j]=true)->(∀hk:k<l.length,p l[k]=false)->mu p l=k
 | [],k,hk,_,_=>by
  have:k=0:=by simpa using hk
  subst this
  rfl
 | x::r,0,_,_,h=>by
  have:=h (Nat.succ_pos _)
  unfold mu
  rw[List.takeWhile_cons,if_neg (by simpa using this)];rfl
 | x::r,k+1,hk,hb,h=>by
  have h0:=hb 0 (Nat.succ_pos _) (Nat.succ_pos _)
  have ih:=tW (p:=p) (l:=r) (k:=k) (by simpa using hk) (fun j h1 h2=>hb (j+1) zo (by simpa using h2)) (fun h1=>h (by simpa using h1))
  unfold mu at ih ⊢
  rw[List.takeWhile_cons,if_pos (by simpa using h0),List.length_cons,ih]
theorem DU(T:dX)(d:Int)(nm:List UInt8):mu (jt d nm) (ec T).e=below ⟨d,nm⟩ (gI T):=by
 show mu (jt d nm) ((gI T).map lI)=_
 generalize gI T=l
 induction l with
 | nil=>rfl
 | cons x r ih =>
  obtain⟨a,y⟩:=x
  unfold mu at ih ⊢
  rw[List.map_cons,List.takeWhile_cons]
  show(if jt d nm (lI (a,y))=true then _ else _:List _).length=(if a<⟨d,nm⟩ then below ⟨d,nm⟩ r+1 else 0)
  have e:jt d nm (lI (a,y))=true↔a<⟨d,nm⟩:=by
   unfold jt lI
   rw[decide_eq_true_eq];rfl
  by_cases h:a<⟨d,nm⟩
  ·rw[if_pos h,if_pos (e.2 h),List.length_cons,ih]
  rw[if_neg h,if_neg (fun hh=>h (e.1 hh))];rfl
section
variable {w w':World}{c c':Col}{i j bt:Nat}{R:eM}
theorem E9(h:ey w c i bt R)(hi:i≠0)(hF:m8 R)(d id:Int)(nm:List UInt8):
  Calls prog 184 #[.pointer (some ⟨bt,0,none⟩),.int .i64 d,.string (dR nm),.int .i64 id] w (jD w c i bt (R.ins (mu (jt d nm) R.e) (d,nm,id)) (.tuple #[])):=by
 have HT:=zh h
 have al:=zh hF
 obtain⟨r,hr⟩:=zx (R.ins (mu (jt d nm) R.e) (d,nm,id))
 rw[<- hr]
 have am:=zh hr
 obtain⟨-,A,ca,B,cb,E,ce,h1,-,-,⟨M,ac⟩,-,-,hN⟩:=h
 have c0:=a_ h1 (k:=2) rfl
 have W:=zh hN
 have hn:=hF.e
 clear h1 hN hF hr
 obtain⟨l,hl⟩:=zx (R.e)
 rw[<- hl] at c0 M hn W
 obtain⟨n,X⟩:=zx (l.length)
 rw[<- X] at c0 M hn
 have HL:=J2 X hl
 clear X hl
 go_in
 go_upto_block 0 with fail
 go_cut [8] from 9 to 53 (fun s8 wx=>s8=.int .i64 (mu (jt d nm) l:Nat)/\w=wx)
 case first =>
  go_wp2_with fail
  go_loopw [8] (fun i wx=>∃k:Nat,k<=n/\i=.int .i64 (k:Int)/\(∀j (_:j<k) (hj:j<l.length),jt d nm l[j]=true)/\w=wx) (fun i _=>n-(intOf i).toNat)
  case atStart=>exact⟨0,Nat.zero_le _,rfl,fun j h=>absurd h (Nat.not_lt_zero _),rfl⟩
  obtain⟨k,hk,rfl,hb,rfl⟩:=hrel
  have HB:=zh hb
  clear hb
  by_cases hlt:k<n
  ·have ad:k<l.length:=by have:=HL.1;omega
   obtain⟨g,off,rfl,-,x0,x1,-⟩:=Row.rent W.out ad
   obtain⟨y,hy⟩:=zx (l[k])
   rw[<- hy] at x0 x1
   have HY:=zh hy
   clear hy
   have N:jt d nm y=true->∀j (_:j<k+1) (hj:j<l.length),jt d nm l[j]=true:=fun Y j h hj=>(Nat.lt_or_eq_of_le (Nat.le_of_lt_succ h)).elim (fun h=>HB.out j h hj) (fun e=>by subst e;rw[<- HY.out];exact Y)
   have O:jt d nm y=false->mu (jt d nm) l=k:=fun Y=>tW (Nat.le_of_lt ad) (fun j h1 h2=>HB.out j h1 h2) fun _=>by rw[<- HY.out];exact Y
   have HX:=J2 N O
   clear N O
   have ae:=bytesLess_eq y.2.1 nm
   have af:=zh ae
   clear ae
   by_cases h1:y.1<d
   ·have s:Hid (jt d nm y=true):=zh (by simp[jt,h1])
    go_wp2
    go_roundw
    case rel=>exact⟨k+1,zo,by go_num,HX.1 s.out,by first|rfl|trivial⟩
    simp[intOf];omega
   by_cases h2:y.1=d
   ·by_cases h3:y.2.1<nm
    ·have s:Hid (jt d nm y=true):=zh (by simp[jt,h2,h3])
     have hb:Op.bytesLess y.2.1 nm=true:=by rw[af.out];exact decide_eq_true h3
     clear h3
     go_wp2
     go_roundw
     case rel=>exact⟨k+1,zo,by go_num,HX.1 s.out,by first|rfl|trivial⟩
     simp[intOf];omega
    have s:Hid (jt d nm y=false):=zh (by simp[jt,h2,h3])
    have hb:Op.bytesLess y.2.1 nm=false:=by rw[af.out];exact decide_eq_false h3
    clear h3
    go_wp2
    go_meet
    exact⟨by rw[HX.2 s.out],by first|rfl|trivial⟩
   have s:Hid (jt d nm y=false):=zh (by simp[jt,h1,h2])
   have ar:(y.1==d)=false:=beq_eq_false_iff_ne.2 h2
   clear h2
   go_wp2
   go_meet
   exact⟨by rw[HX.2 s.out],by first|rfl|trivial⟩
  obtain rfl:k=n:=by omega
  have s:Hid (mu (jt d nm) l=k):=zh (tW (by have:=HL.1;omega) (fun j h1 h2=>HB.out j h1 h2) fun h=>by have:=HL.1;omega)
  go_wp2
  go_meet
  exact⟨by rw[s.out],by first|rfl|trivial⟩
 obtain⟨rfl,rfl⟩:=hcut
 have v:=yI (jt d nm) l
 obtain⟨k,hk⟩:=zx (mu (jt d nm) l)
 rw[<- hk] at v ⊢
 have HK:=zh hk
 have an:=HL.2
 subst an
 clear c0 W hn M ac hk
 obtain⟨-,A,ca,B,cb,E,ce,h1,M,au,ag,hN,hB,hE⟩:=HT.out
 have hn:=al.e
 have ah:=ag.1
 have ac:=ag.2
 have P:=hE
 have G:=qH (R).e
 obtain⟨vs,Z⟩:=zx (((R).e.map ic).flatten)
 rw[<- Z] at P G
 have r1:=(P.cutTake (k:=k) v).drew
 have r2:=(P.cutO (k:=k) v ah).drew
 obtain⟨n,aa⟩:=zx ((R).e.length)
 rw[<- aa] at ah hn r2 h1 v
 obtain⟨A0,ab⟩:=zx (E)
 rw[<- ab] at r1 r2
 have cx:∀V,New w.drew V->V.cell? ⟨bt,2,none⟩=some (.slice A0 n ce):=fun V P=>by rw[ab];exact P.Qb (a_ (w:=w.drew) h1 (k:=2) rfl) trivial
 have HN:=zh aa
 have HH:=zh h1
 have z:=J3 r1 r2 G
 have HZ:=J2 Z v
 have av:k<=ce:=by omega
 have b2:(k:Int)<=(n:Int):=zo
 clear P hN hE h1 r1 r2 G aa ab Z hB
 go_upto_region 3 with fail
 refine km 24 zk ?_
 have kd:New w w.drew:=(zN w).drew
 have ai:w.drew.heap.size=w.heap.size:=rfl
 have HD:=J2 kd ai
 clear kd ai
 generalize w.drew=o at *
 have f:New o o:=zN _
 refine dO 0 f ?_
 refine dO 2 f ?_
 refine dO 3 f ?_
 refine dO 4 f ?_
 refine dO 5 f ?_
 refine dO 6 f ?_
 refine dO 7 f ?_
 refine dO 9 f ?_
 refine dO 10 f ?_
 refine dO 11 f ?_
 refine dO 12 f ?_
 refine dO 15 f ?_
 refine dO 16 f ?_
 refine dO 17 f ?_
 refine dO 18 f ?_
 refine dO 19 f ?_
 refine dO 20 f ?_
 refine pk 1 13 zk rfl rfl rfl rfl (fun K a=>?_) (fun K a=>?_)
 go_simp
 have p:=b_.new f ((zN o).alloc (.cells #[] 247))
 have C:=mS o f.size 247 (size:=3) Zd
 refine a _ _ p ?_
 clear a K
 try simp only[zy]
 generalize o.alloc (.cells #[] 247)=H at *
 refine pk 8 13 zk rfl rfl rfl rfl (fun K a=>?_) (fun K a=>?_)
 refine fb rfl underlying158 (fY kR) Zd rfl C rfl (Row.new z.1 p) (fun u t=>z.2.2 u (List.mem_of_mem_take t)) (by unfold maxLen;omega) zo p ?_
 intro A8 c8 Q S D k7
 refine a _ _ D ?_
 clear a K
 try simp only[zy]
 rw[Nat.zero_add k] at S
 try rw[Nat.zero_add k]
 refine fH 13 zk rfl rfl (fun K a=>?_)
 go_simp
 have I:=b_.new D ((zN Q).alloc (.cells #[.int .i64 d,.string (dR nm),.int .i64 id] 247))
 have e8:=jI Q [.int .i64 d,.string (dR nm),.int .i64 id] 247 1 3 rfl
 have J:=(zN Q).alloc (.cells #[.int .i64 d,.string (dR nm),.int .i64 id] 247)
 have T:=Own.Qh S J
 refine a _ _ I ?_
 clear a K
 try simp only[zy]
 generalize Q.alloc (.cells #[.int .i64 d,.string (dR nm),.int .i64 id] 247)=w8 at *
 generalize Q.heap.size=gx at *
 clear C p S D k7 J
 rotate_left
 go_simp
 have D:=b_.new p ((zN H).alloc (.cells #[.int .i64 d,.string (dR nm),.int .i64 id] 247))
 have e7:=jI H [.int .i64 d,.string (dR nm),.int .i64 id] 247 1 3 rfl
 have J:=(zN H).alloc (.cells #[.int .i64 d,.string (dR nm),.int .i64 id] 247)
 have S:=Own.Qh C J
 refine a _ _ D ?_
 clear a K
 try simp only[zy]
 generalize H.alloc (.cells #[.int .i64 d,.string (dR nm),.int .i64 id] 247)=Q at *
 have F:H.heap.size≠o.heap.size:=by have:=(eW C o.heap.size rfl).2;omega
 generalize H.heap.size=gx at *
 refine fH 8 zk rfl rfl (fun K a=>?_)
 refine fb rfl underlying158 (fY kR) Zd rfl S rfl (Row.new z.1 D) (fun u t=>z.2.2 u (List.mem_of_mem_take t)) (by unfold maxLen;omega) zo D ?_
 intro A8 c8 w8 T I k8
 have e8:=Row.keep e7 k8 (fun b _ hd e=>F (hd.symm.trans (Option.some.inj e)))
 refine a _ _ I ?_
 clear a K
 try simp only[zy]
 rw[Nat.zero_add k] at T
 try rw[Nat.zero_add k]
 clear C p S D k8 e7 J F
 rotate_left
 go_simp
 have n6:=b_.new f ((zN o).alloc (.cells #[.int .i64 d,.string (dR nm),.int .i64 id] 247))
 have e6:=jI o [.int .i64 d,.string (dR nm),.int .i64 id] 247 1 3 rfl
 have J:=(zN o).alloc (.cells #[.int .i64 d,.string (dR nm),.int .i64 id] 247)
 refine a _ _ n6 ?_
 clear a K
 try simp only[zy]
 have aj:(o.alloc (.cells #[.int .i64 d,.string (dR nm),.int .i64 id] 247)).heap.size=o.heap.size+1:=by simp
 generalize o.alloc (.cells #[.int .i64 d,.string (dR nm),.int .i64 id] 247)=w6 at *
 have ao:=zh aj
 clear aj
 have F:o.heap.size≠w6.heap.size:=by have:=ao.out;omega
 refine fH 1 zk rfl rfl (fun K a=>?_)
 go_simp
 have p:=b_.new n6 ((zN w6).alloc (.cells #[] 247))
 have C:=mS w6 n6.size 247 (size:=3) Zd
 refine a _ _ p ?_
 clear a K
 try simp only[zy]
 have e7:=Row.new e6 ((zN w6).alloc (.cells #[] 247))
 generalize w6.alloc (.cells #[] 247)=H at *
 refine fH 8 zk rfl rfl (fun K a=>?_)
 refine fb rfl underlying158 (fY kR) Zd rfl C rfl (Row.new z.1 p) (fun u t=>z.2.2 u (List.mem_of_mem_take t)) (by unfold maxLen;omega) zo p ?_
 intro A8 c8 w8 T I k8
 have e8:=Row.keep e7 k8 (fun b _ hd e=>F (hd.symm.trans (Option.some.inj e)))
 refine a _ _ I ?_
 clear a K
 try simp only[zy]
 rw[Nat.zero_add k] at T
 try rw[Nat.zero_add k]
 clear C p k8 e7 e6 n6 F J
 all_goals
  refine fH 14 zk rfl rfl (fun K a=>?_)
  refine fb rfl underlying158 (fY kR) Zd rfl T rfl e8 (fun u t=>qH [(d,nm,id)] u (by simpa[ic] using t)) (by unfold maxLen;omega) zo I ?_
  intro A9 c9 w9 L U k9
  refine a _ _ U ?_
  clear a K
  try simp only[zy]
  refine fH 21 zk rfl rfl (fun K a=>?_)
  refine fb rfl underlying158 (fY kR) Zd rfl L rfl (Row.new z.2.1 U) (fun u t=>z.2.2 u (List.mem_of_mem_drop t)) (by unfold maxLen;omega) zo U ?_
  intro aw ax ay ak q ap
  refine a _ _ q ?_
  clear a K
  try simp only[zy]
  refine dO 22 q ?_
  refine dO 23 q ?_
  have x9:=q.Qa (HD.1.Qa HH.out zt) trivial
  have zz:=dP x9 2
  have dd:=a_ x9 (k:=2) rfl
  have HO:=J2 ak q
  clear T L ak I U q k9 ap e8 x9 f cx
  generalize (if ce=k then A0 else Option.map (fun x=>x.add (k*3)) A0)=A2 at *
  generalize hm:k+1+(n-k)=m at *
  have HM:=zh hm
  clear hm
  refine lM zk Zd rfl rfl zk ?_
  go_simp
  have hm:m=(gZ k (d,nm,id) (R).e).length:=by rw[<- HM.out,HN.out,qM (by rw[<- HN.out];omega),Nat.zero_add]
  subst hm
  obtain⟨L,U⟩:=HO.out
  rw[HD.2,HZ.1] at L
  have hfl:=yO ic 3 (fun _=>rfl) (R).e k (d,nm,id)
  rw[show[]++List.take (k*3) ((R).e.map ic).flatten++[.int .i64 d,.string (dR nm),.int .i64 id]++List.drop (k*3) ((R).e.map ic).flatten=_ from hfl] at L
  obtain⟨ks,aq,hT⟩:=HT.setE hi (HD.1.new U) L
  go_wp2_with fail
  go_end0
  rw[am.out,<- HK.out]
  exact⟨rfl,ks,_,aq,hT⟩
end
theorem vl(nm:List UInt8)(w:World)(hn:nm.length<=1099511627776):Calls prog 170 #[.string (dR nm)] w fun e w'=>e=.returned (.bool (ep nm))/\w=w':=by
 have q:(dR nm).size=nm.length:=by show nm.toArray.size=_;rw[List.size_toArray]
 have m:∀k (h:k<nm.length) (h2:k<(dR nm).size),(((dR nm)[k]'h2).toNat:Int)=bv nm[k]:=fun k h h2=>rfl
 have n:=zh m
 clear m
 go_in
 go_wp2_with fail
 go_loopw [2,3] (fun o i p=>∃k:Nat,o=.bool false/\k<=nm.length/\i=.int .i64 (k:Int)/\(nm.take k).all iE=true/\w=p) (fun _ i _=>nm.length-(intOf i).toNat)
 case atStart=>exact⟨0,rfl,Nat.zero_le _,rfl,rfl,rfl⟩
 obtain⟨k,rfl,hk,rfl,d,rfl⟩:=hrel
 have a:=zh d
 clear d
 by_cases hlt:k<nm.length
 ·have f:Hid (iE nm[k]=true->(nm.take (k+1)).all iE=true):=zh fun h=>by
   rw[List.take_succ_eq_append_getElem hlt,List.all_append,a.out];simp[h]
  have g:Hid (iE nm[k]=false->ep nm=false):=zh fun h=>by
   have:nm.all iE=false:=by
    rw[List.all_eq_false]
    exact⟨nm[k],List.getElem_mem _,by simp[h]⟩
   simp[ep,this]
  obtain⟨u,l⟩:=zx (nm[k])
  have r:∀h2:k<(dR nm).size,(((dR nm)[k]'h2).toNat:Int)=bv u:=fun h2=>(n.out k hlt h2).trans (congrArg bv l.symm)
  rw[<- l] at f g
  clear a l n
  have s:0<=bv u/\bv u<=255:=by have:=u.toNat_lt;unfold bv;omega
  have j:Hid (iE u=true↔((97<=bv u/\bv u<=122)\/(48<=bv u/\bv u<=57)\/bv u=46\/bv u=45\/bv u=95)):=zh (by
   unfold iE bv
   simp only[Bool.or_eq_true,Bool.and_eq_true,decide_eq_true_eq]
   omega)
  go_wp2_with fail
  all_goals first
   | (go_ret;exact⟨by rw[g.out (by rw[Bool.eq_false_iff];intro h;have h2:=j.1 h;(try simp only[Bool.not_eq_true',decide_eq_false_iff_not,beq_eq_false_iff_ne] at *);omega)];rfl,rfl⟩)
   | (go_roundw;(case rel=>exact⟨k+1,rfl,zo,by go_num,f.out (j.2 (by (try simp only[Bool.not_eq_false',decide_eq_true_eq,beq_iff_eq] at *);omega)),by first|rfl|trivial⟩);(case measure=>simp[intOf];omega))
 obtain rfl:k=nm.length:=by omega
 rw[List.take_length] at a
 have hA:=a.out
 by_cases h1:nm=[]
 ·have b:Hid (ep nm=false):=zh (by simp[ep,h1])
  have hl:¬((nm.length:Int)≥1):=by rw[h1];decide
  clear h1 hA a
  go_wp2
  go_ret
  exact⟨by rw[b.out];rfl,rfl⟩
 by_cases h2:nm.length<=16
 ·have hl:(nm.length:Int)≥1:=by have:=List.length_pos_iff.2 h1;omega
  by_cases h3:nm=[46]
  ·have b:Hid (ep nm=false):=zh (by simp[ep,h3])
   have e3:(nm==[46])=true:=beq_iff_eq.2 h3
   clear h1 hA a h3
   go_wp2
   go_ret
   exact⟨by rw[b.out];rfl,rfl⟩
  have e3:(nm==[46])=false:=beq_eq_false_iff_ne.2 h3
  by_cases c:nm=[46,46]
  ·have b:Hid (ep nm=false):=zh (by simp[ep,c])
   have e4:(nm==[46,46])=true:=beq_iff_eq.2 c
   clear h1 hA a h3 c
   go_wp2
   go_ret
   exact⟨by rw[b.out];rfl,rfl⟩
  have b:Hid (ep nm=true):=zh (by simp[ep,hA,h1,h2,h3,c])
  have e4:(nm==[46,46])=false:=beq_eq_false_iff_ne.2 c
  clear h1 hA a h3 c
  go_wp2
  go_ret
  exact⟨by rw[b.out];rfl,rfl⟩
 have b:Hid (ep nm=false):=zh (by simp[ep,h2])
 have hl:¬((nm.length:Int)<=16):=zo
 clear h1 hA a
 go_wp2
 go_ret
 exact⟨by rw[b.out];rfl,rfl⟩
theorem Au(D:Nat->Prop)(A:Option Addr)(n c:Nat)(p:eZ)(w:World)(hR:Ps w D A n p)(hn:n<=1099511627776)(hs:∀nm∈p,nm.length<=1099511627776):
  Calls prog 249 #[.slice A n c] w fun e w'=>e=.returned (.int .i64 (el p))/\w=w':=by
 have l:=zh hR.len
 have v:=zh hR
 have x:=zh hs
 obtain⟨r,m⟩:=zx (el p)
 rw[<- m]
 have o:=zh m
 clear hR hs m
 go_in
 go_wp2_with fail
 go_loopw [2,3] (fun y i z=>∃k:Nat,y=.int .i64 0/\k<=n/\i=.int .i64 (k:Int)/\(p.take k).all ep=true/\w=z) (fun _ i _=>n-(intOf i).toNat)
 case atStart=>exact⟨0,rfl,Nat.zero_le _,rfl,rfl,rfl⟩
 obtain⟨k,rfl,hk,rfl,f,rfl⟩:=hrel
 have q:=zh f
 clear f
 by_cases hlt:k<n
 ·have a:k<p.length:=by have:=l.out;omega
  obtain⟨b,off,rfl,C⟩:=Ps.at_ v.out a
  have B:=zh<|vl p[k] w (x.out _ (List.getElem_mem a))
  have s:Hid (ep p[k]=true->(p.take (k+1)).all ep=true):=zh fun h=>by
   rw[List.take_succ_eq_append_getElem a,List.all_append,q.out];simp[h]
  have t:Hid (ep p[k]=false->r=12):=zh fun h=>by
   rw[o.out];unfold el
   rw[if_neg]
   rw[List.all_eq_true]
   exact fun hh=>by have:=hh _ (List.getElem_mem a);rw[h] at this;cases this
  generalize ep p[k]=g at *
  go_wp2_with fail
  refine B.mono ?_
  rintro e E⟨rfl,rfl⟩
  cases g
  ·have d:Hid (r=12):=zh (t.out (by first|rfl|trivial))
   go_wp2
   go_ret
   exact⟨by rw[d.out];rfl,rfl⟩
  go_wp2
  go_roundw
  case rel=>exact⟨k+1,rfl,zo,by go_num,s.out (by first|rfl|trivial),by first|rfl|trivial⟩
  simp[intOf];omega
 obtain rfl:k=n:=by omega
 have d:Hid (r=if 8<k then 3 else 0):=zh (by
  rw[o.out];unfold el
  have:=q.out
  rw[List.take_of_length_le (by have:=l.out;omega)] at this
  rw[if_pos this,l.out])
 by_cases u:8<k
 ·have j:Hid (r=3):=zh (by have:=d.out;rwa[if_pos u] at this)
  have hb:(k:Int)>8:=by omega
  clear d
  go_wp2
  go_ret
  exact⟨by rw[j.out];rfl,rfl⟩
 have j:Hid (r=0):=zh (by have:=d.out;rwa[if_neg u] at this)
 have hb:¬(k:Int)>8:=by omega
 clear d
 go_wp2
 go_ret
 exact⟨by rw[j.out];rfl,rfl⟩
section
variable {w w':World}{c c':Col}{i j bt:Nat}{T:dX}{id:Int}{it:eI}
theorem ui{α β:Type}(f:α->List β)(n:Nat):∀(l:List α),(∀x∈l,(f x).length<=n)->(l.flatMap f).length<=l.length*n
 | [],_=>Nat.zero_le _
 | x::r,h=>by
  rw[List.flatMap_cons,zL,List.length_cons,Nat.succ_mul]
  have:=ui f n r fun y hy=>h y (List.mem_cons_of_mem _ hy)
  have:=h x (List.mem_cons_self ..)
  omega
theorem nL(h:eo T)(hF:eV T):m8 (ec T):=by
 have h1:=h.few
 have h2:=ui (fun p:Int×eI=>p.2.names.map fun x=>((⟨p.1,x.1⟩,x.2):om×Int)) 4096 T fun p a=>by rw[List.length_map];exact tO h hF a
 refine⟨?_,?_,?_⟩
 ·rw[fV.1];omega
 ·rw[fV.2.1];omega
 rw[fV.2.2];unfold gI;omega
theorem vi(h:ey w c i bt (ec T))(hF:m8 (ec T))(hr:ee T)(hg:dN T id=some it):
  Calls prog 175 #[.pointer (some ⟨bt,0,none⟩),.int .i64 id] w fun e w'=>e=.returned (.tuple #[nR id it.n,.bool true])/\New w w':=by
 obtain⟨hl,he⟩:=od hr hg
 have C:=hF.nodes
 rw[fV.1] at C
 have f:=zh<|fun W (I:New w W)=>sG (h.new I) hF id
 rw[oS hr,mA hg] at f
 obtain⟨k,hk⟩:=zx (below id T)
 rw[<- hk] at f hl
 obtain⟨-,A,ca,B,cb,E,ce,h1,⟨Y,Z⟩,-,-,D,-,-⟩:=h
 have F:k<(ec T).nodes.length:=by rw[fV.1];exact hl
 have y:(ec T).nodes[k]=(id,it.n):=by
  have e:(ec T).nodes[k]=(fun p:Int×eI=>(p.1,p.2.n)) (T[k]'hl):=List.getElem_map ..
  rw[e]
  subst hk
  rw[he]
 obtain⟨g,off,rfl,aa,o,q,r,s,t,u⟩:=D.rnode F
 rw[y] at o q r s t u
 have a:=(zN w).alloc (.cells #[.int .i64 0,.int .i64 0,.int .i64 0,.int .i64 0,.int .u64 0,.bool false] 53)
 have x:=heap_alloc_new w (.cells #[.int .i64 0,.int .i64 0,.int .i64 0,.int .i64 0,.int .u64 0,.bool false] 53)
 have J:=a.Qb (a_ h1 (k:=0) rfl) trivial
 rw[fV.1] at J
 replace o:=a.Qb o trivial
 replace q:=a.Qb q trivial
 replace r:=a.Qb r trivial
 replace s:=a.Qb s trivial
 replace t:=a.Qb t trivial
 replace u:=a.Qb u trivial
 have z:=zh<|f.out _ a
 dsimp only at o q r s t u
 unfold nR
 clear f h1 D y hg hk he hF
 go_in
 go_upto_region 1 with fail
 generalize w.alloc (.cells #[.int .i64 0,.int .i64 0,.int .i64 0,.int .i64 0,.int .u64 0,.bool false] 53)=w1 at *
 obtain⟨d,m⟩:=zx (w.heap.size)
 rw[<- m] at x ⊢
 have G:=J2 m a
 clear m a
 obtain⟨z0,K,L,z3,z4,z5⟩:=fz6 x
 obtain⟨M,N,O,P,Q,R⟩:=cs6 x
 go_wp2_with fail
 refine z.mono ?_
 rintro e w2⟨rfl,rfl⟩
 clear z
 have ab:¬((k:Int)<0):=zo
 go_wp2_with fail
 clear M N O P Q R z0 K L z3 z4 z5
 obtain⟨j,H⟩:=six_cells x (.int .i64 id) (.int .i64 it.n.kind) (.int .i64 it.n.links) (.int .i64 it.n.size) (.int .u64 it.n.till) (.bool it.n.shut)
 generalize ac:World.setCell _ _ _=l at *
 have S:l.cell? ⟨d,0,none⟩=some (.int .i64 id):=a_ j rfl
 have U:l.cell? ⟨d,1,none⟩=some (.int .i64 it.n.kind):=a_ j rfl
 have V:l.cell? ⟨d,2,none⟩=some (.int .i64 it.n.links):=a_ j rfl
 have f3:l.cell? ⟨d,3,none⟩=some (.int .i64 it.n.size):=a_ j rfl
 have X:l.cell? ⟨d,4,none⟩=some (.int .u64 it.n.till):=a_ j rfl
 have f5:l.cell? ⟨d,5,none⟩=some (.bool it.n.shut):=a_ j rfl
 try simp only[Exit.inBlock,Exit.then]
 refine Zb (.tuple #[.agg #[.int .i64 id,.int .i64 it.n.kind,.int .i64 it.n.links,.int .i64 it.n.size,.int .u64 it.n.till,.bool it.n.shut],.bool true]) (by simp[results,results175,go_sem,S,U,V,f3,X,f5]) ?_
 exact⟨rfl,G.2.Qd H fun b hb _=>by show b≠d;have:=G.1;omega⟩
theorem Dt(h:ey w c i bt (ec T))(hI:eo T)(hF:m8 (ec T))(hR:Ps w D A n p)(hn:n<=1099511627776)(_hs:∀nm∈p,nm.length<=1099511627776):
  Calls prog 181 #[.pointer (some ⟨bt,0,none⟩),.slice A n cp] w fun e w'=>e=.returned (.tuple #[.int .i64 (fL T 0 p).1,.int .i64 (fL T 0 p).2])/\New w w':=by
 have q:=J2 hI hF
 have V:=zh hR.len
 have HR:=zh hR
 have X:=zh<|fun W (Q:New w W) (id:Int) (a:eI) (hg:dN T id=some a)=>vi (h.new Q) hF hI.rising hg
 have Y:=zh<|fun W (Q:New w W) (d:Int) (nm:List UInt8)=>tu (h.new Q) hF d nm
 obtain⟨-,A0,ca,B,cb,E,ce,h1,-,-,⟨Z,af⟩,-,-,hN⟩:=h
 have aa:=hF.e
 rw[fV.2.2] at h1 Z aa
 have HN:=J2 h1 hN
 clear hI hR hF h1 hN
 obtain⟨r,R⟩:=zx (fL T 0 p)
 rw[<- R]
 have HW:=zh R
 clear R
 go_in
 go_wp2_with fail
 go_loopw [4,5,6,7] (fun s4 s5 s6 i wx=>∃(k:Nat) (id:Int),s4=.int .i64 0/\s5=.int .i64 0/\s6=.int .i64 id/\k<=n/\i=.int .i64 (k:Int)/\(dN T id).isSome=true/\r=fL T id (p.drop k)/\New w wx) (fun _ _ _ i _=>n-(intOf i).toNat)
 case atStart=>exact⟨0,0,rfl,rfl,rfl,Nat.zero_le _,rfl,q.1.zero,HW.out,zN _⟩
 obtain⟨k,id,rfl,rfl,rfl,hk,rfl,I,J,hK⟩:=hrel
 have o:=zh J
 have C:=zh hK
 clear J hK
 obtain⟨a,hg⟩:=Option.isSome_iff_exists.1 I
 by_cases hlt:k<n
 ·have K:k<p.length:=by have:=V.out;omega
  obtain⟨b,off,rfl,u0⟩:=Ps.at_ HR.out K
  have L:p.drop k=p[k]::p.drop (k+1):=List.drop_eq_getElem_cons K
  rw[L] at o
  generalize p[k]=nm at *
  have F:=zh hg
  have u:=zh<|X.out wr C.out id a hg
  unfold nR at u
  have U0:=zh u0
  clear u0 L I hg
  go_wp2_with fail
  refine u.mono ?_
  rintro e S⟨rfl,G⟩
  clear u
  by_cases f:a.n.kind=2
  ·have x:=uj q.1 id nm
   rw[vw F.out f] at x
   have M:iX T id=some a.names:=zu F.out f
   rw[f]
   have t:=J2 x M
   clear x M f
   go_upto_region 6 with fail
   have kA:=(zN S).alloc (.cells #[.int .i64 id,.int .i64 2,.int .i64 a.n.links,.int .i64 a.n.size,.int .u64 a.n.till,.bool a.n.shut] 53)
   have xA:=heap_alloc_new S (.cells #[.int .i64 id,.int .i64 2,.int .i64 a.n.links,.int .i64 a.n.size,.int .u64 a.n.till,.bool a.n.shut] 53)
   generalize World.alloc S _=w2 at *
   have c1:=a_ xA (k:=1) rfl
   have j:=zh<|C.new (G.new kA)
   have u2:=j.Qb U0.out trivial
   have l:=zh<|Y.out w2 j.out id nm
   rw[CC q.1.rising q.1.names] at l
   have ab:=zh<|gH q.1.rising q.1.names
   clear kA xA G
   cases hgn:dN a.names nm with
   | none =>
    have s:Hid (r=(0,20)):=zh (by rw[o.out];exact GE t.2 hgn)
    rw[oT (t.1.trans hgn)] at l
    clear hgn
    go_wp2_with fail
    refine l.mono ?_
    rintro e w3⟨rfl,rfl⟩
    go_wp2
    refine Zb (.tuple #[.int .i64 0,.int .i64 20]) (by simp[results,results181,go_sem]) ?_
    exact⟨by rw[s.out],j.out⟩
   | some H =>
    have s:Hid (r=fL T H (p.drop (k+1))):=zh (by rw[o.out];exact GD t.2 hgn)
    have y:=t.1.trans hgn
    rw[mA y] at l
    obtain⟨z,N⟩:=od ab.out y
    have ac:=zh (q.1.leads id a nm H F.out hgn).2.2
    obtain⟨m,hm⟩:=zx (below (om.mk id nm) (gI T))
    rw[<- hm] at l z
    have O:m<(ec T).e.length:=by rw[fV.2.2];exact z
    have P:(ec T).e[m]=(id,nm,H):=by
     have e:(ec T).e[m]=lI ((gI T)[m]'z):=List.getElem_map ..
     rw[e]
     subst hm
     rw[N];rfl
    obtain⟨g,ae,rfl,-,-,-,U⟩:=Row.rent HN.2 O
    rw[P] at U
    have y3:=j.Qb U trivial
    have c2:=j.Qb (a_ HN.1 (k:=2) rfl) trivial
    have ag:¬((m:Int)<0):=zo
    clear hgn y N P hm O U
    generalize (gI T).length=ne at *
    go_wp2_with fail
    refine l.mono ?_
    rintro e w3⟨rfl,rfl⟩
    go_wp2
    go_roundw
    case rel=>exact⟨k+1,H,rfl,rfl,rfl,zo,by go_num,ac.out,s.out,j.out⟩
    simp[intOf];omega
  have ah:(a.n.kind==2)=false:=beq_eq_false_iff_ne.2 f
  have s:Hid (r=(0,23)):=zh (by
   rw[o.out]
   have hd:iX T id=none:=by simp[iX,F.out,f]
   exact GF hd)
  have ad:=zh G
  clear f G
  go_wp2
  refine Zb (.tuple #[.int .i64 0,.int .i64 23]) (by simp[results,results181,go_sem]) ?_
  exact⟨by rw[s.out],(C.new ad.out).alloc _⟩
 obtain rfl:k=n:=by omega
 have s:Hid (r=(id,0)):=zh (by
  have:=o.out
  rw[List.drop_eq_nil_of_le (by have:=V.out;omega)] at this
  exact this)
 go_wp2
 refine Zb (.tuple #[.int .i64 id,.int .i64 0]) (by simp[results,results181,go_sem]) ?_
 exact⟨by rw[s.out],C.out⟩
end
theorem sF(h:Row w D (some ⟨g,0,none⟩) n size vs){j:Nat}(hj:j<vs.length)(v:Value):Row (w.setCell ⟨g,j,none⟩ v) D (some ⟨g,0,none⟩) n size (vs.set j v):=by
 refine⟨by rw[List.length_set];exact h.1,fun h0=>?_⟩
 obtain⟨b,off,e,hd,hlt,hc⟩:=h.2 h0
 injection e with e
 injection e with e1 e2
 subst e1 e2
 refine⟨g,0,rfl,hd,by simp[World.setCell];exact hlt,fun k u a=>?_⟩
 rw[List.getElem?_set] at a
 by_cases e:j=k
 ·subst e
  rw[if_pos rfl,if_pos hj] at a
  injection a with a
  subst a
  rw[Nat.zero_add]
  exact World.cell?_setCell_same w _ _ (by have:=hc j _ (List.getElem?_eq_getElem hj);rwa[Nat.zero_add] at this)
 rw[if_neg e] at a
 rw[World.cell?_setCell_other _ _ _ _ (by intro h;simp only[Addr.mk.injEq] at h;omega)]
 exact hc k u a
theorem qQ{α:Type}(f:α->List Value)(m:Nat)(hf:∀x,(f x).length=m):∀(l:List α) (k j:Nat) (hk:k<l.length),j<m->∀(y:α) (v:Value),(f l[k]).set j v=f y->(l.map f).flatten.set (k*m+j) v=((l.set k y).map f).flatten
 | [],k,j,hk,_,_,_,_=>absurd hk (Nat.not_lt_zero k)
 | x::r,0,j,_,hj,y,v,he=>by
  rw[List.map_cons,List.flatten_cons,Nat.zero_mul,Nat.zero_add,List.set_append_left _ _ (by rw[hf];exact hj)]
  show(f x).set j v++_=f y++_
  rw[<- he];rfl
 | x::r,k+1,j,hk,hj,y,v,he=>by
  have ih:=qQ f m hf r k j (by simpa using hk) hj y v he
  rw[List.map_cons,List.flatten_cons,List.set_append_right _ _ (by rw[hf,Nat.succ_mul];omega),hf]
  show f x++_=f x++_
  rw[<- ih]
  congr 2
  rw[Nat.succ_mul];omega
theorem ey.nodesAt{W:World}{c:Col}{i bt:Nat}{R:eM}{l:List (Int×i')}{A9:Option Addr}{c9:Nat}(h:ey w c i bt R)(hi:i≠0)(ks:b_ (fun b=>b≠bt) w W)(hb:∀cells,w.heap[bt]?=some (.cells cells 160 (0,0))->W.heap[bt]?=some (.cells (cells.setIfInBounds 0 (.slice A9 l.length c9)) 160 (0,0)))(hr:Row W (fun b=>w.heap.size<=b) A9 l.length 6 (l.map fo).flatten)(h1:l.length<=c9)(h2:c9<=9223372036854775807):
  Ext w c (c.on w.heap.size fun _=>0)/\ey W (c.on w.heap.size fun _=>0) i bt ⟨l,R.data,R.e⟩:=by
 have a:=c.Qg w fun _=>0
 have h0:∀b,b<w.heap.size->c b=0->b≠bt:=fun b _ hb e=>by rw[e,h.1] at hb;exact hi hb
 have hlt:=h.lt
 obtain⟨hc,A,ca,B,g,E,j,g1,m,d,f,n,hB,k⟩:=h
 exact⟨a,(a _ hlt).trans hc,A9,c9,B,g,E,j,hb _ g1,⟨h1,h2⟩,d,f,hr.imp fun b _ hb=>Col.Qf _ _ hb,ra hB ks a h0,lL k ks a h0⟩
section
variable {w w':World}{c c':Col}{i j bt:Nat}{T:dX}{id:Int}{it:eI}
theorem wF(hg:dN T id=some it)(hr:ee T)(hk:k=below id T):∃hl:k<(ec T).nodes.length,(ec T).nodes[k]=(id,it.n):=by
 obtain⟨hl,he⟩:=od hr hg
 subst hk
 refine⟨by rw[fV.1];exact hl,?_⟩
 have e:(ec T).nodes[below id T]'(by rw[fV.1];exact hl)=(fun p:Int×eI=>(p.1,p.2.n)) (T[below id T]'hl):=List.getElem_map ..
 rw[e,he]
theorem rt(h:ey w c i bt (ec T))(hF:m8 (ec T))(hr:ee T)(id:Int):
  Calls prog 196 #[.pointer (some ⟨bt,0,none⟩),.int .i64 id] w fun e w'=>e=.returned (.tuple #[.int .i64 (if ig T id=0 then(below id T:Nat) else 0),.int .i64 (ig T id)])/\w=w':=by
 have a:=zh<|sG h hF id
 rw[oS hr] at a
 obtain⟨-,A,ca,B,t,E,u,h1,b,-,-,j,-,-⟩:=h
 have r:=a_ h1 (k:=0) rfl
 have hn:=hF.nodes
 have m:=b.1
 cases hg:dN T id with
 | none =>
  rw[oT hg] at a
  have hf:ig T id=20:=by unfold ig;rw[hg]
  rw[hf,if_neg Zd]
  clear h1 b j hg hf
  go_in
  go_wp2_with fail
  refine a.mono ?_
  rintro e p⟨rfl,rfl⟩
  go_wp2
  refine Zb (.tuple #[.int .i64 0,.int .i64 20]) (by simp[results,results196,go_sem]) ?_
  exact⟨rfl,rfl⟩
 | some q =>
  rw[mA hg] at a
  obtain⟨k,hk⟩:=zx (below id T)
  obtain⟨l,d⟩:=wF hg hr hk
  rw[<- hk] at a ⊢
  obtain⟨g,off,rfl,-,-,o,-⟩:=j.rnode l
  rw[d] at o
  dsimp only at o
  have s:¬((k:Int)<0):=zo
  obtain⟨n,f⟩:=zx ((ec T).nodes.length)
  rw[<- f] at r l hn m
  by_cases h2:q.n.kind=2
  ·have hf:ig T id=22:=by unfold ig;rw[hg];exact if_pos h2
   rw[hf,if_neg Zd]
   rw[h2] at o
   clear h1 b j hg hf hk d f h2
   go_in
   go_wp2_with fail
   refine a.mono ?_
   rintro e p⟨rfl,rfl⟩
   go_wp2
   refine Zb (.tuple #[.int .i64 0,.int .i64 22]) (by simp[results,results196,go_sem]) ?_
   exact⟨rfl,rfl⟩
  have hf:ig T id=0:=by unfold ig;rw[hg];exact if_neg h2
  rw[hf,if_pos rfl]
  have h3:(q.n.kind==2)=false:=beq_eq_false_iff_ne.2 h2
  clear h1 b j hg hf hk d f h2
  go_in
  go_wp2_with fail
  refine a.mono ?_
  rintro e p⟨rfl,rfl⟩
  go_wp2
  refine Zb (.tuple #[.int .i64 (k:Int),.int .i64 0]) (by simp[results,results196,go_sem]) ?_
  exact⟨rfl,rfl⟩
end
