/-
  PROVED HERE: parts of a law's walk, each under the conditions that its statement names.
-/
import Derived.Maps.Keyed
import Derived.StringKeys
import Derived.Sort.KeysCollected
import Derived.Lib.SlKeysI
import Derived.Shelf.SlIterI.Nil
import Derived.Shelf.SlIter.Nil
import Derived.Shelf.SortM.Plain
import Derived.Shelf.SortM.SortNone
import Derived.Shelf.SlMaps.Clone
import Derived.Shelf.SlMaps.DeleteFunc
import Derived.Test.YtlopmiaimignkaaGreatDoorPkM16
import Derived.Test.YtlopmiaimignkaaGreatDoorPkM22
set_option maxRecDepth 100000
namespace Go.Proofs.YtlopmiaimignkaaGreatDoor
open Go.Proofs.Tryz
open Go.RowKit
variable{b base g i n off p:Nat}{D:Nat->Prop}{w:World}{S nm:List UInt8}{rs:List eA}{r:eA}{A:Option Addr}{t:TypeId}{d:Int}
def fa(q:g9):Nat->Prop:=fun b=>b≠q.bd/\b≠q.bs/\b≠q.bm
def iK(w:World)(q:g9)(S:List UInt8):Prop:=∃wr,fj w (fa q) q S gM.no 0 wr
theorem my{q:g9}(h:b=q.bd\/b=q.bs\/b=q.bm):¬fa q b:=fun hd=>by
 rcases h with rfl|rfl|rfl
 ·exact hd.1 rfl
 ·exact hd.2.1 rfl
 exact hd.2.2 rfl
section
variable {w w':World}{F:Nat->Prop}{q:g9}{S:List UInt8}
theorem iK.keep(h:iK w q S)(hk:b_ F w w')(hq:∀b,b=q.bd\/b=q.bs\/b=q.bm->F b):iK w' q S:=by
 obtain⟨wr,h⟩:=h
 exact⟨wr,((h.swap (F:=fun _=>False) (fun _ _ h=>h)).keep hk hq (fun _ _ h=>h.elim)).swap fun b hb=>my hb⟩
theorem iK.new(h:iK w q S)(hk:New w w'):iK w' q S:=h.keep hk fun _ _=>trivial
theorem iK.of{wr:Int}(h:fj w D q S gM.no 0 wr):iK w q S:=⟨wr,h.swap fun _b hb=>my hb⟩
theorem iK.lt(h:iK w q S):∀b,b=q.bd\/b=q.bs\/b=q.bm->b<w.heap.size:=by obtain⟨wr,h⟩:=h;exact h.lt
theorem iK.beyond(h:iK w q S):∀b,w.heap.size<=b->fa q b:=fun b hb=>by
 have h1:=h.lt q.bd (.inl rfl)
 have h2:=h.lt q.bs (.inr (.inl rfl))
 have h3:=h.lt q.bm (.inr (.inr rfl))
 exact⟨zo,zo,zo⟩
theorem iK.size(h:iK w q S):∃k,S.length=k*128/\64<=k/\k<=4096:=by obtain⟨wr,h⟩:=h;exact h.size
end
def gG(p i:Nat):Nat:=(1+2*p+i*8)*128
def eJ(S:List UInt8)(p i:Nat):List UInt8:=(S.drop (gG p i)).take 1024
theorem vf(S:List UInt8)(i:Nat):nc S gM.no i=(S.drop (i*128)).take 128:=rfl
theorem rO(S:List UInt8)(f j:Nat):(S.drop (f*128)).take (j*128)++nc S gM.no (f+j)=(S.drop (f*128)).take ((j+1)*128):=by
 rw[vf,show(j+1)*128=j*128+128 from by omega,List.take_add,List.drop_drop,show f*128+j*128=(f+j)*128 from by omega]
structure iO where
 s:Nat
 p:Nat
 g:Nat
 sealed:Nat
 next:Int
 head:List UInt8
 waits:List eA
structure jU (w:World) (D:Nat->Prop) (base bl bd:Nat) (v:iO) (A:Option Addr) (c:Nat):Prop where
 cells:∃H hc,w.heap[bl]?=some (.cells #[.pointer (some ⟨bd,0,none⟩),.int .i64 v.s,.int .i64 v.p,.int .i64 v.g,.int .i64 v.sealed,.slice H 32 hc,.int .u64 v.next,.slice A v.waits.length c] 71 (0,0))/\32<=hc/\Bs w (fun b=>D b/\some b≠blk A) H 32 v.head
 waits:gJ 45 gT w base D A v.waits.length c v.waits
 next0:0<=v.next
 next1:v.next<=1099511627776+65536*(v.sealed:Int)
 few:v.waits.length<=100/\v.sealed<=v.g/\v.g<=1000
 out:¬D bl
 apart:blk A≠some bl
section
variable {w w':World}{D F:Nat->Prop}{base bl bd:Nat}{v:iO}{A:Option Addr}{c:Nat}
theorem jU.keep(h:jU w D base bl bd v A c)(hk:b_ F w w')(hl:F bl)(hA:∀k,blk A=some k->F k)(hD:∀b,D b->F b):jU w' D base bl bd v A c:=by
 obtain⟨H,hc,h1,h2,h3⟩:=h.cells
 exact⟨⟨H,hc,(hk.block bl (Zl h1) hl).trans h1,h2,h3.keep hk fun b _ hb=>hD b hb.1⟩,h.waits.keepE hk hA hD,h.next0,h.next1,h.few,h.out,h.apart⟩
theorem jU.new(h:jU w D base bl bd v A c)(hk:New w w'):jU w' D base bl bd v A c:=h.keep hk trivial (fun _ _=>zt) (fun _ _=>zt)
theorem jU.lt(h:jU w D base bl bd v A c):bl<w.heap.size:=by obtain⟨H,hc,h1,_⟩:=h.cells;exact(Zl h1)
theorem jU.rowLt(h:jU w D base bl bd v A c):∀k,blk A=some k->base<=k/\k<w.heap.size:=h.waits.lt
theorem jU.imp(h:jU w D base bl bd v A c)(hF:∀b,b<w.heap.size->D b->F b)(hl:¬F bl):jU w F base bl bd v A c:=by
 obtain⟨H,hc,h1,h2,h3⟩:=h.cells
 obtain⟨a,d,e,f⟩:=h.waits
 exact⟨⟨H,hc,h1,h2,h3.imp fun b hb hd=>⟨hF b hb hd.1,hd.2⟩⟩,⟨a,d,e,fun k hk=>gT.imp (f k hk) fun b hb hd=>⟨hF b hb hd.1,hd.2⟩⟩,h.next0,h.next1,h.few,hl,h.apart⟩
end
section
variable {w:World}{D:Nat->Prop}{base bl bd:Nat}{v:iO}{A:Option Addr}{c:Nat}
theorem qd(h:jU w D base bl bd v A c):Calls prog 8 #[.pointer (some ⟨bl,0,none⟩)] w fun e w'=>e=.returned (.int .u64 (v.next+v.waits.length))/\New w w':=by
 obtain⟨H,hc,hb,_⟩:=h.cells
 have g:w.cell? ⟨bl,6,none⟩=some (.int .u64 v.next):=a_ hb rfl
 have i:w.cell? ⟨bl,7,none⟩=some (.slice A v.waits.length c):=a_ hb rfl
 have h0:=h.next0
 have h1:=h.next1
 obtain⟨hf,b,d⟩:=h.few
 generalize v.next=a at *
 generalize v.waits.length=n at *
 clear h hb
 have hw:IntKind.u64.wrap (n:Int)=(n:Int):=by rw[IntKind.wrap_u64];omega
 have f:IntKind.u64.wrap (a+(n:Int))=a+(n:Int):=by rw[IntKind.wrap_u64];omega
 go_in
 go_upto_region 1 with fail
 go_quiet (fail)
 rename_i nq
 go_wp2
 go_ret
 exact⟨rfl,(zN _).drewN _⟩
theorem ww(h:jU w D base bl bd v A c):Calls prog 42 #[.pointer (some ⟨bl,0,none⟩)] w fun e w'=>e=.returned (.int .i64 v.sealed)/\New w w':=by
 obtain⟨H,hc,hb,_⟩:=h.cells
 have a:w.cell? ⟨bl,4,none⟩=some (.int .i64 v.sealed):=a_ hb rfl
 clear h hb
 go_in
 go_wp2
 go_ret
 exact⟨rfl,zN _⟩
theorem Bx(h:jU w D base bl bd v A c):Calls prog 43 #[.pointer (some ⟨bl,0,none⟩)] w fun e w'=>(∃A' c',e=.returned (.slice A' 32 c')/\fy w' w.heap.size 5 A' 32 c' v.head)/\New w w':=by
 obtain⟨H,hc,hb,_,hB⟩:=h.cells
 have d:w.cell? ⟨bl,5,none⟩=some (.slice H 32 hc):=a_ hb rfl
 have a:=zh<|ik _ H 32 hc v.head w hB Zd
 clear h hb hB
 go_in
 go_wp2_with fail
 refine a.mono ?_
 rintro e w'⟨⟨A',c',rfl,b⟩,hk⟩
 go_wp2
 go_ret
 exact⟨⟨A',c',rfl,b⟩,hk⟩
theorem Az(h:jU w D base bl bd v A c):Calls prog 28 #[.pointer (some ⟨bl,0,none⟩)] w fun e w'=>e=.returned (.int .i64 ((v.g:Int)-(v.sealed:Int)))/\New w w':=by
 obtain⟨H,hc,hb,_⟩:=h.cells
 have d:w.cell? ⟨bl,3,none⟩=some (.int .i64 v.g):=a_ hb rfl
 have f:w.cell? ⟨bl,4,none⟩=some (.int .i64 v.sealed):=a_ hb rfl
 obtain⟨_,a,b⟩:=h.few
 have hw:IntKind.i64.wrap ((v.g:Int)-(v.sealed:Int))=(v.g:Int)-(v.sealed:Int):=IntWalk.i64_in _ zo
 clear h hb
 go_in
 go_upto_region 1 with fail
 go_quiet (fail)
 rename_i nq
 go_wp2
 go_ret
 exact⟨rfl,(zN _).drewN _⟩
theorem Ct(h:jU w D base bl bd v A c)(hd:jj)(P R:Option Addr)(pc rc:Nat){D2 D3:Nat->Prop}(hP:Bs w D2 P hd.prev.length hd.prev)(hpc:hd.prev.length<=pc)(hR:Bs w D3 R hd.root.length hd.root)(hrc:hd.root.length<=rc)(hD2:∀b,D2 b->b≠bl)(hD3:∀b,D3 b->b≠bl)(hf0:hd.first=v.next)(hc0:0<=hd.count)(hc1:hd.count<=65535)(hs:v.sealed<v.g):
  Calls prog 37 #[.pointer (some ⟨bl,0,none⟩),.agg #[.int .i64 hd.index,.int .u64 hd.first,.int .i64 hd.count,.int .i64 hd.bytes,.slice P hd.prev.length pc,.slice R hd.root.length rc]] w fun e w' =>
   e=.returned (.tuple #[])/\b_ (fun j=>j≠bl) w w'/\jU w' (fun b=>D b\/w.heap.size<=b) base bl bd ⟨v.s,v.p,v.g,v.sealed+1,hd.first+hd.count,la hd,v.waits⟩ A c:=by
 have V:=zh h
 obtain⟨H,hc,hb,ac,hB⟩:=h.cells
 have X:=h.next0
 have Y:=h.next1
 obtain⟨_,Z,aa⟩:=h.few
 have ab:=h.lt
 have ad:IntKind.i64.wrap ((v.sealed:Int)+1)=(v.sealed:Int)+1:=IntWalk.i64_in _ zo
 have ae:IntKind.u64.wrap hd.count=hd.count:=by rw[IntKind.wrap_u64];omega
 have af:IntKind.u64.wrap (hd.first+hd.count)=hd.first+hd.count:=by rw[IntKind.wrap_u64];omega
 have x:=fun W (K:b_ (fun j=>j≠bl) w W)=>zh (ER D2 D3 P R _ pc _ rc hd W (hP.keep K fun b _ hb=>hD2 b hb) hpc (hR.keep K fun b _ hb=>hD3 b hb) hrc zo zo)
 obtain⟨n,hn⟩:=zx (v.waits.length)
 rw[<- hn] at hb
 replace hn:=zh hn
 have C:New w (w.alloc (.cells #[.int .i64 hd.index,.int .u64 hd.first,.int .i64 hd.count,.int .i64 hd.bytes,.slice P hd.prev.length pc,.slice R hd.root.length rc] 94)):=(zN w).alloc _
 have L:=heap_alloc_new w (.cells #[.int .i64 hd.index,.int .u64 hd.first,.int .i64 hd.count,.int .i64 hd.bytes,.slice P hd.prev.length pc,.slice R hd.root.length rc] 94)
 have a:=C.Qa hb trivial
 replace hf0:=zh hf0
 have hfl:hd.first<=1099511627776+65536*(v.sealed:Int):=by have:=hf0.out;omega
 have ag:0<=hd.first:=by have:=hf0.out;omega
 clear h hP hR hB hD2 hD3
 go_in
 go_upto_region 1 with fail
 generalize w.alloc (.cells #[.int .i64 hd.index,.int .u64 hd.first,.int .i64 hd.count,.int .i64 hd.bytes,.slice P hd.prev.length pc,.slice R hd.root.length rc] 94)=i at *
 have c4:i.cell? ⟨bl,4,none⟩=some (.int .i64 v.sealed):=a_ a rfl
 have f4:=dP a 4
 go_upto_region 2 with fail
 have y:=dM a 4 (.int .i64 ((v.sealed:Int)+1))
 have f:b_ (fun j=>j≠bl) i (i.setCell ⟨bl,4,none⟩ (.int .i64 ((v.sealed:Int)+1))):=(b_.refl _ i).setCell (p:=⟨bl,4,none⟩) (fun hd=>absurd rfl hd) _
 have z:w.heap.size≠bl:=by omega
 have q:=f.Qa L z
 have f:b_ (fun j=>j≠bl) w _:=(b_.Qe C).trans f
 clear c4 f4 a L C
 generalize i.setCell ⟨bl,4,none⟩ (.int .i64 ((v.sealed:Int)+1))=E at *
 generalize ah:w.heap.size=gb at *
 obtain⟨y0,M,N,y3,y4,y5⟩:=cs6 q
 go_wp2_with fail
 refine(x E f).mono ?_
 rintro e r⟨⟨l,t,rfl,F⟩,u⟩
 clear y0 M N y3 y4 y5 x
 have d:=u.Qa y trivial
 have O:=u.Qa q trivial
 have f5:=dP d 5
 have c5:=a_ d (k:=5) rfl
 go_upto_region 3 with fail
 have m:=dM d 5 (.slice l 32 t)
 have o:b_ (fun j=>j≠bl) r (r.setCell ⟨bl,5,none⟩ (.slice l 32 t)):=(b_.refl _ r).setCell (p:=⟨bl,5,none⟩) (fun hd=>absurd rfl hd) _
 have Q:=o.Qa O z
 have ai:gb<E.heap.size:=(Zl q)
 have G:Bs _ (fun b=>E.heap.size<=b) l 32 (la hd):=(Row.Qc F).keep o (fun b _ hb=>by omega)
 have I:=ew F
 have o:=(f.new u).trans o
 clear f5 c5 d O q y f u F
 generalize r.setCell ⟨bl,5,none⟩ (.slice l 32 t)=J at *
 have M:=a_ Q (k:=1) rfl
 have N:=a_ Q (k:=2) rfl
 have f6:=dP m 6
 have c6:=a_ m (k:=6) rfl
 go_wp2_with fail
 go_end0
 have B:=dM m 6 (.int .u64 (hd.first+hd.count))
 have S:b_ (fun j=>j≠bl) J (J.setCell ⟨bl,6,none⟩ (.int .u64 (hd.first+hd.count))):=(b_.refl _ J).setCell (p:=⟨bl,6,none⟩) (fun hd=>absurd rfl hd) _
 have T:=o.trans S
 have h:=V.out
 have U:=h.rowLt
 refine⟨rfl,T,⟨l,t,?_,I,?_⟩,?_,?_,?_,?_,?_,h.apart⟩
 ·rw[hn.out] at B
  exact B
 ·exact(G.keep S (fun b _ hb=>by omega)).imp fun b _ hb=>⟨.inr zo,fun e=>by have:=(U b e.symm).2;omega⟩
 ·exact(h.waits.keepE T (fun k hk e=>h.apart (by rw[hk,e])) (fun b hb e=>h.out (e▸hb))).imp fun b _ hb=>.inl hb
 ·dsimp only;omega
 ·dsimp only;omega
 ·exact⟨h.few.1,hs,h.few.2.2⟩
 exact fun hd=>hd.elim h.out (fun h=>by omega)
end
theorem vp{q:g9}{k:Nat}(h:iK w q S)(hk:S.length=k*128)(hp:fg k p g=true)(hi:i<g):
  Calls prog 127 #[.pointer (some ⟨q.bd,0,none⟩),.agg #[.int .i64 k,.int .i64 p,.int .i64 g],.int .i64 i] w fun e w'=>(∃A' c',e=.returned (.slice A' 1024 c')/\fy w' w.heap.size 5 A' 1024 c' (eJ S p i))/\New w w':=by
 have B:=wN hp hi
 have a:=fun W=>zh (pC k p g i zo W)
 rw[FB hp hi] at a
 dsimp only at a
 have C:Hid (eJ S p i=(S.drop ((1+2*p+i*8)*128)).take (8*128)):=zh rfl
 generalize eJ S p i=Q at *
 generalize s:1+2*p+i*8=f at *
 clear s hp hi
 obtain⟨R,hd⟩:=h
 have D:=fun W (E:New w W) (j:Nat) (hj:j<8)=>zh (rK (hd.new E) hk (f+j) zo)
 have t:New w (w.alloc (.cells #[.int .i64 k,.int .i64 p,.int .i64 g] 35)):=(zN w).alloc _
 obtain⟨F,G,H⟩:=cs3 (heap_alloc_new w (.cells #[.int .i64 k,.int .i64 p,.int .i64 g] 35))
 clear hd hk
 go_in
 go_wp2_with fail
 refine(a _).mono ?_
 rintro e X⟨rfl,u⟩
 have I:=t.new u
 clear F G H t u a
 go_wp2_with fail
 go_loopw [9,10] (fun o i v=>∃(j m:Nat) (A':Option Addr) (c':Nat),j<=8/\m=j*128/\o=.slice A' m c'/\i=.int .i64 (j:Int)/\fy v w.heap.size 5 A' m c' ((S.drop (f*128)).take (j*128))/\New w v) (fun _ i _=>8-(intOf i).toNat)
 case atStart=>exact⟨0,0,none,0,Nat.zero_le _,rfl,rfl,rfl,Own.nil _ _ _ _,I⟩
 obtain⟨j,m,A',c',T,hm,rfl,rfl,c,x⟩:=hrel
 have l:=zh c
 have d:=zh x
 have n:=zh hm
 clear c x hm
 by_cases hlt:j<8
 ·have U:(j:Int)<8:=by omega
  have J:=D wr d.out j hlt
  have hw:IntKind.i64.wrap ((f:Int)+(j:Int))=(f:Int)+(j:Int):=IntWalk.i64_in _ zo
  have V:IntKind.i64.wrap ((j:Int)+1)=(j:Int)+1:=IntWalk.i64_in _ zo
  go_wp2_with fail
  refine J.mono ?_
  rintro e K⟨⟨L,c2,rfl,y⟩,r⟩
  have c:=eP l.out r (fun _ _=>zt)
  have M:=Row.Qc y
  have hb:m+128<=140737488355328:=by have:=n.out;omega
  have hz:w.heap.size<=K.heap.size:=(d.new r).size
  clear y
  go_wp2_with (at_builtin;refine fK _ rfl _ _ rfl w.heap.size A' m c' _ rfl c _ L 128 c2 _ rfl M hb hz ?_;intro N O Y z A P)
  rw[rO] at z
  go_roundw
  case rel=>exact⟨j+1,m+128,N,O,zo,by have:=n.out;omega,by go_num,by go_num,z,(d.new r).grown A (fun b hb _=>(eW c b hb).1)⟩
  simp[intOf];omega
 obtain rfl:j=8:=by omega
 obtain rfl:m=1024:=n.out
 go_wp2
 go_ret
 rw[C.out]
 exact⟨⟨A',c',rfl,l.out⟩,d.out⟩
def l9(s:xk)(rs:List eA):xk :=
 ⟨s.images++[gh s.heads.length s.next s.prev rs],s.heads++[jh s.heads.length s.next s.prev rs],s.recs++rs,la (jh s.heads.length s.next s.prev rs),s.next+rs.length⟩
def ef(id:List UInt8)(l:List (List eA)):xk:=l.foldl l9 ⟨[],[],[],jA id,1⟩
theorem jN(id:List UInt8)(l:List (List eA))(rs:List eA):ef id (l++[rs])=l9 (ef id l) rs:=by simp[ef,List.foldl_append]
structure gQ (id:List UInt8) (l:List (List eA)):Prop where
 few:l.length<=1000
 fine:∀k (h:k<l.length),j3 k (ef id (l.take k)).next (ef id (l.take k)).prev l[k]
theorem gQ.nil(id:List UInt8):gQ id []:=⟨by simp,fun k h=>absurd h (Nat.not_lt_zero k)⟩
theorem gQ.take{id:List UInt8}{l:List (List eA)}(h:gQ id l)(n:Nat):gQ id (l.take n):=by
 refine⟨by rw[List.length_take];have:=h.few;omega,fun k hk=>?_⟩
 have a:k<l.length/\k<n:=by rw[List.length_take] at hk;omega
 rw[List.take_take,List.getElem_take,Nat.min_eq_left zo]
 exact h.fine k a.1
theorem gQ.snoc{id:List UInt8}{l:List (List eA)}(h:gQ id l)(hf:j3 l.length (ef id l).next (ef id l).prev rs)(hl:l.length<1000):gQ id (l++[rs]):=by
 refine⟨by rw[zL,List.length_singleton];omega,fun k hk=>?_⟩
 rw[zL,List.length_singleton] at hk
 by_cases e:k<l.length
 ·rw[List.take_append_of_le_length zo,List.getElem_append_left e];exact h.fine k e
 obtain rfl:k=l.length:=by omega
 rw[List.take_left',List.getElem_append_right zr]
 ·simpa using hf
 rfl
structure Hx (id:List UInt8) (l:List (List eA)) (s:xk):Prop where
 images:s.images.length=l.length
 heads:s.heads.length=l.length
 sizes:∀b∈s.images,b.length=1024
 prev:s.prev.length=32
 next:s.next=1+(s.recs.length:Int)
 recs:s.recs=l.flatten
 last:s.prev=yS id s.heads
 seqs:∀j (h:j<s.recs.length),s.recs[j].seq=1+(j:Int)
 image:∀k (h:k<l.length),s.images[k]?=some (gh k (ef id (l.take k)).next (ef id (l.take k)).prev l[k])
 head:∀k (h:k<l.length),s.heads[k]?=some (jh k (ef id (l.take k)).next (ef id (l.take k)).prev l[k])
 takes:∀k,k<=l.length->s.heads.take k=(ef id (l.take k)).heads
theorem Fx(id:List UInt8):∀(n:Nat) (l:List (List eA)),l.length=n->gQ id l->Hx id l (ef id l)
 | 0,l,hn,_=>by
  obtain rfl:=List.eq_nil_of_length_eq_zero hn
  exact⟨rfl,rfl,by simp[ef],rH id,rfl,rfl,rfl,fun j h=>absurd h (Nat.not_lt_zero j),fun k h=>absurd h (Nat.not_lt_zero k),fun k h=>absurd h (Nat.not_lt_zero k),fun k hk=>by (have:k=0:=by simpa using hk);subst this;rfl⟩
 | n+1,l,hn,hf=>by
  obtain⟨m,x,rfl⟩:∃m x,l=m++[x]:=⟨l.dropLast,l.getLast (by rintro rfl;simp at hn),(List.dropLast_concat_getLast _).symm⟩
  have hm:m.length=n:=by simpa using hn
  have d:gQ id m:=by have:=hf.take m.length;rwa[List.take_left' rfl] at this
  have h:=Fx id n m hm d
  have a:=hf.fine m.length (by simp)
  rw[List.take_left' rfl,List.getElem_append_right zr] at a
  simp only[Nat.sub_self,List.getElem_cons_zero] at a
  have hi:=h.images
  have hh:=h.heads
  rw[jN]
  refine⟨?_,?_,?_,uL _,?_,?_,?_,?_,?_,?_,?_⟩
  ·simp[l9,hi]
  ·simp[l9,hh]
  ·intro b hb
   rcases List.mem_append.1 hb with hb|hb
   ·exact h.sizes b hb
   rw[List.mem_singleton] at hb
   subst hb
   exact jq _ _ _ _ h.prev a.room
  ·have:=h.next
   simp only[l9,zL]
   omega
  ·simp[l9,h.recs]
  ·simp[l9,yS]
  ·intro j hj
   have key:∀(c:j<((ef id m).recs++x).length),((ef id m).recs++x)[j].seq=1+(j:Int):=fun c=>by
    have f:=c
    rw[zL] at f
    by_cases e:j<(ef id m).recs.length
    ·rw[List.getElem_append_left e];exact h.seqs j e
    rw[List.getElem_append_right zo,a.seqs,h.next]
    omega
   exact key hj
  ·intro k hk
   rw[zL,List.length_singleton] at hk
   by_cases e:k<m.length
   ·rw[List.take_append_of_le_length zo,List.getElem_append_left e]
    show((ef id m).images++_)[k]?=_
    rw[List.getElem?_append_left zo];exact h.image k e
   obtain rfl:k=m.length:=by omega
   rw[List.take_left' rfl,List.getElem_append_right zr]
   show((ef id m).images++_)[m.length]?=_
   rw[List.getElem?_append_right zo,hi,hh]
   simp
  ·intro k hk
   rw[zL,List.length_singleton] at hk
   by_cases e:k<m.length
   ·rw[List.take_append_of_le_length zo,List.getElem_append_left e]
    show((ef id m).heads++_)[k]?=_
    rw[List.getElem?_append_left zo];exact h.head k e
   obtain rfl:k=m.length:=by omega
   rw[List.take_left' rfl,List.getElem_append_right zr]
   show((ef id m).heads++_)[m.length]?=_
   rw[List.getElem?_append_right zo,hh]
   simp
  intro k hk
  rw[zL,List.length_singleton] at hk
  by_cases e:k<=m.length
  ·rw[List.take_append_of_le_length e]
   show((ef id m).heads++_).take k=_
   rw[List.take_append_of_le_length zo];exact h.takes k e
  obtain rfl:k=m.length+1:=by omega
  have e1:(m++[x]).take (m.length+1)=m++[x]:=List.take_of_length_le (by simp)
  rw[e1,jN]
  refine List.take_of_length_le ?_
  show((ef id m).heads++[_]).length<=_
  rw[zL,hh];exact Nat.le_refl _
theorem gQ.ok{id:List UInt8}{l:List (List eA)}(h:gQ id l):Hx id l (ef id l):=Fx id _ l rfl h
theorem gQ.read{id:List UInt8}{l:List (List eA)}(h:gQ id l){k:Nat}(hk:k<l.length):ev ((ef id l).images.getD k [])=((ef id l).heads.getD k fZ,l[k],0):=by
 rw[List.getD_eq_getElem?_getD,List.getD_eq_getElem?_getD,h.ok.image k hk,h.ok.head k hk]
 exact(h.fine k hk).read
theorem gQ.shut{id:List UInt8}{l:List (List eA)}(h:gQ id l){k:Nat}(hk:k<l.length):la ((ef id l).heads.getD k fZ)=(ef id (l.take (k+1))).prev:=by
 have hs:l.take (k+1)=l.take k++[l[k]]:=by rw[List.take_add_one,List.getElem?_eq_getElem hk];rfl
 have ht:(ef id (l.take k)).heads.length=k:=by rw[(h.take k).ok.heads,List.length_take];omega
 rw[hs,jN,List.getD_eq_getElem?_getD,h.ok.head k hk]
 simp[l9,ht]
theorem tU{id:List UInt8}{l:List (List eA)}{k:Nat}(hk:k<l.length):(ef id (l.take (k+1))).next=(ef id (l.take k)).next+l[k].length:=by
 have hs:l.take (k+1)=l.take k++[l[k]]:=by rw[List.take_add_one,List.getElem?_eq_getElem hk];rfl
 rw[hs,jN];rfl
theorem vv(b:List UInt8)(h:b.take 16=List.replicate 16 0):(ev b).2.2≠0:=by
 unfold ev
 split
 ·decide
 rename_i hl
 split
 ·simp
 have hh:(ie b).count=0:=by
  have e:b=List.replicate 16 0++b.drop 16:=by rw[<- h,List.take_append_drop]
  rw[e]
  rfl
 rw[if_pos (.inl hh)]
 simp
structure kL where
 segs:List (List eA)
 waits:List eA
def eX(rs:List eA):Nat:=(dW rs).flatten.length
structure kW (id:List UInt8) (n:Nat) (s:kL):Prop where
 fine:gQ id s.segs
 room:s.segs.length<=n
 few:n<=512
 right:∀r∈s.waits,dZ r=true/\0<=r.seq
 seqs:∀k (h:k<s.waits.length),s.waits[k].seq=(ef id s.segs).next+(k:Int)
 bytes:eX s.waits<=942
 free:s.waits.length≠0->s.segs.length<n
 time:(ef id s.segs).next+(s.waits.length:Int)<=1000000
theorem ri:∀ {rs:List eA},(∀r∈rs,dZ r=true/\0<=r.seq)->15*rs.length<=eX rs
 | [],_=>Nat.zero_le _
 | r::rs,h=>by
  have h1:=(h r (by simp)).1
  have:=ri (rs:=rs) fun x a=>h x (by simp[a])
  unfold eX at *
  rw[kj h1,List.flatten_cons,zL,nM h1,List.length_cons]
  omega
theorem kX(rs:List eA)(h:dZ r=true):eX (rs++[r])=eX rs+eU r:=by
 unfold eX dW
 rw[List.map_append,List.flatten_append,zL]
 simp[h,mI r h]
theorem kW.seg{id:List UInt8}{s:kL}(h:kW id n s)(hw:s.waits.length≠0):j3 s.segs.length (ef id s.segs).next (ef id s.segs).prev s.waits:=by
 have a:=h.fine.ok
 have hn:=a.next
 have ht:=h.time
 have b:=h.room
 have hf:=h.few
 have hm:=ri h.right
 have hb:=h.bytes
 exact⟨zo,zo,zo,zo,a.prev,hw,h.right,hb,zo,h.seqs⟩
def kL.shut(s:kL):kL:=if s.waits.length=0 then s else⟨s.segs++[s.waits],[]⟩
theorem kW.sealed{id:List UInt8}{s:kL}(h:kW id n s):kW id n s.shut:=by
 unfold kL.shut
 split
 ·exact h
 rename_i hw
 have hf:=h.free hw
 have hn:=h.few
 have a:(ef id (s.segs++[s.waits])).next=(ef id s.segs).next+s.waits.length:=by rw[jN];rfl
 have ht:=h.time
 refine⟨h.fine.snoc (h.seg hw) zo,by rw[zL,List.length_singleton];omega,hn,by simp,by simp,by simp[eX,dW],by simp,?_⟩
 dsimp only
 rw[a]
 simpa using ht
def kL.append(n:Nat)(s:kL)(r:eA):Option kL :=
 if n-s.segs.length=0 then none
 else if eX s.waits+eU r<=942 then some ⟨s.segs,s.waits++[r]⟩
 else if n-s.segs.length=1 then none
 else some ⟨s.segs++[s.waits],[r]⟩
theorem kW.appended{id:List UInt8}{s s':kL}(h:kW id n s)(hr:dZ r=true)(hs:r.seq=(ef id s.segs).next+s.waits.length)(ht:r.seq<1000000)(he:s.append n r=some s'):kW id n s':=by
 have c:=h.fine.ok
 have hn:=c.next
 have h0:0<=r.seq:=by omega
 unfold kL.append at he
 split at he
 ·cases he
 rename_i h1
 split at he
 ·rename_i h2
  injection he with he
  subst he
  refine⟨h.fine,h.room,h.few,?_,?_,?_,?_,?_⟩
  ·intro x a
   rcases List.mem_append.1 a with a|a
   ·exact h.right x a
   rw[List.mem_singleton] at a;subst a;exact⟨hr,h0⟩
  ·intro k hk
   rw[zL,List.length_singleton] at hk
   by_cases e:k<s.waits.length
   ·simp only[List.getElem_append_left e];exact h.seqs k e
   obtain rfl:k=s.waits.length:=by omega
   simp[hs]
  ·rw[kX _ hr];exact h2
  ·intro _;dsimp only;omega
  dsimp only;rw[zL,List.length_singleton];omega
 rename_i h2
 split at he
 ·cases he
 rename_i h3
 injection he with he
 subst he
 have b:eU r<=942:=by
  have:=gE r
  rw[hr] at this
  unfold eU
  rw[if_pos hr]
  have:=of_decide_eq_true this.symm
  omega
 have hw:s.waits.length≠0:=by
  intro e
  have:=List.eq_nil_of_length_eq_zero e
  rw[this] at h2
  simp[eX,dW] at h2
  omega
 have hq:=h.sealed
 unfold kL.shut at hq
 rw[if_neg hw] at hq
 have a:(ef id (s.segs++[s.waits])).next=(ef id s.segs).next+s.waits.length:=by rw[jN];rfl
 have hf:=h.few
 refine⟨hq.fine,hq.room,hf,?_,?_,?_,?_,?_⟩
 ·intro x a
  rw[List.mem_singleton] at a;subst a;exact⟨hr,h0⟩
 ·intro k hk
  dsimp only at hk ⊢
  have:k=0:=by simpa using hk
  subst this
  simp[hs,a]
 ·have:=kX [] hr
  rw[List.nil_append] at this
  rw[this]
  simpa[eX,dW] using b
 ·intro _;dsimp only;rw[zL,List.length_singleton];omega
 dsimp only;rw[a];simp;omega
theorem pV{b:List UInt8}(h:off+b.length<=S.length)(x:Nat):(splice S off b)[x]?=if off<=x/\x<off+b.length then b[x-off]? else S[x]?:=by
 unfold splice
 by_cases h1:x<off
 ·rw[List.getElem?_append_left (by rw[List.length_take];omega),List.getElem?_take,if_pos h1,if_neg zo]
 rw[List.getElem?_append_right (by rw[List.length_take];omega),List.length_take,Nat.min_eq_left zo]
 by_cases h2:x<off+b.length
 ·rw[List.getElem?_append_left zo,if_pos zo]
 rw[List.getElem?_append_right zo,List.getElem?_drop,if_neg zo]
 congr 1
 omega
theorem pB{b:List UInt8}(h:off+b.length<=S.length):(splice S off b).length=S.length:=by
 unfold splice
 rw[zL,zL,List.length_take,List.length_drop]
 omega
theorem oJ(S:List UInt8)(p i x:Nat):(eJ S p i)[x]?=if x<1024 then S[gG p i+x]? else none:=by
 unfold eJ
 rw[List.getElem?_take,List.getElem?_drop]
theorem AM{b:List UInt8}(hb:b.length=1024)(h:gG p i+1024<=S.length):eJ (splice S (gG p i) b) p i=b:=by
 apply List.ext_getElem?
 intro x
 rw[oJ]
 by_cases a:x<1024
 ·rw[if_pos a,pV zo,if_pos zo]
  congr 1
  omega
 rw[if_neg a,List.getElem?_eq_none zo]
theorem yj{b:List UInt8}{j:Nat}(hb:b.length=1024)(h:gG p i+1024<=S.length)(hj:j≠i):eJ (splice S (gG p i) b) p j=eJ S p j:=by
 apply List.ext_getElem?
 intro x
 rw[oJ,oJ]
 by_cases a:x<1024
 ·rw[if_pos a,if_pos a,pV zo,if_neg (by unfold gG;omega)]
 rw[if_neg a,if_neg a]
def lx(S:List UInt8)(p g:Nat)(imgs:List (List UInt8)):Prop:=∀i,i<g->eJ S p i=imgs.getD i (List.replicate 1024 0)
theorem lx.write{b:List UInt8}{imgs:List (List UInt8)}(h:lx S p g imgs)(_hn:imgs.length<g)(hb:b.length=1024)(hfit:gG p imgs.length+1024<=S.length):lx (splice S (gG p imgs.length) b) p g (imgs++[b]):=by
 intro i hi
 rw[List.getD_eq_getElem?_getD]
 by_cases e:i=imgs.length
 ·subst e
  rw[AM hb hfit,List.getElem?_append_right zr]
  simp
 rw[yj hb hfit e,h i hi,List.getD_eq_getElem?_getD]
 by_cases h1:i<imgs.length
 ·rw[List.getElem?_append_left h1]
 rw[List.getElem?_eq_none zo,List.getElem?_eq_none (by rw[zL,List.length_singleton];omega)]
def jp(S:List UInt8)(p:Nat):Nat->Nat->Int->List UInt8->List (jj×List eA)
 | 0,_,_,_=>[]
 | n+1,i,next,head =>
  if (ev (eJ S p i)).2.2=0/\(ev (eJ S p i)).1.index=i/\(ev (eJ S p i)).1.first=next/\(ev (eJ S p i)).1.prev=head then
   ((ev (eJ S p i)).1,(ev (eJ S p i)).2.1)::jp S p n (i+1) ((ev (eJ S p i)).1.first+(ev (eJ S p i)).1.count) (la (ev (eJ S p i)).1)
  else[]
theorem vK{id:List UInt8}{l:List (List eA)}(hf:gQ id l){S:List UInt8}{p g:Nat}(hg:l.length<=g)(hl:∀i,i<l.length->eJ S p i=(ef id l).images.getD i [])(hs:l.length<g->(ev (eJ S p l.length)).2.2≠0\/(ev (eJ S p l.length)).1.index≠(l.length:Int)):
  ∀(m i:Nat),i+m=l.length->jp S p (g-i) i (ef id (l.take i)).next (ef id (l.take i)).prev=((ef id l).heads.zip l).drop i
 | 0,i,hi=>by
  have hz:((ef id l).heads.zip l).length=l.length:=by rw[List.length_zip,hf.ok.heads];omega
  rw[List.drop_eq_nil_of_le zo]
  obtain rfl:i=l.length:=by omega
  cases hn:g-l.length with
  | zero=>rfl
  | succ n =>
   have h1:=hs zo
   unfold jp
   rw[if_neg]
   rintro⟨h,j,_⟩
   rcases h1 with h1|h1
   ·exact h1 h
   exact h1 j
 | m+1,i,hi=>by
  have a:i<l.length:=by omega
  have hh:=hf.ok.head i a
  have d:((ef id l).heads.zip l).drop i=((ef id l).heads.getD i fZ,l[i])::((ef id l).heads.zip l).drop (i+1):=by
   have hz:i<((ef id l).heads.zip l).length:=by rw[List.length_zip,hf.ok.heads];omega
   rw[List.drop_eq_getElem_cons hz,List.getElem_zip]
   congr 2
   rw[List.getD_eq_getElem?_getD,List.getElem?_eq_getElem (by rw[hf.ok.heads];omega)]
   rfl
  have ih:=vK hf hg hl hs m (i+1) zo
  have c:g-i=(g-(i+1))+1:=by omega
  rw[d,c]
  unfold jp
  rw[hl i a,hf.read a]
  dsimp only
  have b:(ef id l).heads.getD i fZ=jh i (ef id (l.take i)).next (ef id (l.take i)).prev l[i]:=by rw[List.getD_eq_getElem?_getD,hh];rfl
  have e:=hf.shut a
  have f:=tU (id:=id) a
  rw[e]
  rw[if_pos (by rw[b];exact⟨rfl,rfl,rfl,rfl⟩)]
  have e1:((ef id l).heads.getD i fZ).first+((ef id l).heads.getD i fZ).count=(ef id (l.take (i+1))).next:=by rw[b,f];rfl
  rw[e1,ih]
theorem j3.build{index first:Int}{prev:List UInt8}(h:j3 index first prev rs):pq index first prev rs=(gh index first prev rs,0):=by
 have h1:j0 index first prev.length rs=true:=decide_eq_true ⟨h.i0,h.i1,h.f1,h.prev,h.any,qj (fun r a=>(h.right r a).1) h.room⟩
 have h2:kZ first rs=true:=(lZ _ _).2 h.seqs
 unfold pq
 rw[h1,h2,if_neg (by simp),if_neg (by simp)]
structure gU (w:World) (D:Nat->Prop) (base bl:Nat) (q:g9) (v:iO) (A:Option Addr) (c:Nat) (S:List UInt8):Prop where
 log:jU w D base bl q.bd v A c
 disk:iK w q S
 size:S.length=v.s*128
 plan:fg v.s v.p v.g=true
 apart:fa q bl
 row:∀k,blk A=some k->fa q k
 data:∀b,D b->fa q b
section
variable {w w':World}{D F:Nat->Prop}{base bl:Nat}{q:g9}{v:iO}{A:Option Addr}{c:Nat}{S:List UInt8}
theorem gU.new(h:gU w D base bl q v A c S)(hk:New w w'):gU w' D base bl q v A c S:=⟨h.log.new hk,h.disk.new hk,h.size,h.plan,h.apart,h.row,h.data⟩
theorem gU.keep(h:gU w D base bl q v A c S)(hk:b_ F w w')(hl:F bl)(hA:∀k,blk A=some k->F k)(hD:∀b,D b->F b)(hq:∀b,b=q.bd\/b=q.bs\/b=q.bm->F b):gU w' D base bl q v A c S :=
 ⟨h.log.keep hk hl hA hD,h.disk.keep hk hq,h.size,h.plan,h.apart,h.row,h.data⟩
end
def iO.shut(v:iO):iO:=if v.waits.length=0 then v else⟨v.s,v.p,v.g,v.sealed+1,v.next+(v.waits.length:Int),la (jh v.sealed v.next v.head v.waits),[]⟩
def iO.disk(v:iO)(S:List UInt8):List UInt8:=if v.waits.length=0 then S else splice S (gG v.p v.sealed) (gh v.sealed v.next v.head v.waits)
theorem DR{bl:Nat}{q:g9}{v:iO}{c:Nat}(h:gU w D base bl q v A c S)(hfine:v.waits.length≠0->j3 v.sealed v.next v.head v.waits/\v.sealed<v.g):
  Calls prog 11 #[.pointer (some ⟨bl,0,none⟩)] w fun e w'=>e=.returned (.int .i64 0)/\b_ (fun j=>j≠bl/\fa q j) w w' /\
   ∃A' c',gU w' (fun b=>D b\/w.heap.size<=b) base bl q v.shut A' c' (v.disk S)/\(A'=A\/A'=none):=by
 have l:=zh h
 have ay:=h.log.lt
 obtain⟨H,hc,hb,az,hB⟩:=h.log.cells
 by_cases hz:v.waits.length=0
 ·have c7:w.cell? ⟨bl,7,none⟩=some (.slice A v.waits.length c):=a_ hb rfl
  rw[hz] at c7
  have t:Hid (v.shut=v/\v.disk S=S):=zh ⟨if_pos hz,if_pos hz⟩
  clear h hb hB hfine hz
  go_in
  go_wp2
  go_ret
  refine⟨rfl,b_.refl _ _,A,c,?_,.inl rfl⟩
  rw[t.1,t.2]
  exact⟨l.log.imp (fun b _ hd=>.inl hd) (fun hd=>hd.elim l.log.out (fun h=>by omega)),l.disk,l.size,l.plan,l.apart,l.row,fun b hb=>hb.elim (l.data b) (l.disk.beyond b)⟩
 obtain⟨hf,U⟩:=hfine hz
 have t:Hid (v.shut=⟨v.s,v.p,v.g,v.sealed+1,v.next+(v.waits.length:Int),la (jh v.sealed v.next v.head v.waits),[]⟩/\v.disk S=splice S (gG v.p v.sealed) (gh v.sealed v.next v.head v.waits)):=zh ⟨if_neg hz,if_neg hz⟩
 generalize v.shut=vz at *
 generalize v.disk S=Sz at *
 have J:=fun W (a:New w W)=>Ev (fun b=>D b/\some b≠blk A) (fun b=>base<=b\/D b) (v.sealed:Int) v.next H A hc v.waits.length c v.head v.waits W (by rw[hf.prev];exact hB.new a) (by rw[hf.prev];exact az) (qE.2 (h.log.waits.sl.new a)) (by have:=h.log.few.1;omega) h.log.next0
 rw[hf.build,hf.prev] at J
 have V:=zh J
 have X:=jq v.sealed v.next v.head v.waits hf.prev hf.room
 have af:ev (gh v.sealed v.next v.head v.waits)=(jh v.sealed v.next v.head v.waits,v.waits,0):=hf.read
 have Y:(jh v.sealed v.next v.head v.waits).first=v.next:=rfl
 have C:(jh v.sealed v.next v.head v.waits).count=(v.waits.length:Int):=rfl
 obtain⟨n,hn⟩:=zx (v.waits.length)
 have aM:n<=100:=by rw[hn];exact h.log.few.1
 rw[<- hn] at hb hz J V
 have aN:((n:Int)==0)=false:=by simp;omega
 have y:∀W,b_ (fa q) w W->W.heap[bl]?=some (.cells #[.pointer (some ⟨q.bd,0,none⟩),.int .i64 v.s,.int .i64 v.p,.int .i64 v.g,.int .i64 v.sealed,.slice H 32 hc,.int .u64 v.next,.slice A n c] 71 (0,0)):=fun W a=>(a.block bl ay h.apart).trans hb
 have Z:=fun W a=>a_ (k:=0) (y W a) rfl
 have y1:=fun W a=>a_ (k:=1) (y W a) rfl
 have y2:=fun W a=>a_ (k:=2) (y W a) rfl
 have y3:=fun W a=>a_ (k:=3) (y W a) rfl
 have N:=fun W a=>a_ (k:=4) (y W a) rfl
 have y5:=fun W a=>a_ (k:=5) (y W a) rfl
 have y6:=fun W a=>a_ (k:=6) (y W a) rfl
 have y7:=fun W a=>a_ (k:=7) (y W a) rfl
 have c7:=y7 w (b_.refl _ _)
 have z4:=fun W (a:New w W)=>N W (b_.Qe a)
 have z5:=fun W (a:New w W)=>y5 W (b_.Qe a)
 have z6:=fun W (a:New w W)=>y6 W (b_.Qe a)
 have z7:=fun W (a:New w W)=>y7 W (b_.Qe a)
 have HY:=J6 y Z y1 y2 y3 N
 generalize gh (v.sealed:Int) v.next v.head v.waits=bb at *
 generalize jh v.sealed v.next v.head v.waits=d at *
 rw[<- hn] at C
 have u:=J2 Y C
 clear Y C
 have ar:=zh<|wN h.plan U
 replace hn:=zh hn
 clear h hb hB hfine hz y Z y1 y2 y3 N y5 y6 y7 J hf
 go_in
 go_upto_region 3 with fail
 clear c7
 refine eL zk ?_
 have f:New w w.drew:=(zN w).drew
 replace z4:=fun W (a:New w.drew W)=>z4 W (b_.new f a)
 replace z5:=fun W (a:New w.drew W)=>z5 W (b_.new f a)
 replace z6:=fun W (a:New w.drew W)=>z6 W (b_.new f a)
 replace z7:=fun W (a:New w.drew W)=>z7 W (b_.new f a)
 refine cL 0 ?_
 refine cL 1 ?_
 refine cL 2 ?_
 refine cL 3 ?_
 refine cL 4 ?_
 refine cL 5 ?_
 refine cL 6 ?_
 refine cL 7 ?_
 refine cL 8 ?_
 refine cL 9 ?_
 refine cL 10 ?_
 refine cL 11 ?_
 refine cL 12 ?_
 refine cL 13 ?_
 refine cL 14 ?_
 refine cL 15 ?_
 refine d_ (i:=16) zk rfl rfl (fun K hK=>?_)
 go_simp
 refine(V.out _ f).mono ?_
 rintro e m⟨⟨A2,c2,rfl,F⟩,G⟩;dsimp only at F ⊢;rw[X] at F ⊢
 go_wp2_with fail
 refine hK _ _ G ?_
 clear hK K
 try simp only[zy]
 replace f:=b_.new f G
 replace z4:=fun W (a:New m W)=>z4 W (b_.new G a)
 replace z5:=fun W (a:New m W)=>z5 W (b_.new G a)
 replace z6:=fun W (a:New m W)=>z6 W (b_.new G a)
 replace z7:=fun W (a:New m W)=>z7 W (b_.new G a)
 refine cL 17 ?_
 refine cL 18 ?_
 refine cL 19 ?_
 refine cL 20 ?_
 refine cL 21 ?_
 refine wpAnyH_done zk ?_ _
 clear z4 z5 z6 z7
 have r:New w m:=f
 have au:=F.form Zd
 obtain⟨O,aO,ag,aA,av⟩:=au
 have aB:A2=some ⟨O,0,none⟩:=by injection ag
 clear ag
 subst aB
 have aa:Bs m (fun b=>w.heap.size<=b) (some ⟨O,0,none⟩) 1024 bb:=Row.Qc F
 have L:1024<=c2/\c2<=9223372036854775807:=⟨ew F,eh F⟩
 have M:Hid (∀j,w.heap.size<=j->j≠q.bd/\j≠q.bs/\j≠q.bm):=zh fun j hj=>l.disk.beyond j hj
 have ah:Hid (Calls prog 35 #[.pointer (some ⟨q.bd,0,none⟩),.agg #[.int .i64 v.s,.int .i64 v.p,.int .i64 v.g],.int .i64 v.sealed,.slice (some ⟨O,0,none⟩) 1024 c2] m.drew fun e w'=>e=.returned (.tuple #[])/\b_ (fa q) m.drew w'/\iK w' q (splice S (gG v.p v.sealed) bb)):=zh (by
  obtain⟨aP,hd⟩:=l.disk.new r.drew
  refine(Hb hd l.size (fun b hb=>M.out b (Nat.le_trans r.size hb)) l.plan U ⟨O,0,none⟩ c2 bb aa.drew L.1 L.2 M.out).mono ?_
  rintro e w'⟨he,hk,aQ,aC⟩
  exact⟨he,hk,iK.of aC⟩)
 obtain⟨-,Z,y1,y2,y3,N⟩:=HY.out
 have r0:=fun W (a:b_ (fa q) m.drew W)=>Z W ((b_.Qe r).drew.trans a)
 have r1:=fun W (a:b_ (fa q) m.drew W)=>y1 W ((b_.Qe r).drew.trans a)
 have r2:=fun W (a:b_ (fa q) m.drew W)=>y2 W ((b_.Qe r).drew.trans a)
 have r3:=fun W (a:b_ (fa q) m.drew W)=>y3 W ((b_.Qe r).drew.trans a)
 have r4:=fun W (a:b_ (fa q) m.drew W)=>N W ((b_.Qe r).drew.trans a)
 have ai:=zh aa
 clear G F aA av Z y1 y2 y3 N f V aa
 go_upto_region 6 with fail
 refine eu (b_ (fa q) m.drew) zk ?_
 have f:b_ (fa q) m.drew m.drew:=b_.refl _ _
 refine c_ 0 f ?_
 refine c_ 1 f ?_
 refine c_ 2 f ?_
 refine c_ 3 f ?_
 refine c_ 4 f ?_
 refine c_ 5 f ?_
 refine c_ 6 f ?_
 refine c_ 7 f ?_
 refine c_ 8 f ?_
 refine c_ 9 f ?_
 refine c_ 10 f ?_
 refine c_ 11 f ?_
 refine c_ 12 f ?_
 refine dQ (i:=13) zk rfl rfl (fun K hK=>?_)
 (go_simp;refine ah.mono ?_)
 (rintro e w3 ⟨rfl,k3,aj⟩;go_wp2_with fail)
 have n1:=k3
 refine hK _ _ n1 ?_
 clear hK K
 try simp only[zy]
 replace f:=n1
 clear n1
 refine wpAnyH_done zk ?_ _
 have K3:b_ (fa q) w w3:=(b_.Qe r).drew.trans f
 have ak:Bs w3 (fun b=>w.heap.size<=b) (some ⟨O,0,none⟩) 1024 bb:=Row.keep (E:=fa q) (Row.drew ai.out) f (fun b _ hb=>M.out b hb)
 have x:=tB (fun b=>w.heap.size<=b) (some ⟨O,0,none⟩) 1024 c2 bb w3 ak L.1 L.2
 rw[af] at x
 replace x:=zh x
 have aD:=zh aj
 have ab:=zh K3
 clear r0 r1 r2 r3 r4 f aj K3 ak ah ai r
 go_wp2_with fail
 refine x.mono ?_
 rintro e w4⟨⟨P,Q,R,T,A3,c3,rfl,ac,ad,z,B,-⟩,k4⟩
 dsimp only at ac ad z B ⊢
 clear x af
 have al:=heap_alloc_new w4 (.cells #[.int .i64 d.index,.int .u64 d.first,.int .i64 d.count,.int .i64 d.bytes,.slice P d.prev.length Q,.slice R d.root.length T] 94)
 have I:=k4.alloc (.cells #[.int .i64 d.index,.int .u64 d.first,.int .i64 d.count,.int .i64 d.bytes,.slice P d.prev.length Q,.slice R d.root.length T] 94)
 have z:=z.alloc (.cells #[.int .i64 d.index,.int .u64 d.first,.int .i64 d.count,.int .i64 d.bytes,.slice P d.prev.length Q,.slice R d.root.length T] 94)
 have B:=B.alloc (.cells #[.int .i64 d.index,.int .u64 d.first,.int .i64 d.count,.int .i64 d.bytes,.slice P d.prev.length Q,.slice R d.root.length T] 94)
 go_upto_region 8 with fail
 generalize w4.alloc (.cells #[.int .i64 d.index,.int .u64 d.first,.int .i64 d.count,.int .i64 d.bytes,.slice P d.prev.length Q,.slice R d.root.length T] 94)=w5 at *
 generalize w4.heap.size=g5 at *
 have aE:=ab.size
 have am:jU w5 D base bl q.bd v A c:=l.log.keep (ab.new I) l.apart l.row l.data
 have an:=zh<|Ct am d P R Q T z ac B ad (fun b hb=>by omega) (fun b hb=>by omega) u.1 (by have:=u.2;omega) (by have:=u.2;omega) U
 have aF:w.heap.size<=w5.heap.size:=Nat.le_trans aE I.size
 obtain⟨x0,x1,x2,x3,x4,x5⟩:=cs6 al
 clear z B am ac ad k4
 go_wp2_with fail
 clear x0 x1 x2 x3 x4 x5 al
 refine an.mono ?_
 rintro e w6⟨rfl,k6,o⟩
 obtain⟨H6,aG,ae,aw,ao⟩:=o.cells
 have aH:=zh o
 have aI:=zh ao
 have c7:=a_ ae (k:=7) rfl
 have f7:=dP ae 7
 have aJ:=J2 I k6
 clear an o ao I k6
 go_wp2
 go_ret
 have ap:=dM ae 7 (.slice none 0 0)
 have q7:b_ (fun j=>j≠bl) w6 (w6.setCell ⟨bl,7,none⟩ (.slice none 0 0)):=(b_.refl _ w6).setCell (p:=⟨bl,7,none⟩) (fun hd=>absurd rfl hd) _
 have h:=l.out
 obtain⟨I,k6⟩:=aJ.out
 have o:=aH.out
 have aq:∀b,b=q.bd\/b=q.bs\/b=q.bm->b≠bl:=fun b hb e=>my hb (e▸h.apart)
 have aK:=((aD.new I).keep k6 aq).keep q7 aq
 have aL:=(((ab.new I).imp (E:=fun j=>j≠bl/\fa q j) fun _ _ hj=>hj.2).Qd k6 fun _ _ hj=>hj.1).Qd q7 fun _ _ hj=>hj.1
 refine⟨rfl,aL,none,0,?_,.inr rfl⟩
 rw[t.1,t.2]
 have ax:d.first+d.count=v.next+(v.waits.length:Int):=by rw[u.1,u.2,hn.out]
 refine⟨⟨⟨H6,aG,?_,aw,?_⟩,gJ.nil _ _ _ _ _,?_,?_,⟨Nat.zero_le _,o.few.2⟩,fun hd=>hd.elim h.log.out (fun h=>by omega),by simp[blk]⟩,aK,?_,h.plan,h.apart,fun k hk=>(by cases hk),fun b hb=>hb.elim (h.data b) (fun hb=>M.out b hb)⟩
 ·rw[ax] at ap
  exact ap
 ·exact(aI.keep q7 (fun b _ hb e=>o.out (e▸hb.1))).imp fun b _ hb=>⟨hb.1.imp id (fun h=>Nat.le_trans aF h),by simp[blk]⟩
 ·have:=o.next0
  dsimp only at this ⊢
  omega
 ·have:=o.next1
  dsimp only at this ⊢
  omega
 rw[pB (by rw[X,h.size];have:=ar.1;unfold gG;omega),h.size]
theorem uW(D:Nat->Prop)(A:Option Addr)(n c:Nat)(rs:List eA)(w:World)(hH:Sl gT w D A n rs)(hn:n<=1000000):
  Calls prog 27 #[.slice A n c] w fun e w'=>(∃A' c',e=.returned (.slice A' n c')/\gJ 45 gT w' w.heap.size (fun b=>b<w.heap.size) A' n c' rs)/\New w w':=by
 have hq:=fun w'=>Lib.run_eql_slice_nil (P:=prog) w' 68 45 A n c 0 0 underlying68
 rcases A with _|s
 ·have h0:n=0:=by
   rcases Nat.eq_zero_or_pos n with h|h
   ·exact h
   obtain⟨C,h1,_⟩:=hH
   obtain⟨_,_,e,_⟩:=h1.2 h
   cases e
  subst h0
  obtain rfl:rs=[]:=List.eq_nil_of_length_eq_zero hH.len
  go_in
  go_wp2
  go_ret
  exact⟨⟨none,0,rfl,gJ.nil _ _ _ _ _⟩,zN _⟩
 obtain⟨f,h1,h2,h3⟩:=hH
 have a:New w (w.alloc (.cells #[] 45)):=(zN w).alloc _
 have t:=h1.new a
 have h0:gJ 45 gT (w.alloc (.cells #[] 45)) w.heap.size (fun b=>b<w.heap.size) (some ⟨w.heap.size,0,none⟩) 0 0 []:=⟨[],World.ownsRow_made w #[] 0 zr Zd rfl,rfl,fun k hk=>absurd hk (by simp)⟩
 have hy:∀k (h:k<rs.length),gT.At (w.alloc (.cells #[] 45)) (fun b=>b<w.heap.size/\some b≠blk (some (Addr.mk w.heap.size 0 none))) f (k*gT.size) rs[k]:=fun k hk=>gT.keep (gT.imp (h3 k hk) (E:=fun b=>b<w.heap.size/\some b≠blk (some (Addr.mk w.heap.size 0 none))) fun b hb _=>⟨hb,fun e=>by (have e1:b=w.heap.size:=by injection e);omega⟩) a (fun _ _ _=>zt)
 have g:0+n<=9223372036854775807:=by omega
 have d:(0+n)*40<=140737488355328:=by omega
 have i:w.heap.size<=(w.alloc (.cells #[] 45)).heap.size:=a.size
 obtain⟨u,l,m,o,p⟩:=info_parts jO
 clear h1 h3
 go_in
 go_wp2_with (at_builtin;refine xd (E:=gT) _ rfl _ _ 68 45 rfl u (.agg #[.int .i64 0,.int .u64 0,.slice none 0 0]) 40 underlying68 l m o p rfl w.heap.size (fun b=>b<w.heap.size) (some ⟨w.heap.size,0,none⟩) 0 0 [] rfl h0 _ (some s) n c f rs rfl t h2 hy g d i ?_;intro v x y q r z)
 rw[Nat.zero_add,List.nil_append] at q
 have B:New w y:=a.grown r (fun j hj _=>(h0.lt j hj).1)
 go_ret
 exact⟨⟨v,x,rfl,q⟩,B⟩
theorem Bn:(prog.info? 68).map (fun i=>(i.zero,i.size,i.bytes))=some (some (.slice none 0 0),1,24):=zk
theorem New.of_eq{w':World}(h:w=w'):New w w':=h▸zN w
def jg:Int->List UInt8->List (jj×List eA)->Int×List UInt8
 | nx,hd,[]=>(nx,hd)
 | _,_,x::r=>jg (x.1.first+x.1.count) (la x.1) r
theorem mY:∀(nx:Int) (hd:List UInt8) (l:List (jj×List eA)) (x:jj×List eA),jg nx hd (l++[x])=(x.1.first+x.1.count,la x.1)
 | _,_,[],_=>rfl
 | _,_,_y::l,x=>mY _ _ l x
theorem six_cells{c0 c1 c2 c3 c4 c5:Value}(h:w.heap[g]?=some (.cells #[c0,c1,c2,c3,c4,c5] t (0,0)))(x0 x1 x2 x3 x4 x5:Value):
  ((((((w.setCell ⟨g,0,none⟩ x0).setCell ⟨g,1,none⟩ x1).setCell ⟨g,2,none⟩ x2).setCell ⟨g,3,none⟩ x3).setCell ⟨g,4,none⟩ x4).setCell ⟨g,5,none⟩ x5).heap[g]?=some (.cells #[x0,x1,x2,x3,x4,x5] t (0,0)) /\
  b_ (fun b=>b≠g) w ((((((w.setCell ⟨g,0,none⟩ x0).setCell ⟨g,1,none⟩ x1).setCell ⟨g,2,none⟩ x2).setCell ⟨g,3,none⟩ x3).setCell ⟨g,4,none⟩ x4).setCell ⟨g,5,none⟩ x5):=by
 have a:∀(W:World) (k:Nat) (u:Value),b_ (fun b=>b≠g) w W->b_ (fun b=>b≠g) w (W.setCell ⟨g,k,none⟩ u):=fun W k u c=>c.setCell (p:=⟨g,k,none⟩) (fun hd=>absurd rfl hd) u
 exact⟨dM (dM (dM (dM (dM (dM h 0 x0) 1 x1) 2 x2) 3 x3) 4 x4) 5 x5,a _ _ _ (a _ _ _ (a _ _ _ (a _ _ _ (a _ _ _ (a _ _ _ (b_.refl _ w))))))⟩
theorem mK{t':TypeId}{size c:Nat}{xs:List Value}(h:Own w base t size A n c xs){cs:Array Value}{fr:Nat×Nat}(hg:w.heap[g]?=some (.cells cs t' fr))(ht:t≠t'):blk A≠some g:=by
 intro e
 rcases h.2 with⟨b,_⟩|⟨d,f,i,b,_,a,_⟩
 ·injection b with hA;subst hA;cases e
 injection b with hA;subst hA
 have:d=g:=by injection e
 subst this
 rw[hg] at a
 injection a with a
 injection a with _ h2
 exact ht h2.symm
def qF(fr:Nat)(next:Int):Int:=if fr=0 then 1 else next
def qG(fr:Nat)(id hb:List UInt8):List UInt8:=if fr=0 then jA id else hb
def xh(w:World)(q:g9)(S:List UInt8)(s p g fr:Nat)(nx:Int)(hd:List UInt8)(e:Ending)(w':World):Prop:=New w w'/\∃bl Ao co fd,fd=jp S p (g-fr) fr nx hd /\
 e=.returned (.tuple #[.pointer (some ⟨bl,0,none⟩),.slice Ao fd.length co,.int .i64 0])/\w.heap.size<=bl /\
 gU w' (fun b=>w.heap.size<=b/\b≠bl) w.heap.size bl q ⟨s,p,g,fr+fd.length,(jg nx hd fd).1,(jg nx hd fd).2,[]⟩ none 0 S /\
 gJ 68 (vd gT) w' w.heap.size (fun b=>w.heap.size<=b/\b≠bl) Ao fd.length co (fd.map Prod.snd)
theorem Bv(bs:List UInt8):0<=(ev bs).1.count/\(ev bs).1.count<=65535:=by
 have hf:0<=(ie bs).count/\(ie bs).count<=65535:=by
  have h:=lG (((RdS.mk bs 0).num 2).2.num 8).2 2
  refine⟨Int.natCast_nonneg _,?_⟩
  unfold ie
  dsimp only
  omega
 have h0:(0:Int)<=fZ.count/\fZ.count<=65535:=by decide
 unfold ev
 split
 ·exact h0
 split
 ·exact h0
 split
 ·exact h0
 split
 ·exact h0
 split
 ·exact h0
 split
 ·exact h0
 exact hf
section
variable {id:List UInt8}{l:List (List eA)}
theorem ED(hf:gQ id l)(hil:i<l.length):((ef id l).heads.zip l).drop i=((ef id l).heads.getD i fZ,l[i])::((ef id l).heads.zip l).drop (i+1):=by
 have hz:i<((ef id l).heads.zip l).length:=by rw[List.length_zip,hf.ok.heads];omega
 rw[List.drop_eq_getElem_cons hz,List.getElem_zip]
 congr 2
 rw[List.getD_eq_getElem?_getD,List.getElem?_eq_getElem (by rw[hf.ok.heads];omega)]
 rfl
theorem Hc(hf:gQ id l)(hil:i<l.length):(ef id l).heads.getD i fZ=jh i (ef id (l.take i)).next (ef id (l.take i)).prev l[i]:=by
 rw[List.getD_eq_getElem?_getD,hf.ok.head i hil];rfl
theorem D8(hf:gQ id l)(hil:i<l.length):((ef id l).heads.getD i fZ).first+((ef id l).heads.getD i fZ).count=(ef id (l.take (i+1))).next:=by
 rw[Hc hf hil,tU hil];rfl
theorem vL(hf:gQ id l):∀(m i:Nat),i+m=l.length->jg (ef id (l.take i)).next (ef id (l.take i)).prev (((ef id l).heads.zip l).drop i)=((ef id l).next,(ef id l).prev)
 | 0,i,hi=>by
  have hz:((ef id l).heads.zip l).length=l.length:=by rw[List.length_zip,hf.ok.heads];omega
  rw[List.drop_eq_nil_of_le zo,List.take_of_length_le zo]
  rfl
 | m+1,i,hi=>by
  have a:i<l.length:=by omega
  have ih:=vL hf m (i+1) zo
  rw[ED hf a]
  unfold jg
  dsimp only
  rw[D8 hf a,hf.shut a]
  exact ih
end
class Ord2 (κ:Type) extends LT κ where
 dec:(a b:κ)->Decidable (a<b)
 deq:DecidableEq κ
 irr:∀a:κ,¬a<a
 tra:∀ {a b c:κ},a<b->b<c->a<c
 tri:∀a b:κ,a<b\/a=b\/b<a
instance {κ:Type} [Ord2 κ] (a b:κ):Decidable (a<b):=Ord2.dec a b
instance (priority:=low) {κ:Type} [Ord2 κ]:DecidableEq κ:=Ord2.deq
instance:Ord2 Int where
 dec:=fun a b=>inferInstance
 deq:=inferInstance
 irr:=Int.lt_irrefl
 tra:=Int.lt_trans
 tri:=fun a b=>by omega
instance:Ord2 (List UInt8) where
 dec:=fun a b=>inferInstance
 deq:=inferInstance
 irr:=List.lt_irrefl
 tra:=List.lt_trans
 tri:=fun a b=>by
  by_cases h1:a<b
  ·exact .inl h1
  by_cases h2:b<a
  ·exact .inr (.inr h2)
  exact .inr (.inl (List.le_antisymm (List.not_lt.1 h2) (List.not_lt.1 h1)))
def ee{κ α:Type}[Ord2 κ](l:List (κ×α)):Prop:=l.Pairwise fun x y=>x.1<y.1
def dN{κ α:Type}[Ord2 κ](l:List (κ×α))(k:κ):Option α:=match l with
 | []=>none
 | (a,x)::r=>if a=k then some x else dN r k
def eN{κ α:Type}[Ord2 κ](k:κ)(v:α):List (κ×α)->List (κ×α)
 | []=>[(k,v)]
 | (a,x)::r=>if k<a then(k,v)::(a,x)::r else if a=k then(k,v)::r else(a,x)::eN k v r
def jv{κ α:Type}[Ord2 κ](k:κ)(l:List (κ×α)):List (κ×α):=l.filter fun p=>decide (p.1≠k)
section
variable {κ α:Type} [Ord2 κ] {l:List (κ×α)}{k j:κ}{v:α}
theorem dS:dN (eN k v l) j=if j=k then some v else dN l j:=by
 induction l with
 | nil=>simp only[eN,dN];by_cases h:k=j <;> simp[h,eq_comm]
 | cons p r ih =>
  obtain⟨a,x⟩:=p
  unfold eN
  split
  ·by_cases h:k=j
   ·subst h;simp[dN]
   rw[if_neg (fun e=>h e.symm)];simp[dN,h]
  split
  ·rename_i h;subst h
   by_cases h:a=j
   ·subst h;simp[dN]
   rw[if_neg (fun e=>h e.symm)];simp[dN,h]
  rename_i h1 h2
  simp only[dN,ih]
  by_cases h:a=j
  ·subst h;rw[if_pos rfl,if_neg h2,if_pos rfl]
  rw[if_neg h,if_neg h]
theorem gi:dN (jv k l) j=if j=k then none else dN l j:=by
 induction l with
 | nil=>simp[jv,dN]
 | cons p r ih =>
  obtain⟨a,x⟩:=p
  unfold jv at ih ⊢
  rw[List.filter_cons]
  by_cases h:a=k
  ·subst h
   simp only[ne_eq,not_true_eq_false,decide_false,Bool.false_eq_true,if_false]
   rw[ih]
   by_cases h2:j=a
   ·rw[if_pos h2,if_pos h2]
   rw[if_neg h2,if_neg h2];show _=if a=j then some x else dN r j;rw[if_neg (fun e=>h2 e.symm)]
  have:decide (a≠k)=true:=by simp[h]
  simp only[this,if_true]
  simp only[dN,ih]
  by_cases h2:a=j
  ·subst h2;rw[if_pos rfl,if_neg h,if_pos rfl]
  rw[if_neg h2,if_neg h2]
theorem Fo{p:κ×α}(h:p∈eN k v l):p=(k,v)\/p∈l:=by
 induction l with
 | nil=>simpa[eN] using h
 | cons q r ih =>
  obtain⟨a,x⟩:=q
  unfold eN at h
  split at h
  ·simpa using h
  split at h
  ·rcases List.mem_cons.1 h with h|h
   ·exact .inl h
   exact .inr (List.mem_cons_of_mem _ h)
  rcases List.mem_cons.1 h with h|h
  ·exact .inr (by rw[h];exact List.mem_cons_self ..)
  exact(ih h).imp id (List.mem_cons_of_mem _)
theorem ee.put(h:ee l):ee (eN k v l):=by
 induction l with
 | nil=>simp[eN,ee]
 | cons q r ih =>
  obtain⟨a,x⟩:=q
  have h1:=List.pairwise_cons.1 h
  unfold eN
  split
  ·rename_i hk
   refine List.pairwise_cons.2 ⟨fun p b=>?_,h⟩
   rcases List.mem_cons.1 b with rfl|b
   ·exact hk
   exact Ord2.tra hk (h1.1 p b)
  split
  ·rename_i hk;subst hk
   exact List.pairwise_cons.2 ⟨h1.1,h1.2⟩
  rename_i h2 h3
  refine List.pairwise_cons.2 ⟨fun p b=>?_,ih h1.2⟩
  rcases Fo b with rfl|b
  ·exact((Ord2.tri a k).resolve_right (fun q=>q.elim h3 h2))
  exact h1.1 p b
theorem ee.del(h:ee l):ee (jv k l):=List.Pairwise.filter _ h
theorem fC{x:α}(h:dN l k=some x):(k,x)∈l:=by
 induction l with
 | nil=>cases h
 | cons q r ih =>
  obtain⟨a,y⟩:=q
  unfold dN at h
  split at h
  ·rename_i e;subst e;injection h with h;subst h;exact List.mem_cons_self ..
  exact List.mem_cons_of_mem _ (ih h)
theorem ee.get(h:ee l){x:α}(hm:(k,x)∈l):dN l k=some x:=by
 induction l with
 | nil=>cases hm
 | cons q r ih =>
  obtain⟨a,y⟩:=q
  have h1:=List.pairwise_cons.1 h
  unfold dN
  rcases List.mem_cons.1 hm with e|hm
  ·injection e with e1 e2;subst e1;subst e2;rw[if_pos rfl]
  have:=h1.1 _ hm
  rw[if_neg (by intro e;subst e;exact Ord2.irr _ this)]
  exact ih h1.2 hm
theorem ee.ext{l':List (κ×α)}(h:ee l)(h':ee l')(he:∀k,dN l k=dN l' k):l=l':=by
 induction l generalizing l' with
 | nil =>
  cases l' with
  | nil=>rfl
  | cons q r=>obtain⟨a,y⟩:=q;have:=he a;simp[dN] at this
 | cons p r ih =>
  obtain⟨a,x⟩:=p
  cases l' with
  | nil=>have:=he a;simp[dN] at this
  | cons q d =>
   obtain⟨b,y⟩:=q
   have h1:=List.pairwise_cons.1 h
   have c:=List.pairwise_cons.1 h'
   have f:a=b:=by
    have ha:=he a
    have hb:=he b
    simp only[dN,if_true] at ha hb
    by_cases e:b=a
    ·exact e.symm
    rw[if_neg e] at ha
    have e1:¬a=b:=fun q=>e q.symm
    rw[if_neg e1] at hb
    have g1:b<a:=c.1 _ (fC ha.symm)
    have i:a<b:=h1.1 _ (fC hb)
    exact absurd (Ord2.tra g1 i) (Ord2.irr _)
   subst f
   have g:x=y:=by have:=he a;simpa[dN] using this
   subst g
   congr 1
   refine ih h1.2 c.2 fun k=>?_
   by_cases e:a=k
   ·subst e
    have j:dN r a=none:=by
     cases hg:dN r a with
     | none=>rfl
     | some z=>exact absurd (h1.1 _ (fC hg)) (Ord2.irr _)
    have m:dN d a=none:=by
     cases hg:dN d a with
     | none=>rfl
     | some z=>exact absurd (c.1 _ (fC hg)) (Ord2.irr _)
    rw[j,m]
   have:=he k
   simpa[dN,e] using this
theorem yX{P:κ->Bool}:dN (l.filter fun p=>P p.1) j=if P j then dN l j else none:=by
 induction l with
 | nil=>simp[dN]
 | cons p r ih =>
  obtain⟨a,x⟩:=p
  rw[List.filter_cons]
  by_cases h:P a
  ·rw[if_pos h]
   show(if a=j then some x else dN (r.filter fun p=>P p.1) j)=if P j then(if a=j then some x else dN r j) else none
   rw[ih]
   by_cases e:a=j
   ·subst e;rw[if_pos rfl,if_pos rfl,if_pos h]
   rw[if_neg e,if_neg e]
  rw[if_neg h,ih]
  show _=if P j then(if a=j then some x else dN r j) else none
  by_cases e:a=j
  ·subst e;rw[if_neg h,if_neg h]
  rw[if_neg e]
theorem ee.filter(h:ee l)(P:κ×α->Bool):ee (l.filter P):=List.Pairwise.filter _ h
theorem ee.len_le{l':List (κ×α)}(h:ee l)(h':ee l'){P:κ->Bool}(he:∀k,dN l' k=if P k then dN l k else none):l'.length<=l.length:=by
 have:l'=l.filter fun p=>P p.1:=h'.ext (h.filter _) fun k=>by rw[he k,yX]
 rw[this]
 exact List.length_filter_le _ _
end
open Go.Maps (Keyed)
open Go.WideMaps (keyOf_string_mk)
class KeyL (κ:Type) extends Ord2 κ where
 lit:κ->Lit
 val:κ->Value
 wf:κ->Prop
 kt:TypeId
 same:∀x:κ,(lit x).sameKey (lit x)=true
 inj:∀ {a b:κ},lit a=lit b->a=b
 keyed:Keyed prog kt
 lits:∀ {v:Value} {kl:Lit},keyOf prog kt v=some kl->∃x,kl=lit x
 key:∀ {x:κ},wf x->keyOf prog kt (val x)=some (lit x)
instance:KeyL Int where
 lit:=.int .i64
 val:=.int .i64
 wf:=fun k=>(Lit.int .i64 k).wf=true
 kt:=3
 same:=fun x=>by simp[Lit.sameKey]
 inj:=fun h=>by injection h
 keyed:=qL
 lits:=fun h=>by obtain⟨x,_,h2,_⟩:=Maps.keyOf_i64 underlying3 h;exact⟨x,h2⟩
 key:=fun h=>tY h
theorem FI:Keyed prog 9:=Maps.string_keyed underlying9
theorem Ij{nm:List UInt8}(h:nm.length<=9223372036854775807):keyOf prog 9 (.string (dR nm))=some (.string nm) :=
 keyOf_string_mk (P:=prog) underlying9 (s:=dR nm) (by show nm.toArray.size<=maxLen;rw[List.size_toArray];exact h)
instance:KeyL (List UInt8) where
 lit:=.string
 val:=fun nm=>.string (dR nm)
 wf:=fun nm=>nm.length<=9223372036854775807
 kt:=9
 same:=fun x=>by simp[Lit.sameKey]
 inj:=fun h=>by injection h
 keyed:=FI
 lits:=fun h=>by obtain⟨x,_,h2,_⟩:=Maps.keyOf_str underlying9 h;exact⟨x,h2⟩
 key:=fun h=>Ij h
section
variable {κ α:Type} [KeyL κ] {w w':World}{bm:Nat}{f:κ->α->Value}{l:List (κ×α)}{F:Nat->Prop}{E:DataW Value}
def oh(E:DataW Value)(f:κ->α->Value)(l:List (κ×α)):Prop :=
 ∀k,(dN l k=none->Maps.has E (KeyL.lit k)=false)/\∀x,dN l k=some x->Maps.has E (KeyL.lit k)=true/\∀zd,E.atKey (KeyL.lit k) zd=.held (f k x)
def fU(w:World)(bm:Nat)(f:κ->α->Value)(l:List (κ×α)):Prop:=ee l/\∃E:DataW Value,w.ownsMap prog (KeyL.kt κ) im bm l.length E/\oh E f l
theorem fU.lt(h:fU w bm f l):bm<w.heap.size:=by obtain⟨_,E,h1,_⟩:=h;exact h1.lt
theorem fU.keep(h:fU w bm f l)(hk:b_ F w w')(hF:F bm):fU w' bm f l:=by
 obtain⟨h0,E,h1,h2⟩:=h
 refine⟨h0,E,?_,h2⟩
 have hlt:=h1.lt
 obtain⟨b,a,hb,rest⟩:=h1
 exact⟨b,a,(hk.block bm hlt hF).trans hb,rest⟩
theorem fU.new(h:fU w bm f l)(hk:New w w'):fU w' bm f l:=h.keep hk trivial
theorem fU.made(w:World)(f:κ->α->Value):fU (w.alloc (.map #[] 0)) w.heap.size f []:=⟨List.Pairwise.nil,.map [],World.ownsMap_made w _ _ _,fun k=>⟨fun _=>rfl,fun x a=>by cases a⟩⟩
theorem fU.fn{g:κ->α->Value}(h:fU w bm f l)(hg:∀k x,dN l k=some x->f k x=g k x):fU w bm g l:=by
 obtain⟨h0,E,h1,h2⟩:=h
 exact⟨h0,E,h1,fun k=>⟨(h2 k).1,fun x a=>⟨((h2 k).2 x a).1,fun zd=>by rw[((h2 k).2 x a).2 zd,hg k x a]⟩⟩⟩
theorem DM{P:Program}{k:TypeId}(h:w.ownsMap P k im bm n E):w.ownsMap P k im bm (Maps.size E) E:=by
 obtain⟨b,a,hb,hf,hs,rfl⟩:=h
 refine⟨b,a,hb,hf,?_,rfl⟩
 show b.size<=List.length _
 rw[length_sorted]
 simp
theorem pW(hown:w.ownsMap prog (KeyL.kt κ) im bm n E)(hs:oh E f l)(hr:ee l):Maps.size E=l.length:=by
 obtain⟨d,i,j,_⟩:=hown.entries KeyL.keyed
 obtain⟨k,g,m⟩:=hown.keysOf
 obtain rfl:d=k:=by rw[i] at g;simpa using g
 subst i
 have r:(d.map (·.1)).Nodup:=List.pairwise_map.2 (j.imp fun h=>h)
 have s:(l.map fun p=>KeyL.lit p.1).Nodup:=List.pairwise_map.2 (hr.imp fun {a b} h e=>by have:=KeyL.inj e;rw[this] at h;exact Ord2.irr _ h)
 have c:(d.map (·.1)).Perm (l.map fun p=>KeyL.lit p.1):=(List.perm_ext_iff_of_nodup r s).2 fun y=>by
  constructor
  ·intro hy
   obtain⟨p,c,rfl⟩:=List.mem_map.1 hy
   obtain⟨v,t⟩:=m p c
   obtain⟨x,o⟩:=KeyL.lits t
   have hh:Maps.has (.map d) (KeyL.lit x)=true:=by rw[Maps.has_eq,List.any_eq_true];exact⟨p,c,by rw[o];exact KeyL.same x⟩
   cases hg:dN l x with
   | none=>rw[(hs x).1 hg] at hh;cases hh
   | some z=>exact List.mem_map.2 ⟨(x,z),fC hg,o.symm⟩
  intro hy
  obtain⟨p,c,rfl⟩:=List.mem_map.1 hy
  have hh:=((hs p.1).2 p.2 (hr.get c)).1
  rw[Maps.has_eq,List.any_eq_true] at hh
  obtain⟨z,hz,q⟩:=hh
  exact List.mem_map.2 ⟨z,hz,WideAt.sameKey_eq q⟩
 have:=c.length_eq
 rw[List.length_map,List.length_map] at this
 exact this
theorem pl{v d:Value}{ps:List MemPlace}(h:im v=some (.held d,ps)):v=d:=by
 simp only[im,Option.some.injEq,Prod.mk.injEq,DataW.held.injEq] at h
 exact h.1
theorem pe(hown:w.ownsMap prog (KeyL.kt κ) im bm n E)(hs:oh E f l)(hr:ee l):fU w bm f l:=by
 have:=DM hown
 rw[pW hown hs hr] at this
 exact⟨hr,E,this,hs⟩
variable {t e:TypeId}
theorem fU.look(h:fU w bm f l)(ht:prog.underlying t=some (.map (KeyL.kt κ) e)){z:Value}(hz:(zeroValue e).run prog w=.ok z w){k:κ}(hk:KeyL.wf k):
  (Instr.lookup t (.map (some bm)) (KeyL.val k) true).run prog w=.ok (.tuple #[(dN l k).elim z (f k),.bool (dN l k).isSome]) w /\
  (Instr.lookup t (.map (some bm)) (KeyL.val k) false).run prog w=.ok ((dN l k).elim z (f k)) w:=by
 obtain⟨h0,E,h1,h2⟩:=h
 obtain⟨v,m,d,b⟩:=h1.look_ok KeyL.keyed ht hz (zd:=.held z) (zp:=[]) rfl (KeyL.key hk)
 obtain⟨v',j,c,a⟩:=h1.lookup KeyL.keyed ht hz (zd:=.held z) (zp:=[]) rfl (KeyL.key hk)
 rw[d,c]
 cases hg:dN l k with
 | none =>
  have g:=(h2 k).1 hg
  rw[g]
  rw[Maps.atKey_of_not_has g] at b a
  have e1:v=z:=pl b
  have e2:v'=z:=pl a
  rw[e1,e2]
  exact⟨rfl,rfl⟩
 | some x =>
  obtain⟨g,i⟩:=(h2 k).2 x hg
  rw[g]
  rw[i] at b a
  have e1:v=f k x:=pl b
  have e2:v'=f k x:=pl a
  rw[e1,e2]
  exact⟨rfl,rfl⟩
theorem fU.len(h:fU w bm f l)(ht:prog.underlying t=some (.map (KeyL.kt κ) e))(ty:TypeId):(Builtin.len_ #[t] ty #[.map (some bm)]).run prog w=.ok (.int .i64 l.length) w:=by
 obtain⟨h0,E,h1,h2⟩:=h
 rw[<- pW h1 h2 h0]
 exact h1.len ht ty
theorem sc(h:w.mapTurned w' b):b_ (fun i=>i≠b) w w'/\w'.heap.size=w.heap.size:=by
 have hg:=h.grown
 refine⟨⟨hg.os,hg.tape,hg.output,hg.size,fun j hj hd=>hg.block j hj (fun e=>hd (by injection e))⟩,?_⟩
 obtain⟨f,c,d,a,_,rfl⟩:=h
 simp[ChangeMaps.setBlock]
theorem fU.store(h:fU w bm f l)(ht:prog.underlying t=some (.map (KeyL.kt κ) e))(hn:l.length<1000000){k:κ}(hk:KeyL.wf k)(x:α):
  ∃w',(Instr.mapUpdate t (.map (some bm)) (KeyL.val k) (f k x)).run prog w=.ok () w'/\fU w' bm f (eN k x l)/\b_ (fun i=>i≠bm) w w'/\w'.heap.size=w.heap.size:=by
 obtain⟨h0,E,h1,h2⟩:=h
 obtain⟨w',c,d,g⟩:=h1.store KeyL.keyed ht (by unfold maxLen;omega) (KeyL.key hk) (val:=f k x) rfl
 obtain⟨g1,m⟩:=sc g
 refine⟨w',c,pe d ?_ h0.put,g1,m⟩
 intro j
 have a:WideAt.IsKeyLit (KeyL.lit k):=KeyL.keyed.key (KeyL.key hk)
 rw[dS]
 by_cases e:j=k
 ·subst e
  rw[if_pos rfl]
  refine⟨fun h=>(by cases h),fun y hy=>?_⟩
  injection hy with hy
  subst hy
  exact⟨Maps.has_put_same h1.isMap a _,fun zd=>Maps.atKey_put_same h1.isMap a _ zd⟩
 rw[if_neg e]
 have b:(KeyL.lit j:Lit)≠KeyL.lit k:=fun q=>e (KeyL.inj q)
 refine⟨fun hg=>by rw[Maps.has_put_other b];exact(h2 j).1 hg,fun y hy=>?_⟩
 obtain⟨g3,g4⟩:=(h2 j).2 y hy
 exact⟨by rw[Maps.has_put_other b];exact g3,fun zd=>by rw[Maps.atKey_put_other b];exact g4 zd⟩
theorem fU.drop(h:fU w bm f l)(ht:prog.underlying t=some (.map (KeyL.kt κ) e)){k:κ}(hk:KeyL.wf k):
  ∃w',(∀ty,(Builtin.delete_ #[t,KeyL.kt κ] ty #[.map (some bm),KeyL.val k]).run prog w=.ok (.tuple #[]) w')/\fU w' bm f (jv k l)/\b_ (fun i=>i≠bm) w w'/\w'.heap.size=w.heap.size:=by
 obtain⟨h0,E,h1,h2⟩:=h
 obtain⟨w',b,c,d⟩:=h1.drop KeyL.keyed ht (KeyL.key hk) 0
 obtain⟨g1,g⟩:=sc d
 refine⟨w',fun ty=>b,pe c ?_ h0.del,g1,g⟩
 intro j
 rw[gi]
 by_cases e:j=k
 ·subst e
  rw[if_pos rfl]
  exact⟨fun _=>Maps.has_del_same,fun y hy=>by cases hy⟩
 rw[if_neg e]
 have a:(KeyL.lit j:Lit)≠KeyL.lit k:=fun q=>e (KeyL.inj q)
 refine⟨fun hg=>by rw[Maps.has_del_other a];exact(h2 j).1 hg,fun y hy=>?_⟩
 obtain⟨g3,g4⟩:=(h2 j).2 y hy
 exact⟨by rw[Maps.has_del_other a];exact g3,fun zd=>by rw[Maps.atKey_del_other a];exact g4 zd⟩
end
structure i' where
 kind:Int
 links:Int
 size:Int
 till:Int
 shut:Bool
structure eI where
 n:i'
 b:List UInt8
 names:List (List UInt8×Int)
abbrev dX:=List (Int×eI)
abbrev Col:=Nat->Nat
def Ext(w:World)(c c':Col):Prop:=∀b,b<w.heap.size->c' b=c b
section
variable {w w' w2:World}{c c' c2:Col}{i:Nat}
theorem Ext.refl(w:World)(c:Col):Ext w c c:=fun _ _=>rfl
theorem Ext.trans(h:Ext w c c')(h':Ext w' c' c2)(hz:w.heap.size<=w'.heap.size):Ext w c c2:=fun b hb=>(h' b (Nat.lt_of_lt_of_le hb hz)).trans (h b hb)
def Col.on(c:Col)(n:Nat)(f:Col):Col:=fun b=>if b<n then c b else f b
theorem Col.Qg(c:Col)(w:World)(f:Col):Ext w c (c.on w.heap.size f):=fun b hb=>by unfold Col.on;rw[if_pos hb]
theorem Col.Qf(c:Col)(f:Col)(hb:n<=b):c.on n f b=f b:=by unfold Col.on;rw[if_neg zo]
theorem Col.on_old(c:Col)(f:Col)(hb:b<n):c.on n f b=c b:=by unfold Col.on;rw[if_pos hb]
end
abbrev mf(w:World)(nb:Nat)(l:List (List UInt8×Int)):Prop:=fU w nb (fun _ (id:Int)=>.int .i64 id) l
structure i_ (w:World) (c:Col) (i:Nat) (bi nb:Nat) (id:Int) (it:eI):Prop where
 col:c bi=i
 cells:∃A cp,w.heap[bi]?=some (.cells #[.int .i64 id,.int .i64 it.n.kind,.int .i64 it.n.links,.int .i64 it.n.size,.int .u64 it.n.till,.bool it.n.shut,.slice A it.b.length cp,.map (if it.n.kind=2 then some nb else none)] 214 (0,0)) /\
  it.b.length<=cp/\cp<=9223372036854775807/\Bs w (fun b=>c b=0) A it.b.length it.b
 names:it.n.kind=2->c nb=i/\mf w nb it.names
 bare:it.n.kind≠2->it.names=[]
structure fx where
 bm:Nat
 β:Int->Nat
 γ:Int->Nat
structure ea (w:World) (c:Col) (i:Nat) (bt:Nat) (q:fx) (T:dX):Prop where
 tree:w.heap[bt]?=some (.cells #[.map (some q.bm)] 217 (0,0))
 own:fU w q.bm (fun(k:Int) (_:eI)=>.pointer (some ⟨q.β k,0,none⟩)) T
 item:∀k it,dN T k=some it->i_ w c i (q.β k) (q.γ k) k it
 col:c bt=i/\c q.bm=i
 inj:∀k k' it it',dN T k=some it->dN T k'=some it'->k≠k'->q.β k≠q.β k'/\(it.n.kind=2->it'.n.kind=2->q.γ k≠q.γ k')
 far:∀k it,dN T k=some it->it.n.kind=2->q.γ k≠q.bm
section
variable {w w':World}{c c':Col}{i bt bi nb:Nat}{q:fx}{T:dX}{l:List (List UInt8×Int)}{id:Int}{it:eI}{F:Nat->Prop}
theorem i_.lt(h:i_ w c i bi nb id it):bi<w.heap.size:=by obtain⟨A,a,h1,_⟩:=h.cells;exact(Zl h1)
theorem i_.keepB(h:i_ w c i bi nb id it)(hk:b_ F w w')(hx:Ext w c c')(hbi:F bi)(hnb:it.n.kind=2->F nb)(h0:∀b,b<w.heap.size->c b=0->F b):i_ w' c' i bi nb id it:=by
 have hlt:=h.lt
 obtain⟨A,d,h1,h2,h3,e⟩:=h.cells
 refine⟨(hx _ hlt).trans h.col,⟨A,d,(hk.block bi hlt hbi).trans h1,h2,h3,(e.imp (E:=fun b=>c b=0/\c' b=0) fun b hb hd=>⟨hd,(hx b hb).trans hd⟩).keep hk (fun b hb hd=>h0 b hb hd.1) |>.imp fun b _ hd=>hd.2⟩,fun hd=>?_,h.bare⟩
 obtain⟨g1,a⟩:=h.names hd
 exact⟨(hx _ a.lt).trans g1,a.keep hk (hnb hd)⟩
theorem i_.keep(h:i_ w c i bi nb id it)(hk:b_ F w w')(hx:Ext w c c')(hF:∀b,b<w.heap.size->c b=i\/c b=0->F b):i_ w' c' i bi nb id it:=by
 exact h.keepB hk hx (hF _ h.lt (.inl h.col)) (fun hd=>hF _ (h.names hd).2.lt (.inl (h.names hd).1)) fun b hb hc=>hF b hb (.inr hc)
theorem i_.notMap(h:i_ w c i bi nb id it){α κ:Type}[KeyL κ]{f:κ->α->Value}{L:List (κ×α)}(hm:fU w b f L):bi≠b:=by
 obtain⟨A,d,h1,_⟩:=h.cells
 obtain⟨_,E,⟨g,a,h2,_⟩,_⟩:=hm
 intro e
 rw[e,h2] at h1
 injection h1 with h1
 cases h1
theorem ea.ltT(h:ea w c i bt q T):bt<w.heap.size:=(Array.getElem?_eq_some_iff.1 h.tree).1
theorem ea.ltM(h:ea w c i bt q T):q.bm<w.heap.size:=h.own.lt
theorem ea.keep(h:ea w c i bt q T)(hk:b_ F w w')(hx:Ext w c c')(hF:∀b,b<w.heap.size->c b=i\/c b=0->F b):ea w' c' i bt q T:=by
 exact⟨(hk.block bt h.ltT (hF _ h.ltT (.inl h.col.1))).trans h.tree,h.own.keep hk (hF _ h.ltM (.inl h.col.2)),fun k a hg=>(h.item k a hg).keep hk hx hF,⟨(hx _ h.ltT).trans h.col.1,(hx _ h.ltM).trans h.col.2⟩,h.inj,h.far⟩
theorem ea.new(h:ea w c i bt q T)(hk:New w w'):ea w' c i bt q T:=h.keep hk (Ext.refl _ _) fun _ _ _=>trivial
end
def eD(kind:Int):eI:=⟨⟨kind,1,0,0,decide (kind=2)⟩,[],[]⟩
theorem qf(w:World):mf (w.alloc (.map #[] 0)) w.heap.size []:=fU.made w _
theorem vI(c:Col)(i:Nat)(id kind:Int)(hk:kind=1\/kind=2)(w:World):
  Calls prog 134 #[.int .i64 id,.int .i64 kind] w fun e w'=>∃(bi nb:Nat) (c':Col),e=.returned (.pointer (some ⟨bi,0,none⟩))/\New w w'/\w.heap.size<=bi/\w.heap.size<=nb/\Ext w c c'/\i_ w' c' i bi nb id (eD kind):=by
 rcases hk with rfl|rfl
 ·go_in
  go_wp2
  go_ret
  refine⟨w.heap.size,w.heap.size,c.on w.heap.size fun _=>i,rfl,(zN w).alloc _,zr,zr,Col.Qg c w _,?_⟩
  exact⟨Col.Qf c _ zr,⟨none,0,heap_alloc_new w _,zr,Zd,Row.nil _ _ _ _⟩,fun h=>(by cases h),fun _=>rfl⟩
 have g:=@run_makeMap prog
 go_in
 go_wp2
 go_ret
 have h1:=heap_alloc_new w (.cells #[.int .i64 id,.int .i64 2,.int .i64 1,.int .i64 0,.int .u64 0,.bool true,.slice none 0 0,.map (some (w.heap.size+1))] 214)
 have d:=(zN w).alloc (.cells #[.int .i64 id,.int .i64 2,.int .i64 1,.int .i64 0,.int .u64 0,.bool true,.slice none 0 0,.map (some (w.heap.size+1))] 214)
 have f:(w.alloc (.cells #[.int .i64 id,.int .i64 2,.int .i64 1,.int .i64 0,.int .u64 0,.bool true,.slice none 0 0,.map (some (w.heap.size+1))] 214)).heap.size=w.heap.size+1:=by simp
 generalize w.alloc (.cells #[.int .i64 id,.int .i64 2,.int .i64 1,.int .i64 0,.int .u64 0,.bool true,.slice none 0 0,.map (some (w.heap.size+1))] 214)=a at *
 have h2:=qf a
 have b:=(zN a).alloc (.map #[] 0)
 refine⟨w.heap.size,w.heap.size+1,c.on w.heap.size fun _=>i,rfl,d.new b,zr,Nat.le_succ _,Col.Qg c w _,?_⟩
 refine⟨Col.Qf c _ zr,⟨none,0,b.Qa h1 zt,zr,Zd,Row.nil _ _ _ _⟩,fun _=>⟨Col.Qf c _ (Nat.le_succ _),?_⟩,fun _=>rfl⟩
 rw[<- f]
 exact h2
theorem wf0{k:Int}(h0 : -9223372036854775808<=k)(h1:k<=9223372036854775807):KeyL.wf (κ:=Int) k:=by
 show(Lit.int .i64 k).wf=true
 simp[Lit.wf,IntKind.min,IntKind.max,IntKind.signed,IntKind.bits]
 omega
theorem EH(c:Col)(i:Nat)(hi:i≠0)(w:World):
  Calls prog 167 #[] w fun e w'=>∃(bt:Nat) (q:fx) (c':Col),e=.returned (.pointer (some ⟨bt,0,none⟩))/\New w w'/\w.heap.size<=bt/\Ext w c c'/\ea w' c' i bt q [(0,eD 2)]:=by
 have M:=@run_makeMap prog
 have y:=zh<|fun W=>vI (c.on w.heap.size fun _=>i) i 0 2 (.inr rfl) W
 go_in
 go_wp2_with fail
 have z:=fU.made (κ:=Int) (α:=eI) w (fun _ _=>.pointer none)
 have m:=(zN w).alloc (.map #[] 0)
 have n:(w.alloc (.map #[] 0)).heap.size=w.heap.size+1:=by simp
 refine(y.out _).mono ?_
 rintro e I⟨o,s,c1,rfl,h,A,B,a,f⟩
 rw[n] at A B
 have C:=(z.new h).fn (g:=fun _ _=>.pointer (some ⟨o,0,none⟩)) (fun k x J=>by cases J)
 obtain⟨d,j,p,l,z3⟩:=C.store underlying215 Zd (wf0 (k:=0) Zd Zd) (eD 2)
 have H:(Instr.mapUpdate 215 (.map (some w.heap.size)) (.int .i64 0) (.pointer (some ⟨o,0,none⟩))).run prog I=.ok () d:=j
 have K:=J7 m h a f p l z3
 clear z m h a f C j p l z3 y
 go_wp2
 go_ret
 obtain⟨m,h,a,f,p,l,z3⟩:=K.out
 have E:=h.size
 rw[n] at E
 have L:=heap_alloc_new d (.cells #[.map (some w.heap.size)] 217)
 have t:=(zN d).alloc (.cells #[.map (some w.heap.size)] 217)
 generalize d.alloc (.cells #[.map (some w.heap.size)] 217)=F at *
 have u:New w F:=by
  refine b_.Qi (D:=fun b=>b<w.heap.size) ((b_.Qd (D:=fun b=>b<w.heap.size) (b_.Qe (m.new h)) l fun b hb _=>by omega).new t) fun b hb=>hb
 refine⟨d.heap.size,⟨w.heap.size,fun _=>o,fun _=>s⟩,c1.on d.heap.size fun _=>i,rfl,u,zo,?_,?_⟩
 ·intro b hb
  rw[Col.on_old _ _ zo,a b (by rw[n];omega),Col.on_old _ _ hb]
 have r:c1 w.heap.size=i:=by rw[a _ (by rw[n];omega),Col.Qf _ _ zr]
 have v:i_ F (c1.on d.heap.size fun _=>i) i o s 0 (eD 2):=(f.keepB (c':=c1) l (Ext.refl _ _) zo (fun _=>by omega) (fun b hb hc e=>by rw[e,r] at hc;exact hi hc)).keep (c':=c1.on d.heap.size fun _=>i) t (Col.Qg _ _ _) (fun _ _ _=>zt)
 refine⟨L,p.new t,fun k G hg=>?_,⟨Col.Qf _ _ zr,by show(c1.on _ _) w.heap.size=i;rw[Col.on_old _ _ zo];exact r⟩,fun k O G it' h1 h2 N=>?_,fun _ _ _ _=>by show s≠w.heap.size;omega⟩
 ·have hk:k=0/\G=eD 2:=by
   unfold dN dN at hg
   split at hg
   ·rename_i e;injection hg with hg;exact⟨e.symm,hg.symm⟩
   cases hg
  rw[hk.1,hk.2]
  exact v
 exfalso
 unfold dN dN at h1 h2
 split at h1
 ·split at h2
  ·omega
  cases h2
 cases h1
abbrev eZ:=List (List UInt8)
def iE(b:UInt8):Bool:=(decide (97<=b.toNat)&&decide (b.toNat<=122))||(decide (48<=b.toNat)&&decide (b.toNat<=57))||decide (b.toNat=46)||decide (b.toNat=45)||decide (b.toNat=95)
def ep(s:List UInt8):Bool:=s.all iE&&decide (s≠[])&&decide (s.length<=16)&&decide (s≠[46])&&decide (s≠[46,46])
def el(p:eZ):Int:=if p.all ep=true then(if 8<p.length then 3 else 0) else 12
def iX(T:dX)(id:Int):Option (List (List UInt8×Int)):=match dN T id with
 | some it=>if it.n.kind=2 then some it.names else none
 | none=>none
def fL(T:dX):Int->eZ->Int×Int
 | id,[]=>(id,0)
 | id,nm::r=>match iX T id with
  | none=>(0,23)
  | some l=>match dN l nm with
   | none=>(0,20)
   | some k=>fL T k r
def j6(T:dX)(p:eZ):Int×Int:=if el p≠0 then(0,el p) else fL T 0 p
def eB(T:dX)(p:eZ):Int×List UInt8×Int :=
 if p=[] then(0,[],1)
 else if (fL T 0 p.dropLast).2≠0 then(0,[],(fL T 0 p.dropLast).2)
 else match iX T (fL T 0 p.dropLast).1 with
  | none=>(0,[],23)
  | some _=>((fL T 0 p.dropLast).1,p.getLastD [],0)
def lq(T:dX)(id:Int):List (List UInt8×Int):=(iX T id).getD []
def setNames(T:dX)(id:Int)(l:List (List UInt8×Int)):dX:=match dN T id with
 | some it=>eN id { it with names:=l } T
 | none=>T
def iF(T:dX):Nat->Int->Int
 | 0,k=>k
 | n+1,k=>if (dN T k).isSome then iF T n (k+1) else k
def lR(T:dX):Int:=iF T T.length 1
def g_(T:dX)(p:eZ)(kind:Int):Int×Int×dX :=
 if el p≠0 then(0,el p,T)
 else if kind≠1/\kind≠2 then(0,30,T)
 else if (eB T p).2.2≠0 then(0,(eB T p).2.2,T)
 else if (dN (lq T (eB T p).1) (eB T p).2.1).isSome then(0,21,T)
 else if 64<=T.length then(0,4,T)
 else(lR T,0,setNames (eN (lR T) (eD kind) T) (eB T p).1 (eN (eB T p).2.1 (lR T) (lq T (eB T p).1)))
def iP(T:dX)(id:Int):Int:=match dN T id with
 | some it=>it.n.kind
 | none=>0
def mD(T:dX)(id:Int):dX:=match dN T id with
 | some it=>if it.n.links=0/\it.n.shut=true then jv id T else T
 | none=>T
def fE(T:dX)(id:Int)(b:List UInt8):Int×dX:=match dN T id with
 | none=>(20,T)
 | some it=>if it.n.kind=2 then(22,T) else if it.n.shut=true then(27,T) else if 4096-it.n.size<(b.length:Int) then(15,T)
  else(0,eN id { it with b:=it.b++b,n:={ it.n with size:=((it.b++b).length:Nat) } } T)
def je(T:dX)(id till:Int):Int×dX:=match dN T id with
 | none=>(20,T)
 | some it=>if it.n.kind=2 then(22,T) else if it.n.shut=true then(27,T) else if 1099511627776<till then(1,T)
  else(0,mD (eN id { it with n:={ it.n with shut:=true,till:=till } } T) id)
def Fz(T:dX)(id:Int):List (List UInt8)×Int:=match dN T id with
 | none=>([],20)
 | some it=>if it.n.kind=2 then(it.names.map (·.1),0) else([],23)
def nB(T:dX):List (Int×List UInt8×Int):=T.flatMap fun p=>p.2.names.map fun x=>(p.1,x.1,x.2)
def ir(T:dX)(k:Int):Nat:=(nB T).countP fun e=>decide (e.2.2=k)
structure Ho (it:eI):Prop where
 kind:it.n.kind=1\/it.n.kind=2
 bare:it.n.kind=1->it.names=[]
 dir:it.n.kind=2->it.b=[]/\it.n.till=0/\it.n.shut=true/\it.n.links=1
 size:it.n.size=it.b.length/\it.b.length<=4096
 till:0<=it.n.till/\it.n.till<=1099511627776
structure eo (T:dX):Prop where
 rising:ee T
 names:∀k it,dN T k=some it->ee it.names
 few:T.length<=64
 ids:∀k it,dN T k=some it->0<=k/\k<=63
 root:iP T 0=2
 node:∀k it,dN T k=some it->Ho it
 leads:∀d it nm k,dN T d=some it->dN it.names nm=some k->k≠0/\ep nm=true/\(dN T k).isSome
 count:∀k it,dN T k=some it->k≠0->it.n.links=(ir T k:Nat)
 alive:∀k it,dN T k=some it->it.n.links=0->it.n.shut=false
 depth:∃dep:Int->Nat,dep 0=0/\∀d it nm k,dN T d=some it->dN it.names nm=some k->dep d<8/\(iP T k=2->dep k=dep d+1)
section
variable {κ α:Type} [Ord2 κ] {l:List (κ×α)}{k:κ}{v:α}
theorem ub(h:∀x,(k,x)∉l):dN l k=none:=by
 cases e:dN l k with
 | none=>rfl
 | some x=>exact absurd (fC e) (h x)
theorem tF(p:α->Bool):∀ {l:List (κ×α)},dN l k=none->((eN k v l).countP fun e=>p e.2)=(l.countP fun e=>p e.2)+if p v then 1 else 0
 | [],_=>by simp[eN,List.countP_cons]
 | (a,x)::r,h=>by
  unfold dN at h
  split at h
  ·cases h
  rename_i hne
  unfold eN
  split
  ·simp only[List.countP_cons]
  rw[List.countP_cons,List.countP_cons,tF p h]
  omega
theorem rL:∀ {l:List (κ×α)},dN l k=none->jv k l=l
 | [],_=>rfl
 | (a,x)::r,h=>by
  unfold dN at h
  split at h
  ·cases h
  rename_i hne
  unfold jv
  rw[List.filter_cons]
  simp only[hne,ne_eq,not_false_eq_true,decide_true,if_true]
  congr 1
  exact rL h
theorem um(p:α->Bool):∀ {l:List (κ×α)},ee l->dN l k=some v->((jv k l).countP fun e=>p e.2)+(if p v then 1 else 0)=l.countP fun e=>p e.2
 | [],_,h=>by cases h
 | (a,x)::r,hr,h=>by
  have h1:=List.pairwise_cons.1 hr
  unfold dN at h
  unfold jv
  rw[List.filter_cons,List.countP_cons]
  split at h
  ·rename_i e
   subst e
   injection h with h
   subst h
   simp only[ne_eq,not_true_eq_false,decide_false,Bool.false_eq_true,if_false]
   have:dN r a=none:=ub fun y hy=>Ord2.irr _ (h1.1 (_,y) hy)
   have h2:=rL this
   unfold jv at h2
   rw[h2]
  rename_i b
  simp only[b,ne_eq,not_false_eq_true,decide_true,if_true,List.countP_cons]
  have:=um p h1.2 h
  unfold jv at this
  simp only[ne_eq] at this
  omega
theorem rY:∀ {l:List (κ×α)},dN l k=none->(eN k v l).length=l.length+1
 | [],_=>rfl
 | (a,x)::r,h=>by
  unfold dN at h
  split at h
  ·cases h
  rename_i hne
  unfold eN
  split
  ·rfl
  rw[List.length_cons,List.length_cons,rY h]
theorem lD:∀ {l:List (κ×α)}{x:α},ee l->dN l k=some x->(eN k v l).length=l.length
 | [],_,_,h=>by cases h
 | (a,y)::r,x,hr,h=>by
  have h1:=List.pairwise_cons.1 hr
  unfold dN at h
  unfold eN
  split at h
  ·rename_i e
   subst e
   rw[if_neg (Ord2.irr _),if_pos rfl]
   rfl
  rename_i b
  rw[if_neg (fun hlt=>Ord2.irr _ (Ord2.tra hlt (h1.1 _ (fC h)))),if_neg b,List.length_cons,List.length_cons,lD h1.2 h]
theorem zB(hr:ee l)(h:dN l k=some v):(jv k l).length+1=l.length:=by
 have:=um (fun _=>true) hr h
 simpa using this
end
theorem iq(p:Int×eI)(T:dX)(k:Int):ir (p::T) k=(p.2.names.countP fun e=>decide (e.2=k))+ir T k:=by
 unfold ir nB
 rw[List.flatMap_cons,List.countP_append,List.countP_map]
 rfl
theorem uU{T:dX}{j k:Int}{it:eI}(h:dN T j=none):ir (eN j it T) k=ir T k+it.names.countP fun e=>decide (e.2=k):=by
 induction T with
 | nil=>simp[eN,iq];simp[ir,nB]
 | cons q r ih =>
  obtain⟨a,x⟩:=q
  unfold dN at h
  split at h
  ·cases h
  rename_i b
  unfold eN
  split
  ·simp only[iq];omega
  rw[iq,iq,ih h];dsimp only;omega
theorem vP{T:dX}{j k:Int}{it it':eI}(hr:ee T)(h:dN T j=some it):ir (eN j it' T) k+(it.names.countP fun e=>decide (e.2=k))=ir T k+it'.names.countP fun e=>decide (e.2=k):=by
 induction T with
 | nil=>cases h
 | cons q r ih =>
  obtain⟨a,x⟩:=q
  have h1:=List.pairwise_cons.1 hr
  unfold dN at h
  unfold eN
  split at h
  ·rename_i e
   subst e
   injection h with h
   subst h
   rw[if_neg (Ord2.irr _),if_pos rfl,iq,iq]
   dsimp only
   omega
  rename_i b
  rw[if_neg (fun hlt=>Ord2.irr _ (Ord2.tra hlt (h1.1 _ (fC h)))),if_neg b,iq,iq]
  have:=ih h1.2 h
  dsimp only
  omega
theorem Ep{T:dX}{j k:Int}{it:eI}(hr:ee T)(h:dN T j=some it):ir (jv j T) k+(it.names.countP fun e=>decide (e.2=k))=ir T k:=by
 induction T with
 | nil=>cases h
 | cons q r ih =>
  obtain⟨a,x⟩:=q
  have h1:=List.pairwise_cons.1 hr
  unfold dN at h
  unfold jv
  rw[List.filter_cons,iq]
  split at h
  ·rename_i e
   subst e
   injection h with h
   subst h
   simp only[ne_eq,not_true_eq_false,decide_false,Bool.false_eq_true,if_false]
   have:dN r a=none:=ub fun y hy=>Ord2.irr _ (h1.1 (_,y) hy)
   have h2:=rL this
   unfold jv at h2
   rw[h2]
   omega
  rename_i b
  simp only[b,ne_eq,not_false_eq_true,decide_true,if_true,iq]
  have:=ih h1.2 h
  unfold jv at this
  simp only[ne_eq] at this
  omega
theorem jn{T:dX}{k:Int}{it:eI}(h:dN T k=some it):iP T k=it.n.kind:=by unfold iP;rw[h]
theorem n_{T:dX}{k:Int}{l:List (List UInt8×Int)}(h:iX T k=some l):∃it,dN T k=some it/\it.n.kind=2/\it.names=l:=by
 unfold iX at h
 split at h
 ·rename_i it e
  split at h
  ·rename_i hk
   injection h with h
   exact⟨it,e,hk,h⟩
  cases h
 cases h
theorem zu{T:dX}{k:Int}{it:eI}(h:dN T k=some it)(hk:it.n.kind=2):iX T k=some it.names:=by unfold iX;rw[h];dsimp only;rw[if_pos hk]
theorem vw{T:dX}{k:Int}{it:eI}(h:dN T k=some it)(hk:it.n.kind=2):lq T k=it.names:=by unfold lq;rw[zu h hk];rfl
theorem oB{T:dX}{k:Int}{it:eI}(l:List (List UInt8×Int))(h:dN T k=some it):setNames T k l=eN k { it with names:=l } T:=by unfold setNames;rw[h]
structure iN (T:dX) (δ:Int->Int):Prop where
 rising:ee T
 names:∀k it,dN T k=some it->ee it.names
 few:T.length<=64
 ids:∀k it,dN T k=some it->0<=k/\k<=63
 root:iP T 0=2
 kind:∀k it,dN T k=some it->it.n.kind=1\/it.n.kind=2
 bare:∀k it,dN T k=some it->it.n.kind=1->it.names=[]
 dir:∀k it,dN T k=some it->it.n.kind=2->it.b=[]/\it.n.till=0/\it.n.shut=true
 size:∀k it,dN T k=some it->it.n.size=it.b.length/\it.b.length<=4096
 till:∀k it,dN T k=some it->0<=it.n.till/\it.n.till<=1099511627776
 leads:∀d it nm k,dN T d=some it->dN it.names nm=some k->k≠0/\ep nm=true/\(dN T k).isSome
 count:∀k it,dN T k=some it->k≠0->it.n.links=(ir T k:Nat)+δ k
 one:∀k it,dN T k=some it->it.n.kind=2->it.n.links=1
def xj(T:dX)(dep:Int->Nat):Prop:=dep 0=0/\∀d it nm k,dN T d=some it->dN it.names nm=some k->dep d<8/\(iP T k=2->dep k=dep d+1)
theorem eo.step{T:dX}(h:eo T):iN T fun _=>0 where
 rising:=h.rising
 names:=h.names
 few:=h.few
 ids:=h.ids
 root:=h.root
 kind:=fun k a hg=>(h.node k a hg).kind
 bare:=fun k a hg=>(h.node k a hg).bare
 dir:=fun k a hg hk=>have:=(h.node k a hg).dir hk;⟨this.1,this.2.1,this.2.2.1⟩
 size:=fun k a hg=>(h.node k a hg).size
 till:=fun k a hg=>(h.node k a hg).till
 leads:=h.leads
 count:=fun k a hg h0=>by rw[h.count k a hg h0];omega
 one:=fun k a hg hk=>((h.node k a hg).dir hk).2.2.2
theorem iN.done{T:dX}{δ:Int->Int}(h:iN T δ)(h0:∀k it,dN T k=some it->k≠0->δ k=0)(ha:∀k it,dN T k=some it->it.n.links=0->it.n.shut=false)(hd:∃dep,xj T dep):eo T where
 rising:=h.rising
 names:=h.names
 few:=h.few
 ids:=h.ids
 root:=h.root
 node:=fun k it hg=>⟨h.kind k it hg,h.bare k it hg,fun hk=>have:=h.dir k it hg hk;⟨this.1,this.2.1,this.2.2,h.one k it hg hk⟩,h.size k it hg,h.till k it hg⟩
 leads:=h.leads
 count:=fun k it hg hk=>by rw[h.count k it hg hk,h0 k it hg hk];omega
 alive:=ha
 depth:=hd
theorem iN.setNames{T:dX}{δ δ':Int->Int}(h:iN T δ){it:eI}(hg:dN T d=some it)(hk:it.n.kind=2){l:List (List UInt8×Int)}(hl:ee l)(hle:∀nm k,dN l nm=some k->k≠0/\ep nm=true/\(dN T k).isSome)(hc:∀k:Int,((l.countP fun e=>decide (e.2=k):Nat):Int)+δ' k=((it.names.countP fun e=>decide (e.2=k):Nat):Int)+δ k):iN (eN d { it with names:=l } T) δ' where
 rising:=h.rising.put
 names:=fun k x a=>by
  rw[dS] at a
  split at a
  ·injection a with a;subst a;exact hl
  exact h.names k x a
 few:=by rw[lD h.rising hg];exact h.few
 ids:=fun k x a=>by
  rw[dS] at a
  split at a
  ·rename_i e;subst e;exact h.ids _ it hg
  exact h.ids k x a
 root:=by
  unfold iP
  rw[dS]
  by_cases e:(0:Int)=d
  ·rw[if_pos e];exact hk
  rw[if_neg e];exact h.root
 kind:=fun k x a=>by
  rw[dS] at a
  split at a
  ·injection a with a;subst a;exact .inr hk
  exact h.kind k x a
 bare:=fun k x a h1=>by
  rw[dS] at a
  split at a
  ·injection a with a;subst a;rw[show it.n.kind=1 from h1] at hk;cases hk
  exact h.bare k x a h1
 dir:=fun k x a h2=>by
  rw[dS] at a
  split at a
  ·injection a with a;subst a;exact h.dir d it hg hk
  exact h.dir k x a h2
 size:=fun k x a=>by
  rw[dS] at a
  split at a
  ·injection a with a;subst a;exact h.size d it hg
  exact h.size k x a
 till:=fun k x a=>by
  rw[dS] at a
  split at a
  ·injection a with a;subst a;exact h.till d it hg
  exact h.till k x a
 leads:=fun c x nm k a hn=>by
  have hs:(dN T k).isSome->(dN (eN d { it with names:=l } T) k).isSome:=fun hh=>by
   rw[dS]
   split
   ·rfl
   exact hh
  rw[dS] at a
  split at a
  ·injection a with a;subst a
   have:=hle nm k hn
   exact⟨this.1,this.2.1,hs this.2.2⟩
  have:=h.leads c x nm k a hn
  exact⟨this.1,this.2.1,hs this.2.2⟩
 count:=fun k x a h0=>by
  have b:=vP (k:=k) (it':={ it with names:=l }) h.rising hg
  dsimp only at b
  have f:=hc k
  rw[dS] at a
  split at a
  ·rename_i e
   injection a with a;subst a;subst e
   have:=h.count k it hg h0
   show it.n.links=_
   omega
  have:=h.count k x a h0
  omega
 one:=fun k x a h2=>by
  rw[dS] at a
  split at a
  ·injection a with a;subst a;exact h.one d it hg hk
  exact h.one k x a h2
theorem iN.setNode{T:dX}{δ δ':Int->Int}(h:iN T δ){it it':eI}(hg:dN T d=some it)(hn:it'.names=it.names)(hk:it'.n.kind=it.n.kind)(hd:it.n.kind=2->it'=it)(hs:it'.n.size=it'.b.length/\it'.b.length<=4096)(ht:0<=it'.n.till/\it'.n.till<=1099511627776)(hc:it'.n.links-δ' d=it.n.links-δ d)(hδ:∀k,k≠d->δ' k=δ k):iN (eN d it' T) δ' where
 rising:=h.rising.put
 names:=fun k x a=>by
  rw[dS] at a
  split at a
  ·injection a with a;subst a;rw[hn];exact h.names d it hg
  exact h.names k x a
 few:=by rw[lD h.rising hg];exact h.few
 ids:=fun k x a=>by
  rw[dS] at a
  split at a
  ·rename_i e;subst e;exact h.ids _ it hg
  exact h.ids k x a
 root:=by
  unfold iP
  rw[dS]
  by_cases e:(0:Int)=d
  ·rw[if_pos e]
   show it'.n.kind=2
   rw[hk,<- jn hg,<- e]
   exact h.root
  rw[if_neg e];exact h.root
 kind:=fun k x a=>by
  rw[dS] at a
  split at a
  ·injection a with a;subst a;rw[hk];exact h.kind d it hg
  exact h.kind k x a
 bare:=fun k x a h1=>by
  rw[dS] at a
  split at a
  ·injection a with a;subst a;rw[hn];exact h.bare d it hg (by rw[<- hk];exact h1)
  exact h.bare k x a h1
 dir:=fun k x a h2=>by
  rw[dS] at a
  split at a
  ·injection a with a;subst a
   have h3:it.n.kind=2:=by rw[<- hk];exact h2
   rw[hd h3]
   exact h.dir d it hg h3
  exact h.dir k x a h2
 size:=fun k x a=>by
  rw[dS] at a
  split at a
  ·injection a with a;subst a;exact hs
  exact h.size k x a
 till:=fun k x a=>by
  rw[dS] at a
  split at a
  ·injection a with a;subst a;exact ht
  exact h.till k x a
 leads:=fun i x f k a c=>by
  have hs:(dN T k).isSome->(dN (eN d it' T) k).isSome:=fun hh=>by
   rw[dS]
   split
   ·rfl
   exact hh
  rw[dS] at a
  split at a
  ·injection a with a;subst a
   have:=h.leads d it f k hg (by rw[<- hn];exact c)
   exact⟨this.1,this.2.1,hs this.2.2⟩
  have:=h.leads i x f k a c
  exact⟨this.1,this.2.1,hs this.2.2⟩
 count:=fun k x a h0=>by
  have g:=vP (k:=k) (it':=it') h.rising hg
  rw[hn] at g
  rw[dS] at a
  split at a
  ·rename_i e
   injection a with a;subst a;subst e
   have:=h.count k it hg h0
   omega
  rename_i e
  have:=h.count k x a h0
  rw[hδ k e]
  omega
 one:=fun k x a h2=>by
  rw[dS] at a
  split at a
  ·injection a with a;subst a
   have h3:it.n.kind=2:=by rw[<- hk];exact h2
   rw[hd h3]
   exact h.one d it hg h3
  exact h.one k x a h2
theorem BO{T:dX}{δ:Int->Int}(h:iN T δ){k:Int}(hg:dN T k=none):ir T k=0:=by
 unfold ir
 rw[List.countP_eq_zero]
 intro e he hk
 unfold nB at he
 obtain⟨p,a,he⟩:=List.mem_flatMap.1 he
 obtain⟨x,b,rfl⟩:=List.mem_map.1 he
 have h1:=h.rising.get (k:=p.1) (x:=p.2) a
 have h2:=(h.names p.1 p.2 h1).get (k:=x.1) (x:=x.2) b
 have:=(h.leads p.1 p.2 x.1 x.2 h1 h2).2.2
 simp at hk
 rw[hk,hg] at this
 cases this
theorem iN.fresh{T:dX}{δ δ':Int->Int}(h:iN T δ){k kind:Int}(hg:dN T k=none)(hl:T.length<64)(hk:0<=k/\k<=63)(hkd:kind=1\/kind=2)(hc:δ' k=1)(hδ:∀j,j≠k->δ' j=δ j):iN (eN k (eD kind) T) δ' where
 rising:=h.rising.put
 names:=fun j x a=>by
  rw[dS] at a
  split at a
  ·injection a with a;subst a;exact List.Pairwise.nil
  exact h.names j x a
 few:=by rw[rY hg];omega
 ids:=fun j x a=>by
  rw[dS] at a
  split at a
  ·rename_i e;subst e;exact hk
  exact h.ids j x a
 root:=by
  unfold iP
  rw[dS]
  by_cases e:(0:Int)=k
  ·exfalso
   have c:=h.root
   unfold iP at c
   rw[e,hg] at c
   simp at c
   omega
  rw[if_neg e];exact h.root
 kind:=fun j x a=>by
  rw[dS] at a
  split at a
  ·injection a with a;subst a;exact hkd
  exact h.kind j x a
 bare:=fun j x a h1=>by
  rw[dS] at a
  split at a
  ·injection a with a;subst a;rfl
  exact h.bare j x a h1
 dir:=fun j x a h2=>by
  rw[dS] at a
  split at a
  ·injection a with a;subst a
   exact⟨rfl,rfl,decide_eq_true h2⟩
  exact h.dir j x a h2
 size:=fun j x a=>by
  rw[dS] at a
  split at a
  ·injection a with a;subst a;exact⟨rfl,by show 0<=4096;omega⟩
  exact h.size j x a
 till:=fun j x a=>by
  rw[dS] at a
  split at a
  ·injection a with a;subst a;exact⟨Int.le_refl _,by show(0:Int)<=_;omega⟩
  exact h.till j x a
 leads:=fun d x f j a b=>by
  rw[dS] at a
  split at a
  ·injection a with a;subst a;cases b
  have:=h.leads d x f j a b
  refine⟨this.1,this.2.1,?_⟩
  rw[dS]
  split
  ·rfl
  exact this.2.2
 count:=fun j x a h0=>by
  rw[uU hg]
  show _=((ir T j+0:Nat):Int)+_
  rw[dS] at a
  split at a
  ·rename_i e
   injection a with a;subst a;subst e
   rw[BO h hg,hc]
   rfl
  rename_i e
  have:=h.count j x a h0
  rw[hδ j e]
  omega
 one:=fun j x a h2=>by
  rw[dS] at a
  split at a
  ·injection a with a;subst a;rfl
  exact h.one j x a h2
theorem iN.gone{T:dX}{δ δ':Int->Int}(h:iN T δ){k:Int}{it:eI}(hg:dN T k=some it)(hn:it.names=[])(h0:k≠0)(hc:ir T k=0)(hδ:∀j,j≠k->δ' j=δ j):iN (jv k T) δ' where
 rising:=h.rising.del
 names:=fun j x a=>by
  rw[gi] at a
  split at a
  ·cases a
  exact h.names j x a
 few:=by have:=zB h.rising hg;have:=h.few;omega
 ids:=fun j x a=>by
  rw[gi] at a
  split at a
  ·cases a
  exact h.ids j x a
 root:=by
  unfold iP
  rw[gi,if_neg (fun e=>h0 e.symm)]
  exact h.root
 kind:=fun j x a=>by
  rw[gi] at a
  split at a
  ·cases a
  exact h.kind j x a
 bare:=fun j x a h1=>by
  rw[gi] at a
  split at a
  ·cases a
  exact h.bare j x a h1
 dir:=fun j x a h2=>by
  rw[gi] at a
  split at a
  ·cases a
  exact h.dir j x a h2
 size:=fun j x a=>by
  rw[gi] at a
  split at a
  ·cases a
  exact h.size j x a
 till:=fun j x a=>by
  rw[gi] at a
  split at a
  ·cases a
  exact h.till j x a
 leads:=fun d x f j a b=>by
  rw[gi] at a
  split at a
  ·cases a
  have h1:=h.leads d x f j a b
  refine⟨h1.1,h1.2.1,?_⟩
  rw[gi]
  split
  ·rename_i e
   exfalso
   subst e
   unfold ir at hc
   rw[List.countP_eq_zero] at hc
   refine hc (d,f,j) ?_ (by simp)
   unfold nB
   exact List.mem_flatMap.2 ⟨(d,x),fC a,List.mem_map.2 ⟨(f,j),fC b,rfl⟩⟩
  exact h1.2.2
 count:=fun j x a g=>by
  have c:=Ep (k:=j) h.rising hg
  rw[hn] at c
  rw[gi] at a
  split at a
  ·cases a
  rename_i e
  have:=h.count j x a g
  rw[hδ j e]
  simp only[List.countP_nil] at c
  omega
 one:=fun j x a h2=>by
  rw[gi] at a
  split at a
  ·cases a
  exact h.one j x a h2
theorem GF{T:dX}{id:Int}{r:eZ}(h:iX T id=none):fL T id (nm::r)=(0,23):=by
 unfold fL
 split
 ·rfl
 rename_i l hl;rw[h] at hl;cases hl
theorem GE{T:dX}{id:Int}{r:eZ}{l:List (List UInt8×Int)}(h:iX T id=some l)(h2:dN l nm=none):fL T id (nm::r)=(0,20):=by
 unfold fL
 split
 ·rename_i hl;rw[h] at hl;cases hl
 rename_i a hl
 rw[h] at hl
 injection hl with hl
 subst hl
 split
 ·rfl
 rename_i k hk;rw[h2] at hk;cases hk
theorem GD{T:dX}{id k:Int}{r:eZ}{l:List (List UInt8×Int)}(h:iX T id=some l)(h2:dN l nm=some k):fL T id (nm::r)=fL T k r:=by
 conv=>lhs;unfold fL
 split
 ·rename_i hl;rw[h] at hl;cases hl
 rename_i a hl
 rw[h] at hl
 injection hl with hl
 subst hl
 split
 ·rename_i hk;rw[h2] at hk;cases hk
 rename_i b hk
 rw[h2] at hk
 injection hk with hk
 rw[hk]
theorem oX{T:dX}(h:eo T):∀(p:eZ) (id:Int),(dN T id).isSome->∀k,fL T id p=(k,0)->(dN T k).isSome
 | [],id,h0,k,e=>by unfold fL at e;injection e with e;rw[<- e];exact h0
 | nm::r,id,h0,k,e=>by
  unfold fL at e
  split at e
  ·cases e
  rename_i l hl
  split at e
  ·cases e
  rename_i j hj
  obtain⟨it,hg,hk,rfl⟩:=n_ hl
  exact oX h r j (h.leads id it nm j hg hj).2.2 k e
theorem xp{T:dX}(h:eo T){dep:Int->Nat}(hd:xj T dep):∀(p:eZ) (id:Int),iP T id=2->∀k,fL T id p=(k,0)->(iP T k=2->dep k=dep id+p.length)/\(p≠[]->dep id+p.length<=8)
 | [],id,h0,k,e=>by
  unfold fL at e
  injection e with e
  rw[<- e]
  exact⟨fun _=>rfl,fun h=>absurd rfl h⟩
 | nm::r,id,h0,k,e=>by
  unfold fL at e
  split at e
  ·cases e
  rename_i l hl
  split at e
  ·cases e
  rename_i j hj
  obtain⟨it,hg,hk,rfl⟩:=n_ hl
  have h1:=hd.2 id it nm j hg hj
  rw[List.length_cons]
  by_cases d:r=[]
  ·subst d
   unfold fL at e
   injection e with e
   subst e
   exact⟨fun hk=>by rw[h1.2 hk];simp,fun _=>by simp;omega⟩
  have c:iP T j=2:=by
   cases r with
   | nil=>exact absurd rfl d
   | cons a b =>
    unfold fL at e
    split at e
    ·cases e
    rename_i m f
    obtain⟨it',g,i,_⟩:=n_ f
    rw[jn g];exact i
  have h2:=xp h hd r j c k e
  have h3:=h1.2 c
  exact⟨fun hk=>by rw[h2.1 hk,h3];omega,fun _=>by have:=h2.2 d;omega⟩
theorem oI{T:dX}{p:eZ}(he:(eB T p).2.2=0):p≠[]/\fL T 0 p.dropLast=((eB T p).1,0)/\(∃it,dN T (eB T p).1=some it/\it.n.kind=2/\lq T (eB T p).1=it.names)/\(eB T p).2.1=p.getLastD []:=by
 by_cases a:p=[]
 ·unfold eB at he
  rw[if_pos a] at he
  cases he
 by_cases h1:(fL T 0 p.dropLast).2=0
 ·cases hl:iX T (fL T 0 p.dropLast).1 with
  | none =>
   unfold eB at he
   rw[if_neg a,if_neg (fun hh=>hh h1),hl] at he
   cases he
  | some l =>
   have e:eB T p=((fL T 0 p.dropLast).1,p.getLastD [],0):=by unfold eB;rw[if_neg a,if_neg (fun hh=>hh h1),hl]
   obtain⟨it,hg,hk,rfl⟩:=n_ hl
   rw[e]
   exact⟨a,Prod.ext rfl h1,⟨it,hg,hk,vw hg hk⟩,rfl⟩
 unfold eB at he
 rw[if_neg a,if_pos h1] at he
 exact absurd he h1
theorem rF{p:eZ}(h:el p=0)(hp:p≠[]):ep (p.getLastD [])=true:=by
 unfold el at h
 split at h
 ·rename_i ha
  rw[List.getLastD_eq_getLast?,List.getLast?_eq_some_getLast hp]
  exact(List.all_eq_true.1 ha) _ (List.getLast_mem hp)
 cases h
theorem qT{p:eZ}(h:el p=0):p.length<=8:=by
 unfold el at h
 split at h
 ·split at h
  ·cases h
  omega
 cases h
theorem pL{T:dX}:∀(n:Nat) (k:Int),k<=iF T n k/\iF T n k<=k+n/\(∀j,k<=j->j<iF T n k->(dN T j).isSome)
 | 0,k=>⟨Int.le_refl _,by unfold iF;omega,fun j h1 h2=>by unfold iF at h2;omega⟩
 | n+1,k=>by
  unfold iF
  split
  ·rename_i hs
   obtain⟨h1,h2,h3⟩:=pL (T:=T) n (k+1)
   refine⟨zo,zo,fun j b a=>?_⟩
   by_cases e:j=k
   ·rw[e];exact hs
   exact h3 j zo a
  exact⟨Int.le_refl _,zo,fun j h1 h2=>by omega⟩
theorem rX{T:dX}(hr:ee T):∀(n:Nat) (a:Int),(∀j,a<=j->j<a+n->(dN T j).isSome)->n<=(T.filter fun p=>decide (a<=p.1)).length
 | 0,_,_=>Nat.zero_le _
 | n+1,a,h=>by
  have h1:=rX hr n (a+1) (fun j h1 h2=>h j zo zo)
  have h2:=h a (Int.le_refl _) zo
  obtain⟨d,hg⟩:=Option.isSome_iff_exists.1 h2
  have hm:=fC hg
  have:(T.filter fun p=>decide (a+1<=p.1)).length+1<=(T.filter fun p=>decide (a<=p.1)).length:=by
   clear h1 h2 hg h
   induction T with
   | nil=>cases hm
   | cons q r ih =>
    have b:=List.pairwise_cons.1 hr
    rcases List.mem_cons.1 hm with e|hm
    ·have e1:q.1=a:=by rw[<- e]
     rw[List.filter_cons,List.filter_cons,if_neg (by simp[e1];omega),if_pos (by simp[e1]),List.length_cons]
     refine Nat.succ_le_succ ?_
     rw[<- List.countP_eq_length_filter,<- List.countP_eq_length_filter]
     refine List.countP_mono_left fun x _ c=>?_
     simp at c ⊢
     omega
    have:=ih b.2 hm
    have hq:q.1<a:=b.1 _ hm
    rw[List.filter_cons,List.filter_cons,if_neg (by simp;omega),if_neg (by simp;omega)]
    exact this
  omega
theorem wS{T:dX}(h:eo T)(hl:T.length<64):dN T (lR T)=none/\1<=lR T/\lR T<=63/\∀j,1<=j->j<lR T->(dN T j).isSome:=by
 unfold lR
 obtain⟨h1,h2,h3⟩:=pL (T:=T) T.length 1
 obtain⟨f,hf⟩:=zx (iF T T.length 1)
 have h0:(dN T 0).isSome:=by
  have:=h.root
  unfold iP at this
  cases e:dN T 0 with
  | none=>rw[e] at this;exact absurd this Zd
  | some x=>rfl
 have a:f.toNat<=T.length:=by
  have:=rX h.rising f.toNat 0 (fun j c d=>by
   by_cases e:j=0
   ·rw[e];exact h0
   exact h3 j zo zo)
  exact Nat.le_trans this (List.length_filter_le _ _)
 refine⟨?_,h1,zo,h3⟩
 cases e:dN T (iF T T.length 1) with
 | none=>rfl
 | some x =>
  exfalso
  have b:iF T T.length 1=1+T.length:=by
   clear a hf h0 h3 h2 h1 hl h
   have key:∀(n:Nat) (k:Int),(dN T (iF T n k)).isSome->iF T n k=k+n:=by
    intro n
    induction n with
    | zero=>intro k _;unfold iF;omega
    | succ n ih =>
     intro k hk
     unfold iF at hk ⊢
     split
     ·rename_i hs
      rw[if_pos hs] at hk
      rw[ih _ hk];omega
     rename_i hs
     rw[if_neg hs] at hk
     exact absurd hk hs
   exact key _ _ (by rw[e];rfl)
  omega
theorem nv{T:dX}{j:Int}{x:eI}:iP (eN d x T) j=if j=d then x.n.kind else iP T j:=by
 unfold iP
 rw[dS]
 by_cases e:j=d
 ·rw[if_pos e,if_pos e]
 rw[if_neg e,if_neg e]
theorem DV{T:dX}{j:Int}:iP (jv d T) j=if j=d then 0 else iP T j:=by
 unfold iP
 rw[gi]
 by_cases e:j=d
 ·rw[if_pos e,if_pos e]
 rw[if_neg e,if_neg e]
theorem eo.zero{T:dX}(h:eo T):(dN T 0).isSome:=by
 have:=h.root
 unfold iP at this
 cases e:dN T 0 with
 | none=>rw[e] at this;exact absurd this Zd
 | some x=>rfl
theorem DG{T:dX}(h:eo T){dep:Int->Nat}(hd:xj T dep){p:eZ}(hf:el p=0)(he:(eB T p).2.2=0):dep (eB T p).1+1=p.length/\dep (eB T p).1<8:=by
 obtain⟨h1,h2,⟨a,hg,hk,-⟩,-⟩:=oI he
 have h3:=(xp h hd p.dropLast 0 h.root _ h2).1 (by rw[jn hg];exact hk)
 rw[hd.1,List.length_dropLast] at h3
 have:=qT hf
 have:0<p.length:=List.length_pos_iff.2 h1
 omega
theorem BP{l:List (List UInt8×Int)}{k:Int}(h:dN l nm=none)(j:Int):((eN nm k l).countP fun e=>decide (e.2=j))=(l.countP fun e=>decide (e.2=j))+if k=j then 1 else 0:=by
 have:=tF (v:=k) (fun x:Int=>decide (x=j)) h
 rw[this]
 by_cases e:k=j <;> simp[e]
theorem Fr{T:dX}(h:eo T)(p:eZ)(kind:Int):eo (g_ T p kind).2.2:=by
 unfold g_
 by_cases h1:el p≠0
 ·rw[if_pos h1];exact h
 rw[if_neg h1]
 by_cases h2:kind≠1/\kind≠2
 ·rw[if_pos h2];exact h
 rw[if_neg h2]
 by_cases h3:(eB T p).2.2≠0
 ·rw[if_pos h3];exact h
 rw[if_neg h3]
 by_cases m:(dN (lq T (eB T p).1) (eB T p).2.1).isSome
 ·rw[if_pos m];exact h
 rw[if_neg m]
 by_cases h5:64<=T.length
 ·rw[if_pos h5];exact h
 rw[if_neg h5]
 have hf:el p=0:=Classical.not_not.1 h1
 have he:(eB T p).2.2=0:=Classical.not_not.1 h3
 have hn:dN (lq T (eB T p).1) (eB T p).2.1=none:=by
  cases e:dN (lq T (eB T p).1) (eB T p).2.1 with
  | none=>rfl
  | some x=>rw[e] at m;exact absurd rfl m
 obtain⟨z,hw,⟨g,hg,hk,v⟩,n⟩:=oI he
 have o:ep (eB T p).2.1=true:=by rw[n];exact rF hf z
 obtain⟨r,hd⟩:=h.depth
 have t:=(DG h hd hf he).2
 obtain⟨q,C,f3,-⟩:=wS h zo
 rw[v] at hn ⊢
 dsimp only
 generalize (eB T p).1=d at *
 generalize (eB T p).2.1=A at *
 generalize lR T=k at *
 have s:d≠k:=fun e=>by rw[e,q] at hg;cases hg
 have w:=h.step.fresh (δ':=fun j=>if j=k then 1 else 0) q zo ⟨zo,f3⟩ (show kind=1\/kind=2 by omega) (by simp) (fun j hj=>by simp[hj])
 have i:dN (eN k (eD kind) T) d=some g:=by rw[dS,if_neg s];exact hg
 rw[oB _ i]
 have y:∀c l,dN (eN A k g.names) c=some l->l≠0/\ep c=true/\(dN (eN k (eD kind) T) l).isSome:=fun c l hh=>by
  rw[dS] at hh
  split at hh
  ·rename_i e
   injection hh with hh
   subst hh
   exact⟨zo,by rw[e];exact o,by rw[dS,if_pos rfl];rfl⟩
  exact w.leads d g c l i hh
 have B:=w.setNames (δ':=fun _=>0) i hk (h.names d g hg).put y (fun j=>by
  rw[BP hn]
  by_cases e:j=k
  ·subst e;simp
  simp[e,Ne.symm e])
 refine B.done (fun _ _ _ _=>rfl) (fun j x a h0=>?_) ⟨fun j=>if j=k then r d+1 else r j,?_,fun u x c j a b=>?_⟩
 ·rw[dS] at a
  split at a
  ·injection a with a;subst a;exact h.alive d g hg h0
  rw[dS] at a
  split at a
  ·injection a with a;subst a;exact absurd h0 (by show ¬(1:Int)=0;decide)
  exact h.alive j x a h0
 ·dsimp only;rw[if_neg zo];exact hd.1
 dsimp only
 rw[dS] at a
 split at a
 ·rename_i e
  injection a with a;subst a;subst e
  rw[dS] at b
  rw[if_neg s]
  split at b
  ·injection b with b;subst b
   rw[if_pos rfl]
   exact⟨t,fun _=>rfl⟩
  have h6:=hd.2 _ g c j hg b
  have f:j≠k:=fun e=>by
   have:=(h.leads _ g c j hg b).2.2
   rw[e,q] at this;cases this
  rw[if_neg f]
  refine⟨h6.1,fun hj=>h6.2 ?_⟩
  rw[nv,nv] at hj
  by_cases e:j=u
  ·rw[e,jn hg];exact hk
  rw[if_neg e,if_neg f] at hj;exact hj
 rename_i e
 rw[dS] at a
 split at a
 ·injection a with a;subst a;cases b
 rename_i e2
 have h6:=hd.2 u x c j a b
 have f:j≠k:=fun e=>by
  have:=(h.leads u x c j a b).2.2
  rw[e,q] at this;cases this
 rw[if_neg f,if_neg e2]
 refine⟨h6.1,fun hj=>h6.2 ?_⟩
 rw[nv,nv] at hj
 by_cases e:j=d
 ·rw[e,jn hg];exact hk
 rw[if_neg e,if_neg f] at hj;exact hj
theorem vu{T:dX}{dep:Int->Nat}(hd:xj T dep){k:Int}{it it':eI}(hg:dN T k=some it)(hn:it'.names=it.names)(hk:it'.n.kind=it.n.kind):xj (eN k it' T) dep:=by
 refine⟨hd.1,fun d x b j a hj=>?_⟩
 have e:iP (eN k it' T) j=iP T j:=by
  rw[nv]
  by_cases e:j=k
  ·rw[if_pos e,e,jn hg,hk]
  rw[if_neg e]
 rw[e]
 rw[dS] at a
 split at a
 ·rename_i e2
  injection a with a;subst a;subst e2
  exact hd.2 _ it b j hg (by rw[<- hn];exact hj)
 exact hd.2 d x b j a hj
theorem zv{T:dX}{dep:Int->Nat}(hd:xj T dep){k:Int}:xj (jv k T) dep:=by
 refine⟨hd.1,fun d x b j a hj=>?_⟩
 rw[gi] at a
 split at a
 ·cases a
 have h6:=hd.2 d x b j a hj
 refine⟨h6.1,fun hk=>h6.2 ?_⟩
 rw[DV] at hk
 split at hk
 ·exact absurd hk Zd
 exact hk
theorem eo.turn{T:dX}(h:eo T){k:Int}{it it':eI}(hg:dN T k=some it)(hn:it'.names=it.names)(hk:it'.n.kind=it.n.kind)(hd:it.n.kind=1)(hl:it'.n.links=it.n.links)(hs:it'.n.size=it'.b.length/\it'.b.length<=4096)(ht:0<=it'.n.till/\it'.n.till<=1099511627776)(ha:it.n.links=0->it'.n.shut=false):eo (eN k it' T):=by
 obtain⟨c,d⟩:=h.depth
 refine(h.step.setNode (δ':=fun _=>0) hg hn hk (fun h2=>by rw[hd] at h2;cases h2) hs ht (by rw[hl]) (fun _ _=>rfl)).done (fun _ _ _ _=>rfl) (fun j x a h0=>?_) ⟨c,vu d hg hn hk⟩
 rw[dS] at a
 split at a
 ·injection a with a;subst a;exact ha (by rw[<- hl];exact h0)
 exact h.alive j x a h0
theorem BY{T:dX}(h:eo T)(id:Int)(b:List UInt8):eo (fE T id b).2:=by
 unfold fE
 cases hg:dN T id with
 | none=>exact h
 | some a =>
  dsimp only
  split
  ·exact h
  split
  ·exact h
  split
  ·exact h
  rename_i h1 h2 h3
  have hn:=h.node id a hg
  refine h.turn hg rfl rfl (hn.kind.resolve_right h1) rfl ⟨rfl,?_⟩ hn.till (fun h0=>h.alive id a hg h0)
  have:=hn.size
  show(a.b++b).length<=4096
  rw[zL]
  omega
theorem eo.gone0{T:dX}{δ:Int->Int}(h:iN T δ){k:Int}{it:eI}(hg:dN T k=some it)(hk:it.n.kind=1)(h0:it.n.links=0)(hδ:∀j,δ j=0)(ha:∀j x,dN T j=some x->j≠k->x.n.links=0->x.n.shut=false)(hd:∃dep,xj T dep):eo (jv k T):=by
 have b:k≠0:=fun e=>by
  have:=h.root
  rw[<- e,jn hg,hk] at this
  exact absurd this Zd
 obtain⟨dep,hd⟩:=hd
 have hc:ir T k=0:=by
  have:=h.count k it hg b
  rw[h0,hδ k] at this
  omega
 refine(h.gone (δ':=fun _=>0) hg (h.bare k it hg hk) b hc (fun j _=>(hδ j).symm)).done (fun _ _ _ _=>rfl) (fun j x a hl=>?_) ⟨dep,zv hd⟩
 rw[gi] at a
 split at a
 ·cases a
 rename_i e;exact ha j x a e hl
theorem EP{T:dX}(h:eo T)(id till:Int)(h0:0<=till):eo (je T id till).2:=by
 unfold je
 cases hg:dN T id with
 | none=>exact h
 | some a =>
  dsimp only
  split
  ·exact h
  split
  ·exact h
  split
  ·exact h
  rename_i h1 h2 h3
  have hn:=h.node id a hg
  have c:=hn.kind.resolve_right h1
  obtain⟨d,e⟩:=h.depth
  have f:=h.step.setNode (δ':=fun _=>0) (it':={ a with n:={ a.n with shut:=true,till:=till } }) hg rfl rfl (fun h2=>by rw[c] at h2;cases h2) hn.size ⟨h0,by show till<=_;omega⟩ rfl (fun _ _=>rfl)
  have g:=vu (it':={ a with n:={ a.n with shut:=true,till:=till } }) e hg rfl rfl
  dsimp only
  unfold mD
  rw[dS,if_pos rfl]
  dsimp only
  by_cases hz:a.n.links=0/\true=true
  ·rw[if_pos hz]
   refine eo.gone0 f (it:={ a with n:={ a.n with shut:=true,till:=till } }) (by rw[dS,if_pos rfl]) c hz.1 (fun _=>rfl) (fun j x b hj hl=>?_) ⟨d,g⟩
   rw[dS,if_neg hj] at b
   exact h.alive j x b hl
  rw[if_neg hz]
  refine f.done (fun _ _ _ _=>rfl) (fun j x b hl=>?_) ⟨d,g⟩
  rw[dS] at b
  split at b
  ·injection b with b;subst b
   exact absurd ⟨hl,rfl⟩ hz
  exact h.alive j x b hl
theorem rU{α β:Type}[Ord2 α]{l:List (α×β)}{k:α}(h:¬(dN l k).isSome):dN l k=none:=by
 cases e:dN l k with
 | none=>rfl
 | some x=>rw[e] at h;exact absurd rfl h
open Go.Shelf
def vE:Go.Shelf.Ren:=⟨fun|7=>199|10=>255|n=>n,fun|23=>215|26=>3|3=>209|28=>272|0=>0|27=>271|33=>63|4=>4|n=>n,fun|n=>n⟩
theorem I6:Go.Proofs.SlLaysZI.n7 prog vE:={
 mixed:=by kernel_rfl
 f7:=⟨f199.name,Zd,func199.trans (congrArg some zk)⟩
 f10:=⟨f255.name,Zd,func255.trans (congrArg some zk)⟩
 t0:=underlying0
 a0:=isAgg0
 z0:=sizeOf0
 v0:=zeroValue0
 t4:=underlying4
 a4:=isAgg4
 z4:=sizeOf4
 v4:=zeroValue4
 t23:=underlying215
 a23:=isAgg215
 z23:=sizeOf215
 v23:=zeroValue215
 t26:=underlying3
 a26:=isAgg3
 z26:=sizeOf3
 v26:=zeroValue3
 t27:=underlying271
 a27:=isAgg271
 z27:=sizeOf271
 v27:=zeroValue271
 t28:=underlying272
 a28:=isAgg272
 z28:=sizeOf272
 v28:=zeroValue272
 t33:=underlying63
 a33:=isAgg63
 z33:=sizeOf63
 v33:=zeroValue63 }
def rT:Go.Shelf.Ren:=⟨fun|6=>198|8=>253|9=>254|11=>277|13=>276|12=>278|23=>301|24=>302|14=>303|15=>304|16=>305|17=>306|18=>307|19=>308|20=>309|21=>310|22=>311|25=>326|26=>321|27=>322|28=>327|29=>328|30=>329|31=>337|n=>n,fun|26=>3|28=>272|24=>166|0=>0|3=>3|37=>248|48=>179|50=>27|4=>4|40=>357|39=>356|45=>197|5=>5|9=>9|51=>383|55=>386|57=>390|58=>146|33=>63|n=>n,fun|n=>n⟩
theorem GK:Go.Proofs.SlLaysZI.n6 prog rT:={
 mixed:=by kernel_rfl
 f6:=⟨f198.name,Zd,func198.trans (congrArg some zk)⟩
 f8:=⟨f253.name,Zd,func253.trans (congrArg some zk)⟩
 f11:=⟨f277.name,Zd,func277.trans (congrArg some zk)⟩
 t0:=underlying0
 a0:=isAgg0
 z0:=sizeOf0
 v0:=zeroValue0
 t24:=underlying166
 a24:=isAgg166
 z24:=sizeOf166
 v24:=zeroValue166
 t26:=underlying3
 a26:=isAgg3
 z26:=sizeOf3
 v26:=zeroValue3
 t28:=underlying272
 a28:=isAgg272
 z28:=sizeOf272
 v28:=zeroValue272
 i26:=by kernel_rfl }
def C':Go.Shelf.Ren:=⟨fun|5=>254|8=>276|7=>278|19=>301|20=>302|10=>303|11=>304|12=>305|13=>306|14=>307|15=>308|16=>309|17=>310|18=>311|30=>326|31=>321|32=>322|33=>327|34=>328|35=>329|40=>337|n=>n,fun|23=>166|25=>3|3=>3|32=>248|22=>166|0=>0|44=>179|46=>27|4=>4|36=>357|35=>356|41=>197|5=>5|9=>9|53=>383|57=>386|63=>390|64=>146|n=>n,fun|n=>n⟩
theorem Ht:Go.Proofs.SlLaysM.n5 prog C':={
 mixed:=by kernel_rfl
 f5:=⟨f254.name,Zd,func254.trans (congrArg some zk)⟩
 f7:=⟨f278.name,Zd,func278.trans (congrArg some zk)⟩
 f8:=func276.trans (congrArg some zk)
 f10:=⟨f303.name,Zd,func303.trans (congrArg some zk)⟩
 f11:=⟨f304.name,Zd,func304.trans (congrArg some zk)⟩
 f12:=⟨f305.name,Zd,func305.trans (congrArg some zk)⟩
 f13:=⟨f306.name,Zd,func306.trans (congrArg some zk)⟩
 f14:=⟨f307.name,Zd,func307.trans (congrArg some zk)⟩
 f15:=⟨f308.name,Zd,func308.trans (congrArg some zk)⟩
 f16:=⟨f309.name,Zd,func309.trans (congrArg some zk)⟩
 f17:=⟨f310.name,Zd,func310.trans (congrArg some zk)⟩
 f18:=⟨f311.name,Zd,func311.trans (congrArg some zk)⟩
 f19:=func301.trans (congrArg some zk)
 f20:=func302.trans (congrArg some zk)
 f30:=⟨f326.name,Zd,func326.trans (congrArg some zk)⟩
 f31:=func321.trans (congrArg some zk)
 f32:=func322.trans (congrArg some zk)
 f33:=⟨f327.name,Zd,func327.trans (congrArg some zk)⟩
 f34:=⟨f328.name,Zd,func328.trans (congrArg some zk)⟩
 f35:=⟨f329.name,Zd,func329.trans (congrArg some zk)⟩
 f40:=⟨f337.name,Zd,func337.trans (congrArg some zk)⟩
 t0:=underlying0
 a0:=isAgg0
 z0:=sizeOf0
 v0:=zeroValue0
 t3:=underlying3
 a3:=isAgg3
 z3:=sizeOf3
 v3:=zeroValue3
 t4:=underlying4
 a4:=isAgg4
 z4:=sizeOf4
 v4:=zeroValue4
 t5:=underlying5
 a5:=isAgg5
 z5:=sizeOf5
 v5:=zeroValue5
 t9:=underlying9
 a9:=isAgg9
 z9:=sizeOf9
 v9:=zeroValue9
 t22:=underlying166
 a22:=isAgg166
 z22:=sizeOf166
 v22:=zeroValue166
 t23:=underlying166
 a23:=isAgg166
 z23:=sizeOf166
 v23:=zeroValue166
 t25:=underlying3
 a25:=isAgg3
 z25:=sizeOf3
 v25:=zeroValue3
 t32:=underlying248
 a32:=isAgg248
 z32:=sizeOf248
 v32:=zeroValue248
 t35:=underlying356
 a35:=isAgg356
 z35:=sizeOf356
 v35:=zeroValue356
 t36:=underlying357
 a36:=isAgg357
 z36:=sizeOf357
 v36:=zeroValue357
 t41:=underlying197
 a41:=isAgg197
 z41:=sizeOf197
 v41:=zeroValue197
 t44:=underlying179
 a44:=isAgg179
 z44:=sizeOf179
 v44:=zeroValue179
 t46:=underlying27
 a46:=isAgg27
 z46:=sizeOf27
 v46:=zeroValue27
 t53:=underlying383
 a53:=isAgg383
 z53:=sizeOf383
 v53:=zeroValue383
 t57:=underlying386
 a57:=isAgg386
 z57:=sizeOf386
 v57:=zeroValue386
 t63:=underlying390
 a63:=isAgg390
 z63:=sizeOf390
 v63:=zeroValue390
 t64:=underlying146
 a64:=isAgg146
 z64:=sizeOf146
 v64:=zeroValue146 }
def rE:Go.Shelf.Ren:=⟨fun|7=>159|10=>245|n=>n,fun|23=>212|26=>9|3=>3|28=>239|0=>0|27=>238|33=>252|4=>4|n=>n,fun|n=>n⟩
theorem Hu:Go.Proofs.SlLaysZ.n7 prog rE:={
 mixed:=by kernel_rfl
 f7:=⟨f159.name,Zd,func159.trans (congrArg some zk)⟩
 f10:=⟨f245.name,Zd,func245.trans (congrArg some zk)⟩
 t0:=underlying0
 a0:=isAgg0
 z0:=sizeOf0
 v0:=zeroValue0
 t4:=underlying4
 a4:=isAgg4
 z4:=sizeOf4
 v4:=zeroValue4
 t23:=underlying212
 a23:=isAgg212
 z23:=sizeOf212
 v23:=zeroValue212
 t26:=underlying9
 a26:=isAgg9
 z26:=sizeOf9
 v26:=zeroValue9
 t27:=underlying238
 a27:=isAgg238
 z27:=sizeOf238
 v27:=zeroValue238
 t28:=underlying239
 a28:=isAgg239
 z28:=sizeOf239
 v28:=zeroValue239
 t33:=underlying252
 a33:=isAgg252
 z33:=sizeOf252
 v33:=zeroValue252 }
def rS:Go.Shelf.Ren:=⟨fun|6=>158|8=>243|9=>244|11=>274|13=>276|12=>275|23=>301|24=>302|14=>292|15=>293|16=>294|17=>295|18=>296|19=>297|20=>298|21=>299|22=>300|25=>320|26=>321|27=>322|28=>323|29=>324|30=>325|31=>336|n=>n,fun|26=>9|28=>239|24=>51|0=>0|3=>3|37=>248|48=>179|50=>27|4=>4|40=>357|39=>356|45=>197|5=>5|9=>9|51=>383|55=>386|57=>390|58=>146|33=>252|n=>n,fun|n=>n⟩
theorem Ch:Go.Proofs.SlLaysZ.n6 prog rS:={
 mixed:=by kernel_rfl
 f6:=⟨f158.name,Zd,func158.trans (congrArg some zk)⟩
 f8:=⟨f243.name,Zd,func243.trans (congrArg some zk)⟩
 f11:=⟨f274.name,Zd,func274.trans (congrArg some zk)⟩
 t0:=underlying0
 a0:=isAgg0
 z0:=sizeOf0
 v0:=zeroValue0
 t24:=underlying51
 a24:=isAgg51
 z24:=sizeOf51
 v24:=zeroValue51
 t26:=underlying9
 a26:=isAgg9
 z26:=sizeOf9
 v26:=zeroValue9
 t28:=underlying239
 a28:=isAgg239
 z28:=sizeOf239
 v28:=zeroValue239
 i26:=by kernel_rfl }
def C_:Go.Shelf.Ren:=⟨fun|6=>244|8=>276|9=>275|19=>301|20=>302|21=>292|22=>293|23=>294|24=>295|25=>296|26=>297|27=>298|28=>299|29=>300|36=>320|31=>321|32=>322|37=>323|38=>324|39=>325|41=>336|n=>n,fun|27=>51|29=>9|3=>3|32=>248|26=>51|0=>0|44=>179|46=>27|4=>4|36=>357|35=>356|41=>197|5=>5|9=>9|53=>383|57=>386|63=>390|64=>146|n=>n,fun|n=>n⟩
theorem Hs:Go.Proofs.SlLaysM.n6 prog C_:={
 mixed:=by kernel_rfl
 f6:=⟨f244.name,Zd,func244.trans (congrArg some zk)⟩
 f8:=func276.trans (congrArg some zk)
 f9:=⟨f275.name,Zd,func275.trans (congrArg some zk)⟩
 f19:=func301.trans (congrArg some zk)
 f20:=func302.trans (congrArg some zk)
 f21:=⟨f292.name,Zd,func292.trans (congrArg some zk)⟩
 f22:=⟨f293.name,Zd,func293.trans (congrArg some zk)⟩
 f23:=⟨f294.name,Zd,func294.trans (congrArg some zk)⟩
 f24:=⟨f295.name,Zd,func295.trans (congrArg some zk)⟩
 f25:=⟨f296.name,Zd,func296.trans (congrArg some zk)⟩
 f26:=⟨f297.name,Zd,func297.trans (congrArg some zk)⟩
 f27:=⟨f298.name,Zd,func298.trans (congrArg some zk)⟩
 f28:=⟨f299.name,Zd,func299.trans (congrArg some zk)⟩
 f29:=⟨f300.name,Zd,func300.trans (congrArg some zk)⟩
 f31:=func321.trans (congrArg some zk)
 f32:=func322.trans (congrArg some zk)
 f36:=⟨f320.name,Zd,func320.trans (congrArg some zk)⟩
 f37:=⟨f323.name,Zd,func323.trans (congrArg some zk)⟩
 f38:=⟨f324.name,Zd,func324.trans (congrArg some zk)⟩
 f39:=⟨f325.name,Zd,func325.trans (congrArg some zk)⟩
 f41:=⟨f336.name,Zd,func336.trans (congrArg some zk)⟩
 t0:=underlying0
 a0:=isAgg0
 z0:=sizeOf0
 v0:=zeroValue0
 t3:=underlying3
 a3:=isAgg3
 z3:=sizeOf3
 v3:=zeroValue3
 t4:=underlying4
 a4:=isAgg4
 z4:=sizeOf4
 v4:=zeroValue4
 t5:=underlying5
 a5:=isAgg5
 z5:=sizeOf5
 v5:=zeroValue5
 t9:=underlying9
 a9:=isAgg9
 z9:=sizeOf9
 v9:=zeroValue9
 t26:=underlying51
 a26:=isAgg51
 z26:=sizeOf51
 v26:=zeroValue51
 t27:=underlying51
 a27:=isAgg51
 z27:=sizeOf51
 v27:=zeroValue51
 t29:=underlying9
 a29:=isAgg9
 z29:=sizeOf9
 v29:=zeroValue9
 t32:=underlying248
 a32:=isAgg248
 z32:=sizeOf248
 v32:=zeroValue248
 t35:=underlying356
 a35:=isAgg356
 z35:=sizeOf356
 v35:=zeroValue356
 t36:=underlying357
 a36:=isAgg357
 z36:=sizeOf357
 v36:=zeroValue357
 t41:=underlying197
 a41:=isAgg197
 z41:=sizeOf197
 v41:=zeroValue197
 t44:=underlying179
 a44:=isAgg179
 z44:=sizeOf179
 v44:=zeroValue179
 t46:=underlying27
 a46:=isAgg27
 z46:=sizeOf27
 v46:=zeroValue27
 t53:=underlying383
 a53:=isAgg383
 z53:=sizeOf383
 v53:=zeroValue383
 t57:=underlying386
 a57:=isAgg386
 z57:=sizeOf386
 v57:=zeroValue386
 t63:=underlying390
 a63:=isAgg390
 z63:=sizeOf390
 v63:=zeroValue390
 t64:=underlying146
 a64:=isAgg146
 z64:=sizeOf146
 v64:=zeroValue146 }
def BS:Go.Shelf.Ren:=⟨fun|5=>197|7=>252|n=>n,fun|23=>212|25=>9|3=>3|4=>4|20=>20|n=>n,fun|n=>n⟩
theorem Gb:Go.Proofs.SlLaysW.n5 prog BS:={
 mixed:=by kernel_rfl
 f5:=⟨f197.name,Zd,func197.trans (congrArg some zk)⟩
 f7:=func252.trans (congrArg some zk)
 t4:=underlying4
 a4:=isAgg4
 z4:=sizeOf4
 v4:=zeroValue4
 t20:=underlying20
 a20:=isAgg20
 z20:=sizeOf20
 v20:=zeroValue20
 t23:=underlying212
 a23:=isAgg212
 z23:=sizeOf212
 v23:=zeroValue212 }
def F8:Go.Shelf.Ren:=⟨fun|5=>201|n=>n,fun|23=>212|26=>9|24=>3|27=>277|0=>0|4=>4|n=>n,fun|n=>n⟩
theorem I7:Go.Proofs.SlLaysDf.n5 prog F8:={
 mixed:=by kernel_rfl
 f5:=⟨f201.name,Zd,func201.trans (congrArg some zk)⟩
 t0:=underlying0
 a0:=isAgg0
 z0:=sizeOf0
 v0:=zeroValue0
 t4:=underlying4
 a4:=isAgg4
 z4:=sizeOf4
 v4:=zeroValue4
 t23:=underlying212
 a23:=isAgg212
 z23:=sizeOf212
 v23:=zeroValue212
 a24:=isAgg3
 z24:=sizeOf3
 a26:=isAgg9
 z26:=sizeOf9
 t27:=underlying277
 a27:=isAgg277
 z27:=sizeOf277
 v27:=zeroValue277 }
