/-
  PROVED HERE: what the program's block function of SHA-256 does; no condition.
-/
import Derived.BigQuiet
import Derived.BigRegion
import Derived.Test.YtlopmiaimignkaaGreatDoorPkM00
set_option maxRecDepth 100000
namespace Go.Proofs.YtlopmiaimignkaaGreatDoor
open Go.Proofs.Tryz
open Go.RowKit
theorem Fy(D:Nat->Prop)(A:Option Addr)(n c:Nat)(bs:List UInt8)(w:World)(hB:Bs w D A n bs)(h4:4<=n)(hn:n<=9223372036854775807):
  Calls prog 318 #[.slice A n c] w fun e w'=>e=.returned (.int .u32 (wv (mj bs 0)))/\w=w':=by
 have hl:=hB.len
 obtain⟨b,off,rfl,_,_,hc⟩:=hB.cellAt zo
 have a:=hc 0 zo
 have c1:=hc 1 zo
 have c2:=hc 2 zo
 have d:=hc 3 zo
 rw[Nat.add_zero] at a
 have hw:mj bs 0=Ce (bs[0]'zo) (bs[1]'zo) (bs[2]'zo) (bs[3]'zo):=by
  unfold mj;simp[List.getD_eq_getElem?_getD,hl,show 0<n by omega,show 1<n by omega,show 2<n by omega,show 3<n by omega]
 rw[hw,<- CP]
 generalize bs[0]'_=f at *
 generalize bs[1]'_=g at *
 generalize bs[2]'_=h at *
 generalize bs[3]'_=i at *
 clear hc hB hl hw
 have e3:((n:Int)==3)=false:=by simp;omega
 have e2:((n:Int)==2)=false:=by simp;omega
 have e1:((n:Int)==1)=false:=by simp;omega
 have j:((n:Int)==0)=false:=by simp;omega
 go_in
 go_wp2
 go_ret
 exact⟨rfl,rfl⟩
theorem qu(p o q r:Nat)(D:Nat->Prop)(A:Option Addr)(c:Nat)(bs:List UInt8)(s:Nat->BitVec 32)(w:World)(hB:Bs w D A 64 bs)(hc:64<=c)(hs:h_ w p o 8 s)(hkq:h_ w q r 64 kAt):
  Calls prog 291 #[.pointer (some ⟨p,o,none⟩),.slice A 64 c,.pointer (some ⟨q,r,none⟩)] w fun e w'=>e=.returned (.tuple #[])/\h_ w' p o 8 (lS s bs) /\
   b_ (fun b=>b≠p) w w'/\(∀j,j<o\/o+8<=j->w'.cell? ⟨p,j,none⟩=w.cell? ⟨p,j,none⟩)/\(∀j,w'.frozen? ⟨p,j,none⟩=w.frozen? ⟨p,j,none⟩):=by
 go_in
 go_wp2
 generalize C:w.alloc _=M
 have hz:h_ M w.heap.size 0 64 (fun _=>0#32):=by rw[<- C];exact h_.zero w _ 64
 have F:New w M:=by rw[<- C];exact(zN w).alloc _
 clear C
 obtain⟨g,hg,G⟩:∃g,g=w.heap.size/\w.heap.size<=g:=⟨_,rfl,zr⟩
 rw[<- hg] at hz ⊢
 clear hg
 have hl:=hB.len
 go_loopw [26] (fun i wr=>∃k:Nat,k<=16/\i=.int .i64 k/\New w wr/\h_ wr g 0 64 (fun j=>if j<k then mj bs j else 0#32)) (fun i _=>16-(intOf i).toNat)
 case atStart=>exact⟨0,Nat.zero_le _,rfl,F,hz.congr (fun j _=>by simp)⟩
 obtain⟨k,hk,rfl,t,m⟩:=hrel
 by_cases hlt:k<16
 ·have hcut:=Bs.from_ (hB.new t) (l:=k*4) zo
  have he:mj (bs.drop (k*4)) 0=mj bs k:=by
   unfold mj;simp only[List.getD_eq_getElem?_getD,List.getElem?_drop,Nat.mul_comm k 4,Nat.mul_zero,Nat.add_zero,Nat.zero_add]
  have Z:=zh he
  clear he
  have aa:=m.cell0 (j:=k) zo
  have hfl:=m.free0 (j:=k) zo
  go_wp2_with fail
  refine(Fy D _ _ _ _ _ hcut zo zo).mono ?_
  rintro e w'⟨rfl,rfl⟩
  rw[Z.out]
  go_wp2
  go_roundw
  case rel =>
   refine⟨k+1,zo,by go_num,t.setCell (fun _=>G) _,(m.set0 (k:=k) zo (mj bs k)).congr fun j _=>?_⟩
   by_cases h1:j=k
   ·subst h1;simp
   simp only[h1,if_false];by_cases h2:j<k
   ·rw[if_pos h2,if_pos zo]
   rw[if_neg h2,if_neg zo]
  simp[intOf];omega
 obtain rfl:k=16:=by omega
 rw[show((16:Nat):Int)=16 from rfl]
 clear hlt hz F
 have E:h_ wr g 0 64 (fun j=>if j<16 then mj bs j else 0#32):=m
 clear m
 go_wp2_with fail
 go_loopw [8] (fun i u=>∃k:Nat,16<=k/\k<=64/\i=.int .i64 k/\New w u/\∃f,h_ u g 0 64 f/\∀j,j<k->f j=ly bs j) (fun i _=>64-(intOf i).toNat)
 case atStart=>exact⟨16,zo,zo,rfl,t,_,E,fun j hj=>by rw[if_pos hj,ES bs hj]⟩
 clear E t
 obtain⟨k,H,N,rfl,t,f,m,hf⟩:=hrel
 by_cases hlt:k<64
 ·have O:=m.cell0 (j:=k-15) zo
  have c2:=m.cell0 (j:=k-2) zo
  have P:=m.cell0 (j:=k-16) zo
  have c7:=m.cell0 (j:=k-7) zo
  have K:=m.cell0 (j:=k) zo
  have fk:=m.free0 (j:=k) zo
  go_wp2_with fail
  go_quiet (fail)
  go_wp2_with (first|(go_at_call 319;(first|(with_reducible refine(JB _ _).mono ?_)|(with_reducible refine(IZ _ _).mono ?_)|(with_reducible refine(I1 _ _).mono ?_)|(with_reducible refine(IY _ _).mono ?_));rintro e w' ⟨rfl,rfl⟩))
  go_region
  have x:=(m.drewN (nq+1)).set0 (k:=k) zo (f (k-16)+(l5 (f (k-15)) 7 ^^^ l5 (f (k-15)) 18 ^^^ f (k-15) >>> 3)+f (k-7)+(l5 (f (k-2)) 17 ^^^ l5 (f (k-2)) 19 ^^^ f (k-2) >>> 10))
  clear O c2 P c7 K fk
  go_wp2
  go_roundw
  case rel =>
   refine⟨k+1,zo,zo,by go_num,(t.drewN _).setCell (fun _=>G) _,_,x,fun j hj=>?_⟩
   by_cases h1:j=k
   ·subst h1
    rw[if_pos rfl,ET bs H,hf _ zo,hf _ zo,hf _ zo,hf _ zo];rfl
   rw[if_neg h1];exact hf j zo
  simp[intOf];omega
 obtain rfl:k=64:=by omega
 have I:∀j,j<64->f j=ly bs j:=hf
 replace m:h_ wr g 0 64 (ly bs):=m.congr I
 clear hf I hlt H N
 have Q:=hs.lt Zd
 have hq:=hkq.lt Zd
 have n:=hs.keep t trivial
 have v:=hkq.keep t trivial
 have R:=n.cell (j:=0) zo
 have s1:=n.cell (j:=1) zo
 have s2:=n.cell (j:=2) zo
 have s3:=n.cell (j:=3) zo
 have s4:=n.cell (j:=4) zo
 have s5:=n.cell (j:=5) zo
 have s6:=n.cell (j:=6) zo
 have s7:=n.cell (j:=7) zo
 rw[Nat.add_zero] at R
 rw[show((64:Nat):Int)=64 from rfl]
 go_wp2_with fail
 go_quiet (fail)
 clear R s1 s2 s3 s4 s5 s6 s7
 go_wp2_with fail
 go_loopw [13,14,15,16,17,18,19,20,112] (fun a b c d e f g' h i u=>∃k:Nat,k<=64/\i=.int .i64 k/\New w u/\h_ u g 0 64 (ly bs)/\h_ u q r 64 kAt/\h_ u p o 8 s/\∃S:S8,S=(S8.of s).rounds bs k/\a=.int .u32 (wv S.a)/\b=.int .u32 (wv S.b)/\c=.int .u32 (wv S.c)/\d=.int .u32 (wv S.d)/\e=.int .u32 (wv S.e)/\f=.int .u32 (wv S.f)/\g'=.int .u32 (wv S.g)/\h=.int .u32 (wv S.h)) (fun _ _ _ _ _ _ _ _ i _=>64-(intOf i).toNat)
 case atStart=>exact⟨0,zo,rfl,t.drewN _,m,v,n,S8.of s,rfl,rfl,rfl,rfl,rfl,rfl,rfl,rfl,rfl⟩
 clear t m v n
 obtain⟨k,hk,rfl,t,m,v,n,S,T,rfl,rfl,rfl,rfl,rfl,rfl,rfl,rfl⟩:=hrel
 have U:=zh T
 clear T
 by_cases hlt:k<64
 ·have cw:=m.cell0 (j:=k) zo
  have K:=v.cell (j:=k) zo
  go_wp2_with fail
  go_quiet ((go_at_call 319;exact AK (by with_reducible first|exact(JC _ _)|exact(I3 _ _)|exact(IW _ _))))
  clear cw K
  go_wp2_with (first|(go_at_call 319;(first|(with_reducible refine(JD _ _).mono ?_)|(with_reducible refine(I2 _ _).mono ?_)|(with_reducible refine(IX _ _).mono ?_));rintro e w' ⟨rfl,rfl⟩))
  go_roundw
  case rel =>
   exact⟨k+1,zo,by go_num,t.drewN _,m.drewN _,v.drewN _,n.drewN _,S.round (kAt k) (ly bs k),by rw[U.out];rfl,rfl,rfl,rfl,rfl,rfl,rfl,rfl,rfl⟩
  simp[intOf];omega
 obtain rfl:k=64:=by omega
 rw[show((64:Nat):Int)=64 from rfl]
 clear hlt m v
 go_wp2_with fail
 generalize z:wr.alloc _=L
 have hm:h_ L wr.heap.size 0 8 S.get:=by rw[<- z];exact S8.made8 wr _ S
 have B:New w L:=by rw[<- z];exact t.alloc _
 have J:h_ L p o 8 s:=by rw[<- z];exact n.keep ((zN wr).alloc _) trivial
 have V:w.heap.size<=wr.heap.size:=t.size
 clear z n t
 generalize wr.heap.size=h at hm V ⊢
 have W:p≠h:=by omega
 go_loopw [187] (fun i u=>∃k:Nat,k<=8/\i=.int .i64 k/\b_ (fun b=>b≠p) w u/\h_ u h 0 8 S.get/\h_ u p o 8 (fun j=>if j<k then s j+S.get j else s j)/\(∀j,j<o\/o+8<=j->u.cell? ⟨p,j,none⟩=w.cell? ⟨p,j,none⟩)/\∀j,u.frozen? ⟨p,j,none⟩=w.frozen? ⟨p,j,none⟩) (fun i _=>8-(intOf i).toNat)
 case atStart=>exact⟨0,zo,rfl,b_.Qe B,hm,J.congr (fun j _=>by simp),fun j _=>B.cell Q zt,fun j=>B.frozen Q zt⟩
 clear hm B J
 obtain⟨k,hk,rfl,t,hm,n,y,hfr⟩:=hrel
 by_cases hlt:k<8
 ·have cn:=hm.cell0 (j:=k) zo
  have X:=n.cell (j:=k) zo
  have fs:=n.free (j:=k) zo
  have Y:=(hm.drewN 1).far (p:=⟨p,o+k,none⟩) (.inl W) (.int .u32 (wv (s k+S.get k)))
  have x:=(n.drewN 1).set (k:=k) hlt (s k+S.get k)
  rw[if_neg (Nat.lt_irrefl k)] at X
  go_wp2_with fail
  have HO:=zh y
  have HF:=zh hfr
  clear y hfr hm
  go_region
  clear cn X fs
  go_wp2
  go_roundw
  case rel =>
   refine⟨k+1,zo,by go_num,(t.drew).setCell (fun hb=>absurd rfl hb) _,?_,x.congr fun j _=>?_,fun j hj=>?_,fun j=>?_⟩
   ·exact Y
   ·by_cases h1:j=k
    ·subst h1;rw[if_pos rfl,if_pos zo]
    rw[if_neg h1];by_cases h2:j<k
    ·rw[if_pos h2,if_pos zo]
    rw[if_neg h2,if_neg zo]
   ·exact(World.cell?_setCell_other wr _ _ _ (by intro hh;injection hh;omega)).trans (HO.out j hj)
   exact(World.frozen?_setCell wr _ _ _).trans (HF.out j)
  simp[intOf];omega
 obtain rfl:k=8:=by omega
 go_wp2
 go_end0
 refine⟨rfl,n.congr fun j hj=>?_,t,y,hfr⟩
 rw[if_pos hj,U.out];rfl
