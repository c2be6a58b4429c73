/-
  PROVED HERE: what segment.Build answers; conditions: lengths that a slice may have.
-/
import Derived.Test.YtlopmiaimignkaaGreatDoorPkM08
set_option maxRecDepth 100000
set_option maxHeartbeats 2000000
namespace Go.Proofs.YtlopmiaimignkaaGreatDoor
open Go.Proofs.Tryz
open Go.RowKit
def kZ:Int->List eA->Bool
 | _,[]=>true
 | s,r::rs=>decide (r.seq=s)&&kZ (s+1) rs
theorem lZ:∀(s:Int) (rs:List eA),kZ s rs=true↔∀k (h:k<rs.length),rs[k].seq=s+k
 | s,[]=>by simp[kZ]
 | s,r::rs=>by
  rw[kZ,Bool.and_eq_true,decide_eq_true_eq,lZ (s+1) rs]
  constructor
  ·rintro⟨h1,h2⟩ k hk
   rcases k with _|k
   ·simpa using h1
   have:=h2 k (by simpa using hk);simp only[List.getElem_cons_succ];omega
  intro h
  refine⟨by have:=h 0 (by simp);rw[List.getElem_cons_zero] at this;simpa using this,fun k hk=>?_⟩
  have:=h (k+1) (by simpa using hk)
  simp only[List.getElem_cons_succ] at this;omega
def j0(index first:Int)(n:Nat)(rs:List eA):Bool:=decide (0<=index/\index<=65535/\first<=1099511627776/\n=32/\rs.length≠0/\rs.length<=i8 942 rs)
def iL(index first:Int)(prev:List UInt8)(rs:List eA):List UInt8 :=
 beI 2 index++beI 8 first++beI 2 rs.length++beI 2 (dW rs).flatten.length++prev++iw (dW rs)
def gh(index first:Int)(prev:List UInt8)(rs:List eA):List UInt8 :=
 iL index first prev rs++be4 (fp (iL index first prev rs))++(dW rs).flatten++List.replicate (942-(dW rs).flatten.length) 0
theorem mI(r:eA)(h:dZ r=true):(gS r).length=eU r:=by
 have:r.body.length<=900:=by unfold dZ at h;simp at h;omega
 rw[pI];unfold eU;rw[if_pos h];omega
theorem qS:∀(left:Nat) (rs:List eA),rs.length<=i8 left rs->(∀r∈rs,dZ r=true)/\(dW rs).flatten.length<=left/\15*rs.length<=left
 | left,[],_=>⟨by simp,by simp[dW],by simp⟩
 | left,r::rs,h=>by
  unfold i8 at h
  split at h
  ·rename_i hc
   obtain⟨h1,h2,h3⟩:=qS (left-eU r) rs (by simpa using h)
   have hs:=mI r hc.1
   have b:15<=eU r:=by unfold eU;rw[if_pos hc.1];omega
   refine⟨fun x a=>?_,?_,?_⟩
   ·rcases List.mem_cons.1 a with e|e
    ·rw[e];exact hc.1
    exact h1 x e
   ·have e:dW (r::rs)=gS r::dW rs:=by unfold dW;rw[List.map_cons,if_pos hc.1]
    rw[e,List.flatten_cons,zL,hs];omega
   simp only[List.length_cons];omega
  simp at h
theorem k_(index first:Int)(prev:List UInt8)(rs:List eA)(h:prev.length=32):(iL index first prev rs).length=78:=by
 simp only[iL,zL,dL,pG,h]
theorem jq(index first:Int)(prev:List UInt8)(rs:List eA)(h:prev.length=32)(hl:(dW rs).flatten.length<=942):(gh index first prev rs).length=1024:=by
 simp only[gh,zL,k_ index first prev rs h,be4,List.length_cons,List.length_nil,List.length_replicate];omega
theorem DQ(n:Nat):(madeCells (Value.int .u8 0).cells n).toList=(List.replicate n (0:UInt8)).map eE:=by
 simp[madeCells,Value.cells,eE,bv]
 apply List.ext_getElem
 ·simp
 intro i h1 h2;simp[Nat.mod_one]
theorem zJ(_D D2:Nat->Prop)(index first:Int)(A A2:Option Addr)(n c m c2:Nat)(rs:List eA)(w:World)(_hR:mc w D2 A2 m rs)(_hm:m<=9223372036854775807)(h1:index<0):
  Calls prog 34 #[.int .i64 index,.int .u64 first,.slice A n c,.slice A2 m c2] w fun e w'=>e=.returned (.tuple #[.slice none 0 0,.int .i64 1])/\New w w':=by
 clear _hR
 go_in
 go_wp2_with fail
 go_ret2
 exact⟨rfl,zN _⟩
theorem zI(_D D2:Nat->Prop)(index first:Int)(A A2:Option Addr)(n c m c2:Nat)(rs:List eA)(w:World)(_hR:mc w D2 A2 m rs)(_hm:m<=9223372036854775807)(h1:¬(index<0))(h2:65535<index):
  Calls prog 34 #[.int .i64 index,.int .u64 first,.slice A n c,.slice A2 m c2] w fun e w'=>e=.returned (.tuple #[.slice none 0 0,.int .i64 1])/\New w w':=by
 clear _hR
 go_in
 go_wp2_with fail
 go_ret2
 exact⟨rfl,zN _⟩
theorem zH(_D D2:Nat->Prop)(index first:Int)(A A2:Option Addr)(n c m c2:Nat)(rs:List eA)(w:World)(_hR:mc w D2 A2 m rs)(_hm:m<=9223372036854775807)(h1:¬(index<0))(h2:¬(65535<index))(h3:1099511627776<first):
  Calls prog 34 #[.int .i64 index,.int .u64 first,.slice A n c,.slice A2 m c2] w fun e w'=>e=.returned (.tuple #[.slice none 0 0,.int .i64 1])/\New w w':=by
 clear _hR
 go_in
 go_wp2_with fail
 go_ret2
 exact⟨rfl,zN _⟩
theorem zG(_D D2:Nat->Prop)(index first:Int)(A A2:Option Addr)(n c m c2:Nat)(rs:List eA)(w:World)(_hR:mc w D2 A2 m rs)(_hm:m<=9223372036854775807)(h1:¬(index<0))(h2:¬(65535<index))(h3:¬(1099511627776<first))(h4:n≠32):
  Calls prog 34 #[.int .i64 index,.int .u64 first,.slice A n c,.slice A2 m c2] w fun e w'=>e=.returned (.tuple #[.slice none 0 0,.int .i64 1])/\New w w':=by
 have a:((n:Int) !=32)=true:=by simp;omega
 clear _hR h4
 go_in
 go_wp2_with fail
 go_ret2
 exact⟨rfl,zN _⟩
theorem zF(_D D2:Nat->Prop)(index first:Int)(A A2:Option Addr)(n c m c2:Nat)(rs:List eA)(w:World)(_hR:mc w D2 A2 m rs)(_hm:m<=9223372036854775807)(h1:¬(index<0))(h2:¬(65535<index))(h3:¬(1099511627776<first))(h4:¬(n≠32))(h5:m=0):
  Calls prog 34 #[.int .i64 index,.int .u64 first,.slice A n c,.slice A2 m c2] w fun e w'=>e=.returned (.tuple #[.slice none 0 0,.int .i64 1])/\New w w':=by
 have a:((n:Int) !=32)=false:=by simp;omega
 have b:((m:Int)==0)=true:=by simp;omega
 clear _hR h4 h5
 go_in
 go_wp2_with fail
 go_ret2
 exact⟨rfl,zN _⟩
theorem zE(_D D2:Nat->Prop)(index first:Int)(A A2:Option Addr)(n c m c2:Nat)(rs:List eA)(w:World)(hR:mc w D2 A2 m rs)(hm:m<=9223372036854775807)(h1:¬(index<0))(h2:¬(65535<index))(h3:¬(1099511627776<first))(h4:¬(n≠32))(h5:¬(m=0))(h6:i8 942 rs<m):
  Calls prog 34 #[.int .i64 index,.int .u64 first,.slice A n c,.slice A2 m c2] w fun e w'=>e=.returned (.tuple #[.slice none 0 0,.int .i64 1])/\New w w':=by
 have f:((n:Int) !=32)=false:=by simp;omega
 have g:((m:Int)==0)=false:=by simp;omega
 have h:((i8 942 rs:Nat):Int)<m:=by omega
 have b:=zh<|fun w' d=>qR D2 A2 m c2 rs w' (hR.new (w':=w') d) hm
 clear hR h4 h5
 go_in
 go_wp2_with fail
 refine(b.out _ (zN _)).mono ?_
 rintro e i⟨rfl,a⟩
 go_wp2_with fail
 go_ret2
 exact⟨rfl,a⟩
theorem Eu(D D2:Nat->Prop)(index first:Int)(A A2:Option Addr)(n c m c2:Nat)(rs:List eA)(w:World)(hR:mc w D2 A2 m rs)(hm:m<=9223372036854775807)(h:j0 index first n rs=false):
  Calls prog 34 #[.int .i64 index,.int .u64 first,.slice A n c,.slice A2 m c2] w fun e w'=>e=.returned (.tuple #[.slice none 0 0,.int .i64 1])/\New w w':=by
 have hl:=hR.len
 unfold j0 at h
 rw[decide_eq_false_iff_not,hl] at h
 by_cases h1:index<0
 ·exact zJ D D2 index first A A2 n c m c2 rs w hR hm h1
 by_cases h2:65535<index
 ·exact zI D D2 index first A A2 n c m c2 rs w hR hm h1 h2
 by_cases h3:1099511627776<first
 ·exact zH D D2 index first A A2 n c m c2 rs w hR hm h1 h2 h3
 by_cases a:n≠32
 ·exact zG D D2 index first A A2 n c m c2 rs w hR hm h1 h2 h3 a
 by_cases h5:m=0
 ·exact zF D D2 index first A A2 n c m c2 rs w hR hm h1 h2 h3 a h5
 exact zE D D2 index first A A2 n c m c2 rs w hR hm h1 h2 h3 a h5 zo
theorem Gd(D D2:Nat->Prop)(index first:Int)(A A2:Option Addr)(n c m c2:Nat)(pr:List UInt8)(rs:List eA)(w:World)(hB:Bs w D A n pr)(hnc:n<=c)(hR:mc w D2 A2 m rs)(hm:m<=9223372036854775807)(hf0:0<=first)(h:j0 index first n rs=true)(hq:kZ first rs=true):
  Calls prog 34 #[.int .i64 index,.int .u64 first,.slice A n c,.slice A2 m c2] w fun e w'=>(∃A' c',e=.returned (.tuple #[.slice A' 1024 c',.int .i64 0])/\fy w' w.heap.size 5 A' 1024 c' (gh index first pr rs))/\New w w':=by
 have hl:=hR.len
 have S:=hB.len
 unfold j0 at h
 rw[decide_eq_true_eq,hl] at h
 obtain⟨h1,h2,h3,h4,h5,h6⟩:=h
 have bJ:¬index<0:=by omega
 have bK:¬65535<index:=by omega
 have bL:¬1099511627776<first:=by omega
 have bM:((m:Int)==0)=false:=by simp;omega
 have bN:¬((i8 942 rs:Nat):Int)<m:=by omega
 obtain⟨d,hfl,bd⟩:=qS 942 rs zo
 have bH:m<=62:=by omega
 subst h4
 have HF:=zh<|qR D2 A2 m c2 rs w hR hm
 have HR:=zh hR
 have HL:=zh hl
 have T:=lZ first rs
 rw[hq] at T
 have HQ:=zh T
 have be:=zh S
 clear h1 h2 h5 h6 hR hl hq T d hm bd S
 go_in
 go_wp2_with fail
 refine HF.mono ?_
 rintro e w1⟨rfl,ax⟩
 go_wp2_with fail
 go_loopw [44] (fun i wx=>∃k:Nat,k<=m/\i=.int .i64 (k:Int)/\(∀j (h:j<rs.length),j<k->rs[j].seq=first+j)/\New w wx) (fun i _=>m-(intOf i).toNat)
 case atStart=>exact⟨0,Nat.zero_le _,rfl,fun j _ h=>absurd h (Nat.not_lt_zero _),ax⟩
 clear ax
 obtain⟨k,hk,rfl,ay,Q⟩:=hrel
 have bf:=zh ay
 clear ay
 by_cases hlt:k<m
 ·obtain⟨b,off,A',c',rfl,r1,r2,r3,az,hb,bg,bh,hc9⟩:=(HR.new Q).at_ (k:=k) (by rw[HL.out];exact hlt)
  have bi:k<rs.length:=by rw[HL.out];exact hlt
  have HS:Hid (∀j (h:j<rs.length),j<k+1->rs[k].seq=first+k->rs[j].seq=first+j):=zh (fun j h hj he=>by
   by_cases e:j=k
   ·subst e;exact he
   exact bf.out j h zo)
  have HE:=zh<|show rs[k]=rs[k] from rfl
  generalize hr:rs[k]'_=r at r1 r2 r3 az hb bg bh HS
  have bj:=zh hr
  clear hr HE hb az
  have hu:IntKind.u64.wrap (first+(k:Int))=first+(k:Int):=by rw[IntKind.wrap_u64];omega
  by_cases u:r.seq=first+k
  ·have t1:(r.seq !=first+(k:Int))=false:=by rw[u];simp
   have bl:=zh<|fun j h hj=>HS.out j h hj u
   clear u
   go_wp2
   go_roundw
   case rel=>exact⟨k+1,zo,by go_num,bl.out,Q.alloc _⟩
   simp[intOf];omega
  have t1:(r.seq !=first+(k:Int))=true:=by rw[bne_iff_ne];exact u
  go_wp2_with fail
  exact absurd ((congrArg eA.seq bj.symm).trans (HQ.1 trivial k bi)) u
 obtain rfl:k=m:=by omega
 have aA:=hB.new Q
 have aB:=zh<|tV D2 A2 k c2 rs wr (HR.new Q) zo
 clear hB HF hlt
 go_wp2_with fail
 refine aB.mono ?_
 rintro e w2⟨⟨A3,c3,rfl,l⟩,U⟩
 generalize aC:dW rs=ls at l hfl
 have aD:=zh aC
 have aE:=aA.new U
 have G:=Q.new U
 have bm:=l.cap
 have bI:=l.capMax
 clear aC aA U Q aB
 have V:=zh<|qk _ A3 k c3 ls w2 l.bss zo zo
 generalize aF:ls.flatten=all at hfl V
 have W:=zh aF
 clear aF
 go_wp2_with fail
 refine V.mono ?_
 rintro e R⟨⟨A4,c4,rfl,d⟩,v⟩
 go_wp2_with fail
 refine(gV _).mono ?_
 rintro e w4⟨⟨p,rfl,aG⟩,x⟩
 have hlt:w.heap.size<=R.heap.size:=Nat.le_trans G.size v.size
 have aH:=(Row.imp (aE.new v) (E:=fun b=>b<R.heap.size) (fun b hb _=>hb)).new x
 have aI:=(Row.imp (Row.Qc d) (E:=fun b=>b<R.heap.size) (fun b hb _=>hb)).new x
 have aJ:=((l.new v).bss.imp (E:=fun b=>b<R.heap.size) (fun b hb _=>hb)).new x
 have X:b_ (fun b=>b<R.heap.size) w w4:=b_.Qe ((G.new v).new x)
 have bO:=ew d
 clear aE l d v x G V
 generalize R.heap.size=base at *
 go_wp2_with fail
 refine(fR base p _ index w4 aG (by simp)).mono ?_
 rintro e w5⟨rfl,aK,Y⟩
 clear aG
 go_wp2_with fail
 refine(jw base p _ first w5 aK hf0 zo (by simp[dL])).mono ?_
 rintro e w6⟨rfl,aL,Z⟩
 clear aK
 go_wp2_with fail
 refine(fR base p _ k w6 aL (by simp[dL])).mono ?_
 rintro e w7⟨rfl,aM,aa⟩
 clear aL
 go_wp2_with fail
 refine(fR base p _ all.length w7 aM (by simp[dL])).mono ?_
 rintro e w8⟨rfl,aN,ab⟩
 clear aM
 have ac:=(((X.trans Y).trans Z).trans aa).trans ab
 have o:=((Y.trans Z).trans aa).trans ab
 have aO:=aH.keep o (fun b _ h=>h)
 have aP:=aI.keep o (fun b _ h=>h)
 have aQ:=aJ.keep o (fun b _ h=>h)
 clear aH aI aJ X Y Z aa ab o
 have aR:pr.length=32:=be.out
 go_wp2_with fail
 refine(iy base p _ A 32 c _ _ w8 aN aO (by simp[dL])).mono ?_
 rintro e w9⟨rfl,aS,L⟩
 have aT:=aP.keep L (fun b _ h=>h)
 have aU:=aQ.keep L (fun b _ h=>h)
 clear aN aO aP aQ
 go_wp2_with fail
 refine(xU k _ A3 c3 ls w9 aU bm (by rw[W.out];omega) zo zo).mono ?_
 rintro e bn⟨⟨bo,bp,rfl,y⟩,q⟩
 have ad:=aS.keep q (fun _ _=>zt)
 have ae:=aT.new q
 clear aS aU aT
 go_wp2_with fail
 refine(iy base p _ bo 32 bp _ _ bn ad (Row.Qc y) (by simp[dL,aR])).mono ?_
 rintro e aV⟨rfl,a,H⟩
 have af:=ae.keep H (fun b _ h=>h)
 have M:=((ac.trans L).new q).trans H
 replace a:Wr aV base p (iL index first pr rs):=by
  have e:iL index first pr rs=beI 2 index++beI 8 first++beI 2 (k:Int)++beI 2 (all.length:Int)++pr++iw ls:=by
   unfold iL;rw[aD.out,W.out,HL.out]
  rw[e];exact a
 have hH:=k_ index first pr rs aR
 generalize aW:iL index first pr rs=hd at a hH
 have bq:=zh aW
 clear ad y ae L q H ac aW
 go_wp2_with fail
 refine(iI base p _ aV a zo).mono ?_
 rintro e aX⟨⟨bt,bu,rfl,f⟩,s⟩
 rw[hH] at f
 go_wp2_with fail
 refine(pn _ bt 78 bu hd aX (Row.Qc f) zo).mono ?_
 rintro e aY⟨rfl,rfl⟩
 go_wp2_with fail
 refine(ue _ aX).mono ?_
 rintro e aY⟨⟨bx,bz,rfl,z⟩,t⟩
 have ag:=(a.keep s (fun _ _=>zt)).keep t (fun _ _=>zt)
 have ah:=(af.new s).new t
 clear a af f
 go_wp2_with fail
 refine(iy base p _ bx 4 bz _ _ aY ag (Row.Qc z) zo).mono ?_
 rintro e bA⟨rfl,I,J⟩
 have ai:=ah.keep J (fun b _ h=>h)
 have aw:=((M.new s).new t).trans J
 have aj:(hd++be4 (fp hd)).length=82:=by rw[zL,hH];rfl
 clear ag ah z s t J M
 generalize B:hd++be4 (fp hd)=aZ at I aj
 have bB:=zh B
 clear B
 go_wp2_with fail
 refine(iy base p _ A4 _ c4 _ _ bA I ai zo).mono ?_
 rintro e N⟨rfl,g,ak⟩
 have O:=aw.trans ak
 have al:(aZ++all).length=82+all.length:=by rw[zL,aj]
 clear I ai ak
 generalize B:aZ++all=am at g al
 have bC:=zh B
 clear B
 have an:942-(all.length:Int)=((942-all.length:Nat):Int):=zo
 obtain⟨i,hi,a1,a2,a6⟩:=info_parts nV
 have bD:base<=N.heap.size:=Nat.le_trans g.hp (Nat.le_of_lt g.lt)
 have a7:i.bytes*(942-all.length)<=281474976710656:=by rw[a6];omega
 have a8:942-all.length<=maxLen:=by unfold maxLen;omega
 have ao:=zh an
 clear an a6
 go_wp2_with (at_make;refine wpList_make_full _ rfl _ _ 22 rfl base 5 i _ 1 underlying22 hi a1 a2 _ _ _ _ (942-all.length) rfl rfl ao.out ao.out a7 a8 bD ?_;intro ap C aq)
 have K:New N ap:=(zN N).grown aq (fun _ h=>absurd h (by simp))
 have ar:Bs ap (fun b=>base<=b) (some ⟨N.heap.size,0,none⟩) (942-all.length) (List.replicate (942-all.length) 0):=by
  have:=Row.Qc C
  rwa[Nat.mul_one,DQ] at this
 have au:=g.keep K (fun _ _=>zt)
 clear C aq g hi a1 a2 a7 a8
 refine(iy base p _ _ _ _ _ _ ap au ar zo).mono ?_
 rintro e bE⟨rfl,ba,av⟩
 have P:=(O.new K).trans av
 have HS:Hid (gh index first pr rs=am++List.replicate (942-all.length) 0):=zh (by
  unfold gh;rw[bq.out,aD.out,W.out,bB.out,bC.out])
 have bb:(am++List.replicate (942-all.length) 0).length=1024:=by rw[zL,List.length_replicate,al];omega
 clear au ar av O K
 generalize am++List.replicate (942-all.length) 0=bP at *
 go_wp2_with fail
 refine(iI base p _ bE ba zo).mono ?_
 rintro e bQ⟨⟨bF,bG,rfl,F⟩,bc⟩
 rw[bb] at F ⊢
 go_wp2_with fail
 go_ret2
 exact⟨⟨bF,bG,rfl,by rw[HS.out];exact eQ F P.size⟩,(P.Qi (fun i hi=>Nat.lt_of_lt_of_le hi hlt)).new bc⟩
theorem BV(D D2:Nat->Prop)(index first:Int)(A A2:Option Addr)(n c m c2:Nat)(pr:List UInt8)(rs:List eA)(w:World)(hB:Bs w D A n pr)(hnc:n<=c)(hR:mc w D2 A2 m rs)(hm:m<=9223372036854775807)(hf0:0<=first)(h:j0 index first n rs=true)(hq:kZ first rs=false):
  Calls prog 34 #[.int .i64 index,.int .u64 first,.slice A n c,.slice A2 m c2] w fun e w'=>e=.returned (.tuple #[.slice none 0 0,.int .i64 12])/\New w w':=by
 have hl:=hR.len
 have p:=hB.len
 unfold j0 at h
 rw[decide_eq_true_eq,hl] at h
 obtain⟨h1,h2,h3,B,h5,h6⟩:=h
 have O:¬index<0:=by omega
 have P:¬65535<index:=by omega
 have Q:¬1099511627776<first:=by omega
 have R:((m:Int)==0)=false:=by simp;omega
 have S:¬((i8 942 rs:Nat):Int)<m:=by omega
 obtain⟨q,hfl,u⟩:=qS 942 rs zo
 have C:m<=62:=by omega
 subst B
 have E:=zh<|qR D2 A2 m c2 rs w hR hm
 have F:=zh hR
 have s:=zh hl
 have d:=lZ first rs
 rw[hq] at d
 have G:=zh d
 clear h1 h2 h5 h6 hR hl hq d q hm u p
 go_in
 go_wp2_with fail
 refine E.mono ?_
 rintro e U⟨rfl,f⟩
 go_wp2_with fail
 go_loopw [44] (fun i H=>∃k:Nat,k<=m/\i=.int .i64 (k:Int)/\(∀j (h:j<rs.length),j<k->rs[j].seq=first+j)/\New w H) (fun i _=>m-(intOf i).toNat)
 case atStart=>exact⟨0,Nat.zero_le _,rfl,fun j _ h=>absurd h (Nat.not_lt_zero _),f⟩
 clear f
 obtain⟨k,hk,rfl,g,t⟩:=hrel
 have l:=zh g
 clear g
 by_cases hlt:k<m
 ·obtain⟨b,off,V,W,rfl,I,J,K,o,hb,v,x,hc9⟩:=(F.new t).at_ (k:=k) (by rw[s.out];exact hlt)
  have T:k<rs.length:=by rw[s.out];exact hlt
  have y:Hid (∀j (h:j<rs.length),j<k+1->rs[k].seq=first+k->rs[j].seq=first+j):=zh (fun j h hj he=>by
   by_cases e:j=k
   ·subst e;exact he
   exact l.out j h zo)
  have L:=zh<|show rs[k]=rs[k] from rfl
  generalize M:rs[k]'_=r at I J K o hb v x y
  clear M L hb o
  have X:IntKind.u64.wrap (first+(k:Int))=first+(k:Int):=by rw[IntKind.wrap_u64];omega
  by_cases a:r.seq=first+k
  ·have N:(r.seq !=first+(k:Int))=false:=by rw[a];simp
   have z:=zh<|fun j h hj=>y.out j h hj a
   clear a
   go_wp2
   go_roundw
   case rel=>exact⟨k+1,zo,by go_num,z.out,t.alloc _⟩
   simp[intOf];omega
  have N:(r.seq !=first+(k:Int))=true:=by rw[bne_iff_ne];exact a
  go_wp2_with fail
  go_ret2
  exact⟨rfl,t.alloc _⟩
 obtain rfl:k=m:=by omega
 exact absurd (G.2 (fun j hj=>l.out j hj (by rw[s.out] at hj;omega))) (by simp)
