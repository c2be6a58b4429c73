/-
  PROVED HERE: parts of a law's walk, each under the conditions that its statement names.
-/
import Derived.Test.YtlopmiaimignkaaGreatDoorPkM11
set_option maxRecDepth 100000
set_option maxHeartbeats 2000000
namespace Go.Proofs.YtlopmiaimignkaaGreatDoor
open Go.Proofs.Tryz
open Go.RowKit
variable{s:RdS}{n:Int}{bs:List UInt8}{r:eA}
def ip(first:Int):Nat->Nat->List UInt8->Option (List eA×List UInt8)
 | 0,_,bs=>some ([],bs)
 | m+1,i,bs=>if (gz bs).2.2≠0 then none else if (gz bs).1.seq≠IntKind.u64.wrap (first+i) then none else(ip first m (i+1) (bs.drop (gz bs).2.1)).map fun p=>((gz bs).1::p.1,p.2)
theorem Dz(bs:List UInt8):0<=(gz bs).1.seq/\(gz bs).1.seq<=18446744073709551615/\(gz bs).2.1<=bs.length:=by
 unfold gz
 split
 ·simp[nk]
 split
 ·simp[nk]
 split
 ·simp[nk]
 split
 ·simp[nk]
 rename_i h0 h1 h2 h3
 refine⟨?_,?_,?_⟩
 ·exact Int.natCast_nonneg _
 ·have:=lG ((RdS.mk bs 0).num 1).2 8
  show((((RdS.mk bs 0).num 1).2.num 8).1:Int)<=_
  omega
 show bs.length-(((RdS.mk bs 0).num 1).2.num 8).2.Qj.2.left+4<=bs.length
 have b:¬((((RdS.mk bs 0).num 1).2.num 8).2.Qj.2.raw 4).1.length<4:=h1
 have h5:=(((((RdS.mk bs 0).num 1).2.num 8).2.Qj.2).raw_le 4)
 have h6:=vD (((RdS.mk bs 0).num 1).2.num 8).2
 have h7:=((RdS.mk bs 0).raw_le 1).2.1
 have c:=(((RdS.mk bs 0).num 1).2.raw_le 8).2.1
 have f:(((RdS.mk bs 0).num 1).2.num 8).2.bs.length<=((RdS.mk bs 0).num 1).2.bs.length:=c
 have d:((RdS.mk bs 0).num 1).2.bs.length<=bs.length:=h7
 generalize (((RdS.mk bs 0).num 1).2.num 8).2=q at *
 generalize q.Qj=a at *
 have hw:a.2.why=0:=by
  by_cases e:a.2.why=0
  ·exact e
  rw[a.2.Qo 4 (.inl e)] at b;simp at b
 unfold RdS.left
 rw[if_neg (by simpa using hw)]
 omega
def re(o:Option (List eA×List UInt8))(base:Nat)(e:Ending)(w':World):Prop :=
 match o with
 | none=>e=.returned (.tuple #[.slice none 0 0,.bool false])
 | some (rs,rest)=>∃A' c',e=.returned (.tuple #[.slice A' rs.length c',.bool (decide (rest.length=0))])/\eK w' base (fun b=>base<=b) A' rs.length c' rs
theorem yd(D:Nat->Prop)(A A1 A2:Option Addr)(n c n1 c1 n2 c2:Nat)(bs:List UInt8)(ix fi by':Int)(co:Nat)(w:World)(hB:Bs w D A n bs)(hnc:n<=c)(hc9:c<=9223372036854775807)(hn:n<=1099511627776)(hco:co<=65535)(_hf0:0<=fi)(_hf1:fi<=18446744073709551615):
  Calls prog 119 #[.slice A n c,.agg #[.int .i64 ix,.int .u64 fi,.int .i64 co,.int .i64 by',.slice A1 n1 c1,.slice A2 n2 c2]] w fun e w' =>
   re (ip fi co 0 bs) w.heap.size e w'/\New w w':=by
 have ac:=zh hB
 have V:(w.alloc (.cells #[.int .i64 ix,.int .u64 fi,.int .i64 co,.int .i64 by',.slice A1 n1 c1,.slice A2 n2 c2] 94)).heap[w.heap.size]?=some (.cells #[.int .i64 ix,.int .u64 fi,.int .i64 co,.int .i64 by',.slice A1 n1 c1,.slice A2 n2 c2] 94 (0,0)):=heap_alloc_new w _
 have z:New w (w.alloc (.cells #[.int .i64 ix,.int .u64 fi,.int .i64 co,.int .i64 by',.slice A1 n1 c1,.slice A2 n2 c2] 94)):=(zN w).alloc _
 have HB:=zh V
 have hlt:w.heap.size<(w.alloc (.cells #[.int .i64 ix,.int .u64 fi,.int .i64 co,.int .i64 by',.slice A1 n1 c1,.slice A2 n2 c2] 94)).heap.size:=by simp
 clear V
 go_in
 go_wp2_with fail
 generalize w.alloc _=N at *
 have aw:=a_ HB.out (k:=2) rfl
 go_wp2_with fail
 go_loopw [0,6,13] (fun s0 s6 i wx=>∃(k:Nat) (u:Option Addr) (a y:Nat) (F:Option Addr) (I:Nat) (bk:List UInt8) (rs:List eA),k<=co/\i=.int .i64 (k:Int)/\s0=.slice u a y/\s6=.slice F k I/\a<=y/\y<=9223372036854775807/\a<=1099511627776/\Bs wx (fun b=>b<w.heap.size) u a bk/\eK wx N.heap.size (fun b=>w.heap.size<=b) F k I rs/\New N wx /\
  ip fi co 0 bs=(ip fi (co-k) k bk).map fun p=>(rs++p.1,p.2)) (fun _ _ i _=>co-(intOf i).toNat)
 case atStart=>exact⟨0,A,n,c,none,0,bs,[],Nat.zero_le _,rfl,rfl,rfl,hnc,hc9,hn,Row.new (ac.imp fun _ h _=>h) z,eK.nil _ _ _,zN _,by cases h:ip fi co 0 bs <;> simp ⟩
 clear hnc hc9 hn
 obtain⟨k,u,a,y,F,I,bk,rs,hk,rfl,rfl,rfl,hnc,hc9,hn,hB,J,hK,W⟩:=hrel
 have ax:IntKind.u64.wrap (k:Int)=k:=by rw[IntKind.wrap_u64];omega
 have O:=zh J
 have B:=zh hB
 have P:=zh W
 have s:=zh hK
 clear J hB W hK
 by_cases ay:k<co
 ·have Q:Hid (ip fi (co-k) k bk=if (gz bk).2.2≠0 then none else if (gz bk).1.seq≠IntKind.u64.wrap (fi+k) then none else(ip fi (co-(k+1)) (k+1) (bk.drop (gz bk).2.1)).map fun p=>((gz bk).1::p.1,p.2)):=zh (by
   rw[show co-k=(co-(k+1))+1 from by omega,ip])
  have HD:=zh<|BL _ u a y bk wr B.out hnc hn
  have R:=zh<|Dz bk
  generalize gz bk=d at *
  obtain⟨r,m,X⟩:=d
  dsimp only at Q R
  go_wp2_with fail
  refine HD.mono ?_
  rintro e o⟨⟨G,H,rfl,C⟩,K⟩
  have L:=zh C
  have f:=zh K
  have au:w.heap.size<o.heap.size:=Nat.lt_of_lt_of_le (Nat.lt_of_lt_of_le hlt s.size) f.size
  have az:o.cell? ⟨w.heap.size,1,none⟩=some (.int .u64 fi):=a_ (K.Qa (s.Qa HB.out zt) zt) (k:=1) rfl
  clear C K
  by_cases hy:X=0
  ·subst hy
   by_cases hq:r.seq=IntKind.u64.wrap (fi+k)
   ·have ad:(r.seq !=IntKind.u64.wrap (fi+k))=false:=by simpa using hq
    have l:Hid (ip fi co 0 bs=(ip fi (co-(k+1)) (k+1) (bk.drop m)).map fun p=>((rs++[r])++p.1,p.2)):=zh (by
     rw[P.out,Q.out,if_neg (by simp),if_neg (by simpa using hq)];cases ip fi (co-(k+1)) (k+1) (bk.drop m) <;> simp)
    clear hq
    have t:New o ((o.alloc (.cells #[.int .i64 r.kind,.int .u64 r.seq,.slice G r.body.length H] 45)).alloc (.cells #[.int .i64 r.kind,.int .u64 r.seq,.slice G r.body.length H] 45)):=((zN o).alloc _).alloc _
    have q:=(O.new f.out).new t
    have Y:w.heap.size<=wr.heap.size:=Nat.le_trans (Nat.le_of_lt hlt) s.size
    have ae:=(Row.imp ((O.new f.out).apart L.out) (E:=fun b=>w.heap.size<=b/\some b≠blk F) (fun b _ h=>⟨Nat.le_trans Y h.1,h.2⟩)).new t
    have M:=Row.made (o.alloc (.cells #[.int .i64 r.kind,.int .u64 r.seq,.slice G r.body.length H] 45)) 45 #[.int .i64 r.kind,.int .u64 r.seq,.slice G r.body.length H] 1 3 rfl
    rw[show(o.alloc (.cells #[.int .i64 r.kind,.int .u64 r.seq,.slice G r.body.length H] 45)).heap.size=o.heap.size+1 from by simp] at M
    have af:=ew L.out
    have ab:=eh L.out
    have ag:=R.1
    have ah:=R.2.1
    have ai:k+1<=1099511627776:=by omega
    have aj:=Nat.le_trans s.size (Nat.le_trans f.size t.size)
    have ak:m<=a:=by have:=R.2.2;have:=B.len;omega
    clear Y
    go_wp2_with (at_builtin;refine Gn _ rfl (.tmp 34) (.tmp 36) rfl N.heap.size (fun b=>w.heap.size<=b) F k I _ rfl q (fun g=>o.heap.size+1<=g) _ 1 G H r rfl M ae af ab ag ah ai aj ?_;intro A3 c3 S T Z av)
    have al:New N S:=((s.new f.out).new t).grown Z (fun j hj _=>(q.lt j hj).1)
    have am:=zh T
    have U:Bs S (fun b=>b<w.heap.size) (if y=m then u else Option.map (fun x=>x.add m) u) (a-m) (bk.drop m):=by
     have an:=(B.new f.out).new t
     have ao:b_ (fun b=>b<w.heap.size) _ S:=(b_.refl _ _).grown Z (fun j hj hd=>absurd hd (by have:=(q.lt j hj).1;omega))
     have aa:Bs S (fun b=>b<w.heap.size) u a bk:=Row.keep an ao (fun _ _ h=>h)
     have aA:=aa.len
     by_cases e:y=m
     ·have e1:a-m=0:=by omega
      have e2:bk.drop m=[]:=List.drop_eq_nil_of_le zo
      rw[e1,e2];exact Row.nil _ _ _ _
     rw[if_neg e];exact Bs.from_ aa ak
    go_roundw
    case rel=>exact⟨k+1,_,_,_,_,_,_,_,zo,by go_num,rfl,rfl,zo,zo,zo,U,am.out,al,l.out⟩
    simp[intOf];omega
   have ad:(r.seq !=IntKind.u64.wrap (fi+k))=true:=by simpa using hq
   have l:Hid (ip fi co 0 bs=none):=zh (by rw[P.out,Q.out,if_neg (by simp),if_pos (by simpa using hq)];rfl)
   clear hq
   go_wp2
   refine Zb (.tuple #[.slice none 0 0,.bool false]) (by simp[results,results119,go_sem]) ?_
   rw[l.out]
   exact⟨rfl,(z.new (s.new f.out)).alloc _⟩
  have aB:(X !=0)=true:=by simpa using hy
  have l:Hid (ip fi co 0 bs=none):=zh (by rw[P.out,Q.out,if_pos hy];rfl)
  go_wp2
  refine Zb (.tuple #[.slice none 0 0,.bool false]) (by simp[results,results119,go_sem]) ?_
  rw[l.out]
  exact⟨rfl,(z.new (s.new f.out)).alloc _⟩
 obtain rfl:k=co:=by omega
 go_wp2_with fail
 have l:Hid (ip fi k 0 bs=some (rs,bk)):=zh (by rw[P.out,Nat.sub_self,ip];simp)
 have ap:Hid (bk.length=a):=zh B.len
 have aq:Hid (rs.length=k):=zh O.len
 have ar:((a:Int)==0)=decide (a=0):=by rw[Bool.eq_iff_iff];simp
 refine Zb (.tuple #[.slice F k I,.bool (decide (a=0))]) (by simp[results,results119,go_sem,ar]) ?_
 rw[l.out]
 unfold re
 dsimp only
 rw[ap.out,aq.out]
 obtain⟨vs,o1,o2,o3⟩:=O.out
 exact⟨⟨_,_,rfl,vs,eQ o1 (Nat.le_of_lt hlt),o2,o3⟩,z.new s.out⟩
theorem kJ(a:BitVec 32):(be4 a).length=4:=rfl
theorem ux(s:Nat)(n:Int):beI (s+1) n=beI s (n/256)++[UInt8.ofNat (n%256).toNat]:=by
 unfold beI
 rw[List.range_succ,List.map_append,List.map_singleton]
 congr 1
 ·apply List.map_congr_left
  intro i hi
  have hi:=List.mem_range.1 hi
  have e:(n/256)/2^(8*(s-1-i))=n/2^(8*(s+1-1-i)):=by
   rw[Int.ediv_ediv_of_nonneg Zd,show(256:Int)=2^8 from rfl,<- Int.pow_add,show 8+8*(s-1-i)=8*(s+1-1-i) from by omega]
  rw[e]
 simp
theorem j1:∀(s:Nat) (n:Int),0<=n->n<256^s->(fG (beI s n):Int)=n
 | 0,n,h0,h1=>by simp at h1;have:n=0:=zo;subst this;rfl
 | s+1,n,h0,h1=>by
  have ih:=j1 s (n/256) zo (by rw[Int.pow_succ] at h1;omega)
  rw[ux,oc]
  have e:(UInt8.ofNat (n%256).toNat).toNat=(n%256).toNat:=by simp;omega
  rw[e]
  omega
theorem rM:∀(s:Nat) (bs:List UInt8),bs.length=s->beI s (fG bs:Nat)=bs
 | 0,bs,h=>by rw[List.eq_nil_of_length_eq_zero h];rfl
 | s+1,bs,h=>by
  rcases List.eq_nil_or_concat bs with rfl|⟨l,b,rfl⟩
  ·simp at h
  have hl:l.length=s:=by simpa using h
  rw[List.concat_eq_append,oc,ux]
  have hb:=b.toNat_lt
  have e1:((fG l*256+b.toNat:Nat):Int)/256=(fG l:Nat):=zo
  have e2:(((fG l*256+b.toNat:Nat):Int)%256).toNat=b.toNat:=by omega
  rw[e1,e2,rM s l hl]
  congr 2
  exact UInt8.toNat_inj.1 (by simp)
theorem RdS.raw_cut(a rest:List UInt8)(n:Int)(h1:1<=n)(hn:n=a.length):RdS.raw ⟨a++rest,0⟩ n=(a,⟨rest,0⟩):=by
 subst hn
 rw[RdS.Qn _ _ rfl h1 (by show((a.length:Nat):Int)<=(a++rest).length;simp only[zL];omega)]
 simp
theorem RdS.Qm(a rest:List UInt8)(n:Int)(hn:n=a.length):RdS.raw ⟨a++rest,0⟩ n=(a,⟨rest,0⟩):=by
 rcases Nat.eq_zero_or_pos a.length with h|h
 ·rw[List.eq_nil_of_length_eq_zero h] at hn ⊢
  rw[RdS.Qo _ _ (.inr (by rw[hn];decide))]
  rfl
 exact RdS.raw_cut a rest n zo hn
theorem RdS.Qp(a rest:List UInt8)(k:Nat)(hk:k=a.length):RdS.num ⟨a++rest,0⟩ k=(fG a,⟨rest,0⟩):=by
 unfold RdS.num
 rw[RdS.Qm a rest k zo]
theorem pH(k:UInt8)(s l body sum rest:List UInt8)(hs:s.length=8)(hl:l.length=2)(hb:body.length=fG l)(hsum:sum.length=4):
  gX (k::(s++(l++(body++(sum++rest)))))=(⟨(k.toNat:Nat),(fG s:Nat),body⟩,11+body.length,sum):=by
 have e1:RdS.num ⟨k::(s++(l++(body++(sum++rest)))),0⟩ 1=(k.toNat,⟨s++(l++(body++(sum++rest))),0⟩):=by
  have:=RdS.Qp [k] (s++(l++(body++(sum++rest)))) 1 rfl
  rwa[show fG [k]=k.toNat from by simp[fG]] at this
 have e2:=RdS.Qp s (l++(body++(sum++rest))) 8 hs.symm
 have e3:RdS.Qj ⟨l++(body++(sum++rest)),0⟩=(body,⟨sum++rest,0⟩):=by
  unfold RdS.Qj
  rw[RdS.Qp l (body++(sum++rest)) 2 hl.symm]
  exact RdS.Qm body (sum++rest) _ zo
 have e4:=RdS.Qm sum rest 4 zo
 unfold gX
 dsimp only
 rw[e1]
 dsimp only
 rw[e2]
 dsimp only
 rw[e3]
 dsimp only
 rw[e4]
 have e5:(k::(s++(l++(body++(sum++rest))))).length-RdS.left ⟨sum++rest,0⟩=11+body.length:=by
  unfold RdS.left
  simp only[ne_eq,not_true_eq_false,if_false,List.length_cons,zL]
  omega
 rw[e5]
theorem RdS.raw_ok(h:(s.raw n).2.why=0):s.why=0/\(n<1/\s.raw n=([],s)\/1<=n/\n<=s.bs.length/\s.raw n=(s.bs.take n.toNat,⟨s.bs.drop n.toNat,0⟩)):=by
 by_cases h0:s.why=0
 ·refine⟨h0,?_⟩
  by_cases h1:(s.bs.length:Int)<n
  ·rw[s.raw_end n h0 h1] at h;simp at h
  by_cases h2:n<1
  ·exact .inl ⟨h2,s.Qo n (.inr h2)⟩
  exact .inr ⟨zo,zo,s.Qn n h0 zo zo⟩
 rw[s.Qo n (.inl h0)] at h;exact absurd h h0
theorem RdS.raw_split(h:(s.raw n).2.why=0)(hn:0<=n):s.why=0/\s.bs=(s.raw n).1++(s.raw n).2.bs/\((s.raw n).1.length:Int)=n:=by
 obtain⟨h0,⟨h1,e⟩|⟨h1,h2,e⟩⟩:=RdS.raw_ok h
 ·rw[e];exact⟨h0,rfl,by simp;omega⟩
 rw[e];exact⟨h0,(List.take_append_drop _ _).symm,by simp only[List.length_take];omega⟩
theorem ye(h:¬(gX bs).2.2.length<4):
  ∃k s l body sum rest,bs=k::(s++(l++(body++(sum++rest))))/\s.length=8/\l.length=2/\body.length=fG l/\sum.length=4:=by
 have v:(gX bs).2.2=((((RdS.mk bs 0).num 1).2.num 8).2.Qj.2.raw 4).1:=rfl
 rw[v] at h
 generalize j:((RdS.mk bs 0).num 1)=d at h
 generalize m:d.2.num 8=b at h
 generalize o:b.2.Qj=c at h
 generalize a:c.2.raw 4=f at h
 have p:f.2.why=0/\c.2.why=0:=by
  by_cases e:c.2.why=0
  ·by_cases e2:(c.2.bs.length:Int)<4
   ·rw[c.2.raw_end 4 e e2] at a;rw[<- a] at h;simp at h
   rw[c.2.Qn 4 e Zd zo] at a;rw[<- a];exact⟨rfl,e⟩
  rw[c.2.Qo 4 (.inl e)] at a;rw[<- a] at h;simp at h
 have q:=RdS.raw_split (s:=c.2) (n:=4) (by rw[a];exact p.1) Zd
 rw[a] at q
 have h3:((b.2.num 2).2.raw (b.2.num 2).1)=c:=o
 have g:=RdS.raw_split (s:=(b.2.num 2).2) (n:=(b.2.num 2).1) (by rw[h3];exact p.2) zo
 rw[h3] at g
 have r:=RdS.raw_split (s:=b.2) (n:=2) g.1 Zd
 have h2:b.2=(d.2.raw 8).2:=by rw[<- m];rfl
 have i:=RdS.raw_split (s:=d.2) (n:=8) (by rw[<- h2];exact r.1) Zd
 rw[<- h2] at i
 have h1:d.2=((RdS.mk bs 0).raw 1).2:=by rw[<- j];rfl
 have t:=RdS.raw_split (s:=RdS.mk bs 0) (n:=1) (by rw[<- h1];exact i.1) Zd
 rw[<- h1] at t
 obtain⟨-,w,x⟩:=t
 obtain⟨-,y,E⟩:=i
 obtain⟨-,z,F⟩:=r
 obtain⟨-,u,A⟩:=g
 obtain⟨-,B,G⟩:=q
 have e3:(b.2.num 2).2=(b.2.raw 2).2:=rfl
 have e4:(b.2.num 2).1=fG (b.2.raw 2).1:=rfl
 rw[e3] at u
 rw[e4] at A
 generalize (RdS.mk bs 0).raw 1=a0 at *
 generalize d.2.raw 8=C at *
 generalize b.2.raw 2=D at *
 have hb:bs=a0.1++d.2.bs:=w
 match ha:a0.1,x with
 | [k],_ =>
  refine⟨k,C.1,D.1,c.1,f.1,f.2.bs,?_,zo,zo,zo,zo⟩
  rw[hb,ha,y,z,u,B]
  rfl
 | [],hh=>simp at hh
 | _::_::_,hh=>simp at hh;omega
theorem p_(h0:0<=r.kind/\r.kind<256)(hb:r.body.length<=65535):jl r=UInt8.ofNat r.kind.toNat::(beI 8 r.seq++(beI 2 (r.body.length:Nat)++r.body)):=by
 unfold jl dU
 rw[Nat.min_eq_left hb,List.take_of_length_le hb]
 have e:beI 1 r.kind=[UInt8.ofNat r.kind.toNat]:=by
  rw[ux,show beI 0 (r.kind/256)=[] from rfl,List.nil_append,Int.emod_eq_of_lt h0.1 h0.2]
 rw[e]
 simp
theorem AC(r:eA)(rest:List UInt8)(hr:dZ r=true)(hs:0<=r.seq):gz (gS r++rest)=(r,15+r.body.length,0):=by
 have a:=hr
 unfold dZ at a
 rw[decide_eq_true_eq] at a
 obtain⟨h1,h2,h3⟩:=a
 have hk:0<=r.kind/\r.kind<256:=by omega
 have c:gS r++rest=UInt8.ofNat r.kind.toNat::(beI 8 r.seq++(beI 2 (r.body.length:Nat)++(r.body++(be4 (fp (jl r))++rest)))):=by
  unfold gS
  rw[List.append_assoc]
  conv=>lhs;arg 1;rw[p_ hk zo]
  simp
 have hl:fG (beI 2 (r.body.length:Nat))=r.body.length:=by
  have:=j1 2 (r.body.length:Nat) zo zo
  omega
 have hP:=pH (UInt8.ofNat r.kind.toNat) (beI 8 r.seq) (beI 2 (r.body.length:Nat)) r.body (be4 (fp (jl r))) rest (dL _ _) (dL _ _) hl.symm rfl
 rw[<- c] at hP
 have d:((UInt8.ofNat r.kind.toNat).toNat:Int)=r.kind:=by simp;omega
 have e:(fG (beI 8 r.seq):Int)=r.seq:=j1 8 r.seq hs zo
 rw[d,e] at hP
 have g:(gS r++rest).take (11+r.body.length)=jl r:=by
  have f:(jl r).length=11+r.body.length:=by rw[p_ hk zo];simp[dL];omega
  unfold gS
  rw[List.append_assoc,<- f,List.take_left']
  rfl
 have b:oF (gS r++rest)=false:=by
  unfold oF
  rw[c]
  rcases h3 with h|⟨h,_⟩ <;> simp[h]
 unfold gz
 rw[b,hP,g]
 simp[kJ,hr]
 omega
theorem Dy(h:(gz bs).2.2=0):(∃rest,bs=gS (gz bs).1++rest)/\dZ (gz bs).1=true/\0<=(gz bs).1.seq/\(gz bs).2.1=15+(gz bs).1.body.length:=by
 unfold gz at h
 split at h
 ·simp at h
 rename_i i
 split at h
 ·simp at h
 rename_i j
 split at h
 ·simp at h
 rename_i a
 split at h
 ·simp at h
 rename_i c
 have n:gz bs=((gX bs).1,(gX bs).2.1+4,0):=by
  unfold gz
  rw[if_neg i,if_neg j,if_neg a,if_neg c]
 obtain⟨k,s,l,body,sum,rest,hb,hs,hl,f,m⟩:=ye j
 have hP:=pH k s l body sum rest hs hl f m
 rw[<- hb] at hP
 rw[n,hP]
 rw[hP] at a c
 dsimp only at a c ⊢
 have g:dZ ⟨(k.toNat:Nat),(fG s:Nat),body⟩=true:=by simpa using c
 have b:=g
 unfold dZ at b
 rw[decide_eq_true_eq] at b
 dsimp only at b
 have o:jl ⟨(k.toNat:Nat),(fG s:Nat),body⟩=k::(s++(l++body)):=by
  rw[p_ ⟨by show(0:Int)<=(k.toNat:Nat);omega,by have:=k.toNat_lt;show((k.toNat:Nat):Int)<256;omega⟩ (by show body.length<=65535;omega)]
  dsimp only
  rw[rM 8 s hs,f,rM 2 l hl,Int.toNat_natCast]
  congr 1
  exact UInt8.toNat_inj.1 (by simp)
 have p:bs.take (11+body.length)=k::(s++(l++body)):=by
  have e:bs=(k::(s++(l++body)))++(sum++rest):=by rw[hb];simp
  rw[e,show 11+body.length=(k::(s++(l++body))).length from by simp;omega,List.take_left']
  rfl
 refine⟨⟨rest,?_⟩,g,by show(0:Int)<=(fG s:Nat);omega,zo⟩
 unfold gS
 rw[o]
 have d:sum=be4 (fp (k::(s++(l++body)))):=by
  rw[p] at a
  exact Decidable.not_not.1 a
 rw[<- d,hb]
 simp
theorem nM(h:dZ r=true):(gS r).length=15+r.body.length:=by
 have:r.body.length<=900:=by unfold dZ at h;simp at h;omega
 simp only[gS,jl,dU,zL,dL,kJ,List.length_take];omega
theorem kj{rs:List eA}(h:dZ r=true):dW (r::rs)=gS r::dW rs:=by unfold dW;rw[List.map_cons,if_pos h]
theorem tw(first:Int)(rest:List UInt8):∀(rs:List eA) (i:Nat),(∀r∈rs,dZ r=true/\0<=r.seq)->(∀k (h:k<rs.length),rs[k].seq=IntKind.u64.wrap (first+(i+k:Nat))) ->
  ip first rs.length i ((dW rs).flatten++rest)=some (rs,rest)
 | [],_,_,_=>rfl
 | r::rs,i,hr,hs=>by
  have h1:=hr r (by simp)
  have ih:=tw first rest rs (i+1) (fun x a=>hr x (by simp[a])) (fun k hk=>by
   have:=hs (k+1) (by simpa using hk)
   rw[show i+1+k=i+(k+1) from by omega]
   simpa using this)
  have hd:=AC r ((dW rs).flatten++rest) h1.1 h1.2
  rw[kj h1.1,List.flatten_cons,List.append_assoc,List.length_cons,ip,hd]
  have h0:=hs 0 (by simp)
  rw[if_neg (by simp),if_neg (by simpa using h0)]
  have e:(gS r++((dW rs).flatten++rest)).drop (15+r.body.length)=(dW rs).flatten++rest:=by
   rw[<- nM h1.1,List.drop_left'];rfl
  dsimp only
  rw[e,ih]
  rfl
theorem rx(first:Int):∀(m i:Nat) (bs:List UInt8) (rs:List eA) (rest:List UInt8),ip first m i bs=some (rs,rest) ->
  bs=(dW rs).flatten++rest/\rs.length=m/\(∀r∈rs,dZ r=true/\0<=r.seq)/\∀k (h:k<rs.length),rs[k].seq=IntKind.u64.wrap (first+(i+k:Nat))
 | 0,i,bs,rs,rest,h=>by
  rw[ip] at h
  injection h with h
  injection h with h1 h2
  subst h1;subst h2
  exact⟨rfl,rfl,by simp,fun k hk=>absurd hk (by simp)⟩
 | m+1,i,bs,rs,rest,h=>by
  rw[ip] at h
  split at h
  ·cases h
  rename_i hw
  split at h
  ·cases h
  rename_i hq
  have hw':(gz bs).2.2=0:=Decidable.not_not.1 hw
  have c:=Decidable.not_not.1 hq
  obtain⟨⟨t,ht⟩,b,h0,hz⟩:=Dy hw'
  generalize hd:gz bs=d at *
  obtain⟨r,f,o⟩:=d
  dsimp only at *
  cases hg:ip first m (i+1) (bs.drop f) with
  | none=>rw[hg] at h;cases h
  | some p =>
   obtain⟨q,j⟩:=p
   rw[hg] at h
   simp only[Option.map_some,Option.some.injEq,Prod.mk.injEq] at h
   obtain⟨e1,e2⟩:=h
   subst e1;subst e2
   obtain⟨g,l,a3,a4⟩:=rx first m (i+1) _ _ _ hg
   have a:bs.drop f=t:=by rw[ht,hz,<- nM b,List.drop_left'];rfl
   rw[a] at g
   refine⟨by rw[kj b,List.flatten_cons,List.append_assoc,<- g];exact ht,by simp[l],?_,?_⟩
   ·intro x n
    rcases List.mem_cons.1 n with e|e
    ·rw[e];exact⟨b,h0⟩
    exact a3 x e
   intro k hk
   rcases k with _|k
   ·simpa using c
   have:=a4 k (by simpa using hk)
   rw[show i+(k+1)=i+1+k from by omega]
   simpa using this
