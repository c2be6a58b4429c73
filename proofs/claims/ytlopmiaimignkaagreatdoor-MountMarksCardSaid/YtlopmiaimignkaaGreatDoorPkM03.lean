/-
  PROVED HERE: what the program's SHA-256 answers: the plain function 'shaSum'; conditions: fewer than 2^40 bytes.
-/
import Derived.Test.YtlopmiaimignkaaGreatDoorPkM02
set_option maxRecDepth 100000
set_option maxHeartbeats 2000000
namespace Go.Proofs.YtlopmiaimignkaaGreatDoor
open Go.Proofs.Tryz
open Go.RowKit
variable{w w1 w2:World}{e:TypeId}{c n size:Nat}{A:Option Addr}{xs:List Value}
theorem oa(w:World)(t:TypeId)(b:UInt8)(x:Value)(h:eE b=x):Bs (w.alloc (.cells #[x] t)) (fun g=>w.heap.size<=g) (some ⟨w.heap.size,0,none⟩) 1 [b]:=by
 subst h;exact Row.made1 w t _
theorem nS{o:Obj}(h:New w w1)(hown:Own w1 w.heap.size e size A n c xs)(hg:(w1.alloc o).grownBy w2 (blk A)):New w w2 :=
 (h.alloc o).grown hg (fun k hk _=>(eW hown k hk).1)
theorem nl(h:New w w1)(hown:Own w1 w.heap.size e size A n c xs)(hg:w1.grownBy w2 (blk A)):New w w2 :=
 h.grown hg (fun k hk _=>(eW hown k hk).1)
theorem Hj(w:World)(t:TypeId)(a b c d:UInt8):Bs (w.alloc (.cells #[.int .u8 (bv a),.int .u8 (bv b),.int .u8 (bv c),.int .u8 (bv d)] t)) (fun g=>w.heap.size<=g) (some ⟨w.heap.size,0,none⟩) 4 [a,b,c,d] :=
 Row.made w t _ 4 1 rfl
theorem FS(f:Nat->BitVec 32)(w:World):(Instr.index 348 (.agg #[.int .u32 (wv (f 0)),.int .u32 (wv (f 1)),.int .u32 (wv (f 2)),.int .u32 (wv (f 3)),.int .u32 (wv (f 4)),.int .u32 (wv (f 5)),.int .u32 (wv (f 6)),.int .u32 (wv (f 7))]) (.int .i64 ((0:Nat):Int))).run prog w=.ok (.int .u32 (wv (f 0))) w:=by kernel_rfl
theorem FR(f:Nat->BitVec 32)(w:World):(Instr.index 348 (.agg #[.int .u32 (wv (f 0)),.int .u32 (wv (f 1)),.int .u32 (wv (f 2)),.int .u32 (wv (f 3)),.int .u32 (wv (f 4)),.int .u32 (wv (f 5)),.int .u32 (wv (f 6)),.int .u32 (wv (f 7))]) (.int .i64 ((1:Nat):Int))).run prog w=.ok (.int .u32 (wv (f 1))) w:=by kernel_rfl
theorem FQ(f:Nat->BitVec 32)(w:World):(Instr.index 348 (.agg #[.int .u32 (wv (f 0)),.int .u32 (wv (f 1)),.int .u32 (wv (f 2)),.int .u32 (wv (f 3)),.int .u32 (wv (f 4)),.int .u32 (wv (f 5)),.int .u32 (wv (f 6)),.int .u32 (wv (f 7))]) (.int .i64 ((2:Nat):Int))).run prog w=.ok (.int .u32 (wv (f 2))) w:=by kernel_rfl
theorem FP(f:Nat->BitVec 32)(w:World):(Instr.index 348 (.agg #[.int .u32 (wv (f 0)),.int .u32 (wv (f 1)),.int .u32 (wv (f 2)),.int .u32 (wv (f 3)),.int .u32 (wv (f 4)),.int .u32 (wv (f 5)),.int .u32 (wv (f 6)),.int .u32 (wv (f 7))]) (.int .i64 ((3:Nat):Int))).run prog w=.ok (.int .u32 (wv (f 3))) w:=by kernel_rfl
theorem FO(f:Nat->BitVec 32)(w:World):(Instr.index 348 (.agg #[.int .u32 (wv (f 0)),.int .u32 (wv (f 1)),.int .u32 (wv (f 2)),.int .u32 (wv (f 3)),.int .u32 (wv (f 4)),.int .u32 (wv (f 5)),.int .u32 (wv (f 6)),.int .u32 (wv (f 7))]) (.int .i64 ((4:Nat):Int))).run prog w=.ok (.int .u32 (wv (f 4))) w:=by kernel_rfl
theorem FN(f:Nat->BitVec 32)(w:World):(Instr.index 348 (.agg #[.int .u32 (wv (f 0)),.int .u32 (wv (f 1)),.int .u32 (wv (f 2)),.int .u32 (wv (f 3)),.int .u32 (wv (f 4)),.int .u32 (wv (f 5)),.int .u32 (wv (f 6)),.int .u32 (wv (f 7))]) (.int .i64 ((5:Nat):Int))).run prog w=.ok (.int .u32 (wv (f 5))) w:=by kernel_rfl
theorem FM(f:Nat->BitVec 32)(w:World):(Instr.index 348 (.agg #[.int .u32 (wv (f 0)),.int .u32 (wv (f 1)),.int .u32 (wv (f 2)),.int .u32 (wv (f 3)),.int .u32 (wv (f 4)),.int .u32 (wv (f 5)),.int .u32 (wv (f 6)),.int .u32 (wv (f 7))]) (.int .i64 ((6:Nat):Int))).run prog w=.ok (.int .u32 (wv (f 6))) w:=by kernel_rfl
theorem FL(f:Nat->BitVec 32)(w:World):(Instr.index 348 (.agg #[.int .u32 (wv (f 0)),.int .u32 (wv (f 1)),.int .u32 (wv (f 2)),.int .u32 (wv (f 3)),.int .u32 (wv (f 4)),.int .u32 (wv (f 5)),.int .u32 (wv (f 6)),.int .u32 (wv (f 7))]) (.int .i64 ((7:Nat):Int))).run prog w=.ok (.int .u32 (wv (f 7))) w:=by kernel_rfl
theorem Il(f:Nat->BitVec 32)(k:Nat)(hk:k<8)(w:World):(Instr.index 348 (.agg #[.int .u32 (wv (f 0)),.int .u32 (wv (f 1)),.int .u32 (wv (f 2)),.int .u32 (wv (f 3)),.int .u32 (wv (f 4)),.int .u32 (wv (f 5)),.int .u32 (wv (f 6)),.int .u32 (wv (f 7))]) (.int .i64 (k:Int))).run prog w=.ok (.int .u32 (wv (f k))) w:=by
 match k,hk with
 | 0,_=>exact FS f w
 | 1,_=>exact FR f w
 | 2,_=>exact FQ f w
 | 3,_=>exact FP f w
 | 4,_=>exact FO f w
 | 5,_=>exact FN f w
 | 6,_=>exact FM f w
 | 7,_=>exact FL f w
def sE(f:Nat->BitVec 32)(k:Nat):List UInt8:=(List.range k).flatMap fun j=>be4 (f j)
theorem wn(f:Nat->BitVec 32)(k:Nat):sE f (k+1)=sE f k++be4 (f k):=by
 unfold sE;rw[List.range_succ,List.flatMap_append];simp
theorem Hk(n k:Nat)(x:Int)(hx:x=n):eE (UInt8.ofNat (n/256^k%256))=.int .u8 (x/2^(8*k)%256):=by
 subst hx
 unfold eE bv
 rw[UInt8.toNat_ofNat_of_lt' (Nat.mod_lt _ Zd)]
 have h:(256:Nat)^k=2^(8*k):=by rw[Nat.pow_mul]
 rw[h]
 simp
theorem uy(n:Nat):(be8 n).length=8:=by simp[be8]
theorem Gh(n j:Nat)(hj:j<8):(be8 n).take (j+1)=(be8 n).take j++[UInt8.ofNat (n/256^(7-j)%256)]:=by
 rw[List.take_succ_eq_append_getElem (by rw[uy];exact hj)]
 simp[be8]
theorem A_{r k:Nat}(h:k<(119-r%64)%64):(r+1+k)%64≠56:=by omega
theorem tN(r:Nat):(r+1+(119-r%64)%64)%64=56:=by omega
theorem GG(base p:Nat)(bs:List UInt8)(w:World)(hS:Str w base p bs)(hn:bs.length<=1099511627776):
  Calls prog 273 #[.pointer (some ⟨p,0,none⟩)] w fun e w'=>(∃A c,e=.returned (.slice A 32 c)/\fy w' w.heap.size 5 A 32 c (gL bs))/\New w w':=by
 obtain⟨done,rest,rfl,hr,O⟩:=hS
 obtain⟨A1,c1,aq,a,aw⟩:=O.rest
 have P:=O.lt
 have H:=O.num
 have HE:=zh O
 have ad:(done++rest).length=done.length+rest.length:=by simp
 rw[ad] at hn
 generalize hN:(done++rest).length=N at H
 have HN:=zh hN
 have aK:N<=1099511627776:=by omega
 clear O ad hN
 go_in
 go_wp2_with fail
 refine(ik (fun b=>base<=b) A1 _ c1 rest w (Row.Qc a) zo).mono ?_
 rintro e w1⟨⟨A2,c2,rfl,B⟩,Q⟩
 have ae:=Q.size
 go_wp2_with (at_builtin;refine fK _ rfl (.tmp 14) (.tmp 15) rfl w.heap.size A2 _ c2 rest rfl (B.alloc _) (fun g=>w1.heap.size<=g) _ 1 1 [128] rfl (oa w1 5 128 _ rfl) zo (by simp;omega) ?_;intro A3 c3 w3 s t u)
 have v:=nS Q B t
 clear B t u aq a aw Q ae
 have C:w3.cell? ⟨p,73,none⟩=some (.int .i64 N):=(v.cell P zt).trans H
 go_loopw [3] (fun x y=>∃A m c k,x=.slice A m c/\k<=jm rest.length/\m=rest.length+1+k/\fy y w.heap.size 5 A m c (rest++[128]++List.replicate k 0)/\New w y) (fun x _=>200-jd x)
 case atStart=>exact⟨_,_,_,0,rfl,Nat.zero_le _,rfl,by simpa using s,v⟩
 clear s v C
 obtain⟨A,m,c,k,rfl,hk,hm,a,q⟩:=hrel
 have aG:jm rest.length<64:=Nat.mod_lt _ Zd
 have ax:m<200:=by omega
 by_cases hlt:k<jm rest.length
 ·have ht:((m:Int)%64 !=56)=true:=by have:=A_ hlt;rw[bne_iff_ne];omega
  have HM:=zh hm
  clear hm
  have ae:=q.size
  have G:m+1<=140737488355328:=by omega
  have ar:w.heap.size<=(wr.alloc (.cells #[.int .u8 0] 5)).heap.size:=(q.alloc _).size
  go_wp2_with (at_builtin;refine fK _ rfl (.tmp 21) (.tmp 22) rfl w.heap.size A m c _ rfl (a.alloc _) (fun g=>wr.heap.size<=g) _ 1 1 [0] rfl (oa wr 5 0 _ rfl) G ar ?_;intro A3 c3 w3 s t u)
  have v:=nS q a t
  clear t u a q
  go_roundw
  case rel=>exact⟨_,_,_,k+1,rfl,zo,by have:=HM.out;omega,by rw[List.replicate_succ',<- List.append_assoc];exact s,v⟩
  simp[jd];omega
 have R:k=jm rest.length:=by omega
 have ht:((m:Int)%64 !=56)=false:=by
  have:=tN rest.length
  have e:m%64=56:=by rw[hm,R];exact this
  simp;omega
 have HM:=zh hm
 have HK:=zh R
 clear hm R
 have C:wr.cell? ⟨p,73,none⟩=some (.int .i64 N):=(q.cell P zt).trans H
 go_wp2_with fail
 have aH:m<200:=ax
 generalize hL:rest++[128]++List.replicate k 0=L at a
 have ay:=zh hL
 clear hL
 go_loopw [3,5] (fun x i y=>∃(A:Option Addr) (c' j E:Nat),x=.slice A E c'/\j<=8/\i=.int .i64 (7-(j:Int))/\E=m+j/\fy y w.heap.size 5 A E c' (L++(be8 (N*8)).take j)/\New w y) (fun _ i _=>(intOf i+1).toNat)
 case atStart=>exact⟨_,_,0,m,rfl,zo,rfl,rfl,by simpa using a,q⟩
 clear a q C
 obtain⟨A',c',j,E,rfl,hj,rfl,S,a,q⟩:=hrel
 by_cases hlt:j<8
 ·have af:=oa wr 5 _ _ (Hk (N*8) (7-j) ((N:Int)*8) (by simp))
  have G:E+1<=140737488355328:=by omega
  have aI:E<300:=by omega
  have az:=zh S
  clear S
  go_wp2_with (at_builtin;refine fK _ rfl (.tmp 34) (.tmp 40) rfl w.heap.size A' E c' _ rfl (a.alloc _) (fun g=>wr.heap.size<=g) _ 1 1 _ rfl af G ((q.alloc _).size) ?_;intro A3 c3 w3 s t u)
  have v:=nS q a t
  clear t u a q af
  go_roundw
  case rel =>
   have e:(7:Int)-((j+1:Nat):Int)=7-(j:Int)-1:=by omega
   exact⟨_,_,j+1,_,rfl,zo,by rw[e],by have:=az.out;omega,by rw[Gh _ _ hlt,<- List.append_assoc];exact s,v⟩
  simp[intOf];omega
 obtain rfl:j=8:=by omega
 rw[show(7-((8:Nat):Int)) = -1 from rfl]
 rw[List.take_of_length_le (by rw[uy];exact Nat.le_refl _)] at a
 have hs:=HE.state.keep q trivial
 have z:=HE.ks.keep q trivial
 have s0:=hs.cell0 (j:=0) zo
 have s1:=hs.cell0 (j:=1) zo
 have s2:=hs.cell0 (j:=2) zo
 have x:=hs.cell0 (j:=3) zo
 have s4:=hs.cell0 (j:=4) zo
 have s5:=hs.cell0 (j:=5) zo
 have s6:=hs.cell0 (j:=6) zo
 have T:=hs.cell0 (j:=7) zo
 clear hs
 go_wp2_with fail
 clear s0 s1 s2 x s4 s5 s6 T
 generalize hf:i9 hAt done (done.length/64)=f
 generalize U:wr.alloc _=W5
 have r:h_ W5 wr.heap.size 0 8 f:=by
  rw[<- U]
  refine(S8.made8 wr _ (S8.of f)).congr fun j hj=>?_
  match j,hj with
  | 0,_=>rfl
  | 1,_=>rfl
  | 2,_=>rfl
  | 3,_=>rfl
  | 4,_=>rfl
  | 5,_=>rfl
  | 6,_=>rfl
  | 7,_=>rfl
 have I:New wr W5:=by rw[<- U];exact(zN wr).alloc _
 have ag:Bs W5 (fun b=>b≠wr.heap.size) A' E (L++be8 (N*8)):=((Row.Qc a).imp (fun b hb _=>Nat.ne_of_lt hb)).new I
 have V:=z.keep I trivial
 have ah:=q.new I
 have W:=ew a
 have aA:w.heap.size<=wr.heap.size:=q.size
 have aB:p≠wr.heap.size:=by omega
 subst hf
 clear U I z q a
 generalize wr.heap.size=h at *
 have J:=HE.mult
 have K:E%64=0:=by
  have h1:=HM.out;have h2:=HK.out;have h3:=tN rest.length
  unfold jm at h2
  rw[<- h2,<- h1] at h3
  omega
 go_loopw [3] (fun x y=>∃(A:Option Addr) (n c:Nat) (bs d:List UInt8),x=.slice A n c/\n<=c/\Bs y (fun b=>b≠h) A n bs/\done++(L++be8 (N*8))=d++bs/\n%64=0/\n<300/\d.length%64=0/\h_ y h 0 8 (i9 hAt d (d.length/64))/\h_ y p 8 64 kAt/\New w y) (fun x _=>jd x)
 case atStart=>exact⟨_,_,_,_,done,rfl,W,ag,rfl,K,zo,J,r,V,ah⟩
 clear ag r V ah W J K S
 obtain⟨aC,n,X,bs,d,rfl,aL,hB,ai,aJ,aF,au,r,z,q⟩:=hrel
 have HQ:=zh ai
 clear ai
 by_cases hlt:0<n
 ·have hcut:=Bs.Qk hB (hi:=64) zo
  have i1:(64:Int)<=X:=by omega
  have i2:(64:Int)<=n:=by omega
  have aD:=hB.len
  have HT:=zh<|qu h 0 p 8 _ aC X _ (i9 hAt d (d.length/64)) wr.drew hcut zo r z
  go_wp2_with fail
  go_region_with (go_at_call 291;refine HT.mono ?_;rintro e w4 ⟨rfl,h1,h2,h3,h4⟩)
  replace h2:=mN h2
  have F:(List.take 64 bs).length=64:=by rw[List.length_take];have:=hB.len;omega
  have Y:h_ w4 h 0 8 (i9 hAt (d++List.take 64 bs) ((d++List.take 64 bs).length/64)):=by
   have hd:(d++List.take 64 bs).length/64=d.length/64+1:=by rw[zL,F];omega
   rw[hd,oQ hAt d _ _ zo F];exact h1
  have M:(d++List.take 64 bs).length%64=0:=by rw[zL,F];omega
  have Z:h_ w4 p 8 64 kAt:=z.keep h2 aB
  have aj:New w w4:=(b_.Qd (D:=fun b=>b<w.heap.size) (b_.Qe q) h2 (fun i hi _=>Nat.ne_of_lt (Nat.lt_of_lt_of_le hi aA))).Qi (fun i hi=>hi)
  have ak:=hB.keep h2 (fun b _ hb=>hb)
  have aa:done++(L++be8 (N*8))=d++List.take 64 bs++List.drop 64 bs:=by rw[HQ.out,List.append_assoc,List.take_append_drop]
  have HC:=zh aa
  clear h1 h2 h3 h4 HT hcut aa hB aD r z q F
  by_cases aM:X=64
  ·go_wp2
   go_roundw
   case rel=>exact⟨_,_,_,List.drop 64 bs,_,rfl,zo,by rw[List.drop_eq_nil_of_le (by have:=Bs.len ak;omega)];exact⟨by simp;omega,fun h=>absurd h zo⟩,HC.out,zo,zo,M,Y,Z,aj⟩
   simp[jd];omega
  have hx:=Bs.from_ ak (l:=64) zo
  go_wp2
  go_roundw
  case rel=>exact⟨_,_,_,List.drop 64 bs,_,rfl,zo,hx,HC.out,zo,zo,M,Y,Z,aj⟩
  simp[jd];omega
 obtain rfl:n=0:=by omega
 obtain rfl:bs=[]:=List.eq_nil_of_length_eq_zero hB.len
 rw[List.append_nil] at HQ
 have al:d=oK (done++rest):=by
  rw[<- HQ.out,<- ay.out,HK.out]
  unfold oK
  rw[HN.out]
  have:jm rest.length=jm N:=by
   have h1:=HE.mult;have h2:=HN.out;rw[zL] at h2;unfold jm;omega
  rw[this];simp
 rw[al] at r
 have am:Hid (sZ (i9 hAt (oK (done++rest)) ((oK (done++rest)).length/64))=gL (done++rest)):=zh rfl
 generalize i9 hAt (oK (done++rest)) ((oK (done++rest)).length/64)=f at r am
 clear al HQ hB z au
 have s0:=fun o=>((zN wr).alloc o).Qb (r.cell0 (j:=0) zo) trivial
 have s1:=fun o=>((zN wr).alloc o).Qb (r.cell0 (j:=1) zo) trivial
 have s2:=fun o=>((zN wr).alloc o).Qb (r.cell0 (j:=2) zo) trivial
 have x:=fun o=>((zN wr).alloc o).Qb (r.cell0 (j:=3) zo) trivial
 have s4:=fun o=>((zN wr).alloc o).Qb (r.cell0 (j:=4) zo) trivial
 have s5:=fun o=>((zN wr).alloc o).Qb (r.cell0 (j:=5) zo) trivial
 have s6:=fun o=>((zN wr).alloc o).Qb (r.cell0 (j:=6) zo) trivial
 have T:=fun o=>((zN wr).alloc o).Qb (r.cell0 (j:=7) zo) trivial
 have aE:∀w,(Instr.makeSlice 22 (.int .i64 0) (.int .i64 32)).run prog w=.ok (.slice (some ⟨w.heap.size,0,none⟩) 0 32) (w.alloc (.cells (List.replicate 32 (Value.int .u8 0)).toArray 5)):=fun _=>by kernel_rfl
 clear r
 go_wp2_with fail
 clear s0 s1 s2 x s4 s5 s6 T aE
 generalize ab:wr.alloc _=W6
 have an:fy W6 w.heap.size 5 (some ⟨wr.heap.size,0,none⟩) 0 32 []:=by
  rw[<- ab];exact World.ownsRow_made wr _ 32 q.size Zd rfl
 have ao:New w W6:=by rw[<- ab];exact q.alloc _
 clear ab
 go_loopw [7,59] (fun T i y=>∃(A:Option Addr) (n c k:Nat),T=.slice A n c/\k<=8/\i=.int .i64 k/\n=4*k/\fy y w.heap.size 5 A n c (sE f k)/\New w y) (fun _ i _=>8-(intOf i).toNat)
 case atStart=>exact⟨_,_,_,0,rfl,zo,rfl,rfl,an,ao⟩
 clear an ao q
 obtain⟨A6,n,c6,k,rfl,aN,rfl,ap,a,q⟩:=hrel
 have hb:n<=32:=by omega
 have ac:=zh ap
 clear ap
 by_cases hlt:k<8
 ·have hi:=Il f k hlt wr
  have G:n+4<=140737488355328:=by omega
  go_wp2_with (at_builtin;refine fK _ rfl (.tmp 62) (.tmp 74) rfl w.heap.size A6 n c6 _ rfl (a.alloc _) (fun g=>wr.heap.size<=g) _ 4 4 (be4 (f k)) rfl (Hj wr 5 _ _ _ _) G ((q.alloc _).size) ?_;intro A3 c3 w3 s t u)
  have v:=nS q a t
  clear t u a q hi
  go_roundw
  case rel=>exact⟨_,_,_,k+1,rfl,zo,by go_num,by have:=ac.out;omega,by rw[wn];exact s,v⟩
  simp[intOf];omega
 obtain rfl:k=8:=by omega
 have av:=ac.out
 obtain rfl:n=32:=av
 clear ac
 go_wp2
 go_ret
 exact⟨⟨_,_,rfl,by rw[<- am.out];exact a⟩,q⟩
