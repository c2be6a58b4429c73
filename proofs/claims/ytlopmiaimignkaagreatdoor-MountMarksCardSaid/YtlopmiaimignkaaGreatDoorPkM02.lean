/-
  PROVED HERE: what the program's stream of SHA-256 does; conditions: fewer than 2^40 bytes.
-/
import Derived.StillTailTactics
import Derived.Deep.DeepCutAuto
import Derived.Deep.RegionLaw
import Derived.Test.YtlopmiaimignkaaGreatDoorPkM01
set_option maxRecDepth 100000
set_option maxHeartbeats 2000000
namespace Go.Proofs.YtlopmiaimignkaaGreatDoor
open Go.Proofs.Tryz
open Go.RowKit
variable{w w':World}{base c n p:Nat}{done rest:List UInt8}{e:TypeId}{A:Option Addr}{xs:List Value}
structure oV (w:World) (base p:Nat) (done rest:List UInt8) (n:Nat):Prop where
 hp:base<=p
 state:h_ w p 0 8 (i9 hAt done (done.length/64))
 ks:h_ w p 8 64 kAt
 mult:done.length%64=0
 rest:∃A c,w.cell? ⟨p,72,none⟩=some (.slice A rest.length c)/\fy w base 5 A rest.length c rest/\blk A≠some p
 num:w.cell? ⟨p,73,none⟩=some (.int .i64 n)
 free:w.frozen? ⟨p,72,none⟩=false/\w.frozen? ⟨p,73,none⟩=false
theorem oV.lt(h:oV w base p done rest n):p<w.heap.size:=World.block_lt_of_cell? w _ h.num
theorem oV.setNum(h:oV w base p done rest n)(m:Nat):oV (w.setCell ⟨p,73,none⟩ (.int .i64 m)) base p done rest m:=by
 obtain⟨A,c,h1,h2,h3⟩:=h.rest
 refine⟨h.hp,h.state.far (.inr (.inr (by simp))) _,h.ks.far (.inr (.inr (by simp))) _,h.mult,⟨A,c,?_,?_,h3⟩,World.cell?_setCell_same _ _ _ h.num,?_,?_⟩
 ·rw[World.cell?_setCell_other _ _ _ _ (by intro hh;injection hh;omega)];exact h1
 ·exact le h2 h3 _
 ·rw[World.frozen?_setCell];exact h.free.1
 rw[World.frozen?_setCell];exact h.free.2
theorem oV.put{w2:World}(h:oV w base p done rest n){A1 A2:Option Addr}{m c2:Nat}{more:List UInt8}(hown2:fy w2 base 5 A2 m c2 (rest++more))(hg2:w.grownBy w2 (blk A1))(hbk2:blk A2=blk A1\/blk A2=some w.heap.size)(hne:blk A1≠some p)(hcc:∃u,w2.cell? ⟨p,72,none⟩=some u):oV (w2.setCell ⟨p,72,none⟩ (.slice A2 m c2)) base p done (rest++more) n:=by
 have c:=h.lt
 have hk:b_ (fun b=>b=p) w w2:=(b_.refl _ w).grown hg2 (fun k hk hd=>absurd (hd▸hk) hne)
 have hm:m=(rest++more).length:=by have:=hown2.1;simpa using this.symm
 have a:blk A2≠some p:=by
  rcases hbk2 with e|e <;> rw[e]
  ·exact hne
  intro e';injection e';omega
 obtain⟨u,d⟩:=hcc
 refine⟨h.hp,(h.state.keep hk rfl).far (.inr (.inr (by simp))) _,(h.ks.keep hk rfl).far (.inr (.inr (by simp))) _,h.mult,⟨A2,c2,?_,?_,a⟩,?_,?_,?_⟩
 ·rw[<- hm];exact World.cell?_setCell_same _ _ _ d
 ·rw[<- hm];exact le hown2 a _
 ·rw[World.cell?_setCell_other _ _ _ _ (by intro hh;injection hh;omega)];exact(hk.cell c rfl).trans h.num
 ·rw[World.frozen?_setCell];exact(hk.frozen c rfl).trans h.free.1
 rw[World.frozen?_setCell];exact(hk.frozen c rfl).trans h.free.2
theorem mN{D:Nat->Prop}(h:b_ D w.drew w'):b_ D w w':=⟨h.os,h.tape,h.output,h.size,h.block⟩
theorem ew{size:Nat}(h:Own w base e size A n c xs):n<=c:=by
 rcases h.2 with⟨a,hn⟩|⟨g,b,d,a,hb,hg,h1,h2,h3,f⟩
 ·omega
 injection a with h5 h6 h7;omega
theorem DN(h:Own w base e 1 A n c xs):Own w base e 1 A 0 c []:=by
 refine⟨rfl,?_⟩
 rcases h.2 with⟨a,hn⟩|⟨g,d,b,a,hb,hg,h1,h2,h3,f⟩
 ·subst hn;exact .inl ⟨by simpa using a,rfl⟩
 injection a with h5 h6 h7
 subst h5 h7
 exact .inr ⟨g,c,b,rfl,hb,hg,Nat.zero_le _,h2,h3,by simp⟩
theorem oV.turned(h:oV w base p done rest n)(hl:rest.length=64)(hown:fy w base 5 A 64 c rest)(hne:blk A≠some p)(h1:h_ w' p 0 8 (lS (i9 hAt done (done.length/64)) rest))(h2:b_ (fun b=>b≠p) w w')(h3:∀j,j<0\/0+8<=j->w'.cell? ⟨p,j,none⟩=w.cell? ⟨p,j,none⟩)(h4:∀j,w'.frozen? ⟨p,j,none⟩=w.frozen? ⟨p,j,none⟩):
  oV (w'.setCell ⟨p,72,none⟩ (.slice A 0 c)) base p (done++rest) [] n:=by
 have hm:=h.mult
 have a:(done++rest).length=done.length+64:=by rw[zL,hl]
 have hd:(done++rest).length/64=done.length/64+1:=by rw[a];omega
 obtain⟨d,f,hc,_,_⟩:=h.rest
 refine⟨h.hp,?_,?_,by rw[a];omega,⟨A,c,?_,?_,hne⟩,?_,?_,?_⟩
 ·rw[hd,oQ hAt done rest _ zo hl]
  exact h1.far (.inr (.inr (by simp))) _
 ·refine h_.far (fun j hj=>⟨(h3 _ zo).trans (h.ks.cell hj),(h4 _).trans (h.ks.free hj)⟩) (.inr (.inr (by simp))) _
 ·exact World.cell?_setCell_same _ _ _ ((h3 72 zo).trans hc)
 ·exact le (eP (DN hown) h2 (fun k hk e=>hne (e▸hk))) hne _
 ·rw[World.cell?_setCell_other _ _ _ _ (by intro hh;injection hh;omega)];exact(h3 73 zo).trans h.num
 ·rw[World.frozen?_setCell];exact(h4 72).trans h.free.1
 rw[World.frozen?_setCell];exact(h4 73).trans h.free.2
theorem oV.turn1{bk:List UInt8}(h:oV w base p done rest n)(hl:bk.length=64)(h1:h_ w' p 0 8 (lS (i9 hAt done (done.length/64)) bk))(h2:b_ (fun b=>b≠p) w w')(h3:∀j,j<0\/0+8<=j->w'.cell? ⟨p,j,none⟩=w.cell? ⟨p,j,none⟩)(h4:∀j,w'.frozen? ⟨p,j,none⟩=w.frozen? ⟨p,j,none⟩):
  oV w' base p (done++bk) rest n:=by
 have hm:=h.mult
 have a:(done++bk).length=done.length+64:=by rw[zL,hl]
 have hd:(done++bk).length/64=done.length/64+1:=by rw[a];omega
 obtain⟨f,g,hc,d,c⟩:=h.rest
 refine⟨h.hp,?_,fun j hj=>⟨(h3 _ zo).trans (h.ks.cell hj),(h4 _).trans (h.ks.free hj)⟩,by rw[a];omega,⟨f,g,(h3 72 zo).trans hc,eP d h2 (fun k hk e=>c (e▸hk)),c⟩,(h3 73 zo).trans h.num,(h4 72).trans h.free.1,(h4 73).trans h.free.2⟩
 rw[hd,oQ hAt done bk _ zo hl]
 exact h1
def jd:Value->Nat
 | .slice _ n _=>n
 | _=>0
def Str(w:World)(base p:Nat)(bs:List UInt8):Prop:=∃done rest,bs=done++rest/\rest.length<64/\oV w base p done rest bs.length
theorem Ey(w:World):Calls prog 289 #[] w fun e w'=>e=.returned (.agg #[.int .u32 1779033703,.int .u32 3144134277,.int .u32 1013904242,.int .u32 2773480762,.int .u32 1359893119,.int .u32 2600822924,.int .u32 528734635,.int .u32 1541459225])/\New w w':=by
 go_in
 go_wp2
 exact bodyPost_ret (results_cell_row rfl _ _ _ _ _ _ _ rfl (heap_alloc_new w _) underlying348 rfl zk) rfl ⟨rfl,(zN w).alloc _⟩
def Ik:Array Value:=#[.int .u32 1116352408,.int .u32 1899447441,.int .u32 3049323471,.int .u32 3921009573,.int .u32 961987163,.int .u32 1508970993,.int .u32 2453635748,.int .u32 2870763221,.int .u32 3624381080,.int .u32 310598401,.int .u32 607225278,.int .u32 1426881987,.int .u32 1925078388,.int .u32 2162078206,.int .u32 2614888103,.int .u32 3248222580,.int .u32 3835390401,.int .u32 4022224774,.int .u32 264347078,.int .u32 604807628,.int .u32 770255983,.int .u32 1249150122,.int .u32 1555081692,.int .u32 1996064986,.int .u32 2554220882,.int .u32 2821834349,.int .u32 2952996808,.int .u32 3210313671,.int .u32 3336571891,.int .u32 3584528711,.int .u32 113926993,.int .u32 338241895,.int .u32 666307205,.int .u32 773529912,.int .u32 1294757372,.int .u32 1396182291,.int .u32 1695183700,.int .u32 1986661051,.int .u32 2177026350,.int .u32 2456956037,.int .u32 2730485921,.int .u32 2820302411,.int .u32 3259730800,.int .u32 3345764771,.int .u32 3516065817,.int .u32 3600352804,.int .u32 4094571909,.int .u32 275423344,.int .u32 430227734,.int .u32 506948616,.int .u32 659060556,.int .u32 883997877,.int .u32 958139571,.int .u32 1322822218,.int .u32 1537002063,.int .u32 1747873779,.int .u32 1955562222,.int .u32 2024104815,.int .u32 2227730452,.int .u32 2361852424,.int .u32 2428436474,.int .u32 2756734187,.int .u32 3204031479,.int .u32 3329325298]
theorem uV(w:World):Calls prog 290 #[] w fun e w'=>e=.returned (.agg Ik)/\New w w':=by
 go_in
 go_wp2_with (first|(refine wpList_build rfl 321 _ rfl zk ?_;refine rh rfl 321 _ _ rfl 321 _ Ik zk zk zk rfl zk zk ?_))
 exact bodyPost_ret (results_cell_row rfl _ _ _ _ _ _ _ rfl (heap_alloc_new w _) underlying321 rfl zk) rfl ⟨rfl,(zN w).alloc _⟩
def JF:Array Value:=#[.int .u32 1779033703,.int .u32 3144134277,.int .u32 1013904242,.int .u32 2773480762,.int .u32 1359893119,.int .u32 2600822924,.int .u32 528734635,.int .u32 1541459225]
def lB:Array Value:=JF++Ik++#[.slice none 0 0,.int .i64 0]
theorem Cf(l:List Nat)(hl:∀n∈l,n<4294967296)(j:Nat)(hj:j<l.length):(l.map fun(n:Nat)=>Value.int .u32 (n:Int))[j]?=some (.int .u32 (wv (BitVec.ofNat 32 (l.getD j 0)))):=by
 rw[List.getElem?_map,List.getElem?_eq_getElem hj,List.getD_eq_getElem?_getD,List.getElem?_eq_getElem hj]
 have:=hl _ (List.getElem_mem hj)
 simp only[Option.map_some,Option.getD_some,wv,BitVec.toNat_ofNat]
 rw[Nat.mod_eq_of_lt zo]
theorem rP:lB.toList=(ua.map fun(n:Nat)=>Value.int .u32 (n:Int))++((Cn.map fun(n:Nat)=>Value.int .u32 (n:Int))++[.slice none 0 0,.int .i64 0]):=rfl
theorem EJ(j:Nat)(hj:j<8):lB[j]?=some (.int .u32 (wv (hAt j))):=by
 rw[<- Array.getElem?_toList,rP,List.getElem?_append_left (by simpa[ua] using hj)]
 exact Cf ua Zd j hj
theorem EI(j:Nat)(hj:j<64):lB[8+j]?=some (.int .u32 (wv (kAt j))):=by
 rw[<- Array.getElem?_toList,rP,List.getElem?_append_right (by simp[ua])]
 rw[show 8+j-(ua.map fun(n:Nat)=>Value.int .u32 (n:Int)).length=j from by simp[ua],List.getElem?_append_left (by simpa[Cn] using hj)]
 exact Cf Cn Zd j hj
theorem G0(w:World):Calls prog 271 #[] w fun e w'=>(∃p,e=.returned (.pointer (some ⟨p,0,none⟩))/\Str w' w.heap.size p [])/\New w w':=by
 go_in
 go_wp2_with fail
 refine(Ey _).mono ?_
 rintro e b⟨rfl,h1⟩
 go_wp2_with fail
 refine(uV _).mono ?_
 rintro e a⟨rfl,h2⟩
 go_wp2_with (refine sA rfl 352 _ rfl lB zk ?_)
 go_ret
 refine⟨⟨_,rfl,[],[],rfl,Zd,?_⟩,(h1.new h2).alloc _⟩
 have hc:=fun j=>cell_of_row (a.alloc (.cells lB 352)) a.heap.size j lB 352 (0,0) (heap_alloc_new a _)
 have hf:=fun j=>lQ a lB 352 j
 refine⟨(h1.new h2).size,fun j hj=>⟨?_,hf _⟩,fun j hj=>⟨?_,hf _⟩,rfl,⟨none,0,?_,Own.nil _ _ _ _,by simp[blk]⟩,?_,hf _,hf _⟩
 ·rw[Nat.zero_add,hc];exact EJ j hj
 ·rw[hc];exact EI j hj
 ·rw[hc];exact congrArg some zk
 rw[hc];exact congrArg some zk
theorem CN(base p:Nat)(D:Nat->Prop)(A:Option Addr)(n c:Nat)(bs bs2:List UInt8)(w:World)(hS:Str w base p bs)(hB:Bs w D A n bs2)(hD:∀b,D b->b<base)(hn:bs.length+n<=1099511627776)(hnc:n<=c):
  Calls prog 272 #[.pointer (some ⟨p,0,none⟩),.slice A n c] w fun e w'=>e=.returned (.tuple #[])/\Str w' base p (bs++bs2)/\b_ (fun b=>b<base) w w':=by
 obtain⟨done,rest,rfl,hr,hE⟩:=hS
 obtain⟨A1,c1,f,d,o⟩:=hE.rest
 have ac:=hE.num
 have j:=hE.free.1
 have ak:=hE.free.2
 have aq:=hB.len
 have z:=hE.hp
 have ad:(done++rest).length=done.length+rest.length:=zL
 rw[ad] at ac hn
 have e1:((done.length+rest.length:Nat):Int)=(done.length:Int)+rest.length:=by omega
 rw[e1] at ac
 have HL:=zh ad
 have M:=zh hE
 clear ad e1 hE
 have h1:=M.setNum (done.length+rest.length+n)
 have e2:((done.length+rest.length+n:Nat):Int)=(done.length:Int)+rest.length+n:=by omega
 rw[e2] at h1
 have x:b_ (fun b=>b<base) w (w.setCell ⟨p,73,none⟩ (.int .i64 ((done.length:Int)+rest.length+n))):=(b_.refl _ w).setCell (fun hb=>absurd hb (by simp;omega)) _
 clear e2
 go_in
 go_upto_if 19 with fail
 generalize al:w.setCell ⟨p,73,none⟩ _=Q at h1 x ⊢
 have B:Bs Q D A n bs2:=hB.keep x (fun b _ hd=>hD b hd)
 clear al f ac j ak d o M hB
 obtain⟨A1,c1,f,d,o⟩:=h1.rest
 have j:=h1.free.1
 have K:=zh h1
 clear h1
 go_cut [1] (fun s1 wx=>∃N F L t m,s1=.slice N F L/\F<=L/\Bs wx D N F t/\done++rest++bs2=m++t/\oV wx base p m [] (done.length+rest.length+n)/\b_ (fun b=>b<base) w wx)
 case first =>
  by_cases hz:rest.length=0
  ·obtain rfl:rest=[]:=List.eq_nil_of_length_eq_zero hz
   go_wp2
   go_meet
   exact⟨A,n,c,bs2,done,rfl,hnc,B,by simp,K.out,x⟩
  have ar:0<rest.length:=by omega
  by_cases hk:64-rest.length<n
  ·have hcut:=Bs.Qk B (hi:=64-rest.length) zo
   have i1:(rest.length:Int)<=64:=by omega
   have i2:64-(rest.length:Int)<=c:=by omega
   go_wp2_with fail
   have S:base<=Q.heap.size:=Nat.le_trans z (Nat.le_of_lt K.lt)
   have G:=K.lt
   have s:=Ne.symm o
   have T:rest.length+(64-rest.length)<=140737488355328:=by omega
   go_region_law (refine nF _ rfl (.tmp 33) (.tmp 36) rfl base A1 rest.length c1 rest ?hs d D A (64-rest.length) c _ ?hx hcut T S ?next;(case hs=>simp[Act.eval]);(case hx=>simp[Act.eval]);intro A2 c2 J q g u;have U:=g.cell (a:=⟨p,72,none⟩) f s;have ff:=(g.frozen_far ⟨p,72,none⟩ G s).trans j)
   replace g:=wk g
   have r:=K.put q g u o ⟨_,U⟩
   have V:rest.length+(64-rest.length)=64:=by omega
   rw[V] at r q
   have y:b_ (fun b=>b<base) Q (J.setCell ⟨p,72,none⟩ (.slice A2 64 c2)):=((b_.refl _ Q).grown (w':=J) g (fun k hk hd=>absurd hd (by have:=eW d k hk;omega))).setCell (fun hb=>absurd hb (by simp;omega)) _
   have W:=x.trans y
   simp only[V]
   generalize J.setCell ⟨p,72,none⟩ _=X at *
   have ah:Bs X D A n bs2:=B.keep y (fun b _ hd=>hD b hd)
   have ag:=Bs.from_ ah (l:=64-rest.length) zo
   have v:(rest++List.take (64-rest.length) bs2).length=64:=by rw[zL,List.length_take];omega
   clear q g u U ff f d o s j K x B hcut
   obtain⟨Y,Z,f,d,o⟩:=r.rest
   rw[v] at f d
   have j:=r.free.1
   have R:=zh r
   have HR:=zh v
   clear r v
   go_wp2_with fail
   have ht:=qu p 0 p 8 (fun b=>base<=b) Y Z _ (i9 hAt done (done.length/64)) X.drew (Row.Qc d) (by have:=ew d;omega) R.state R.ks
   have HT:=zh ht
   clear ht
   go_region_with (go_at_call 291;refine HT.mono ?_;rintro e w4 ⟨rfl,h1,h2,h3,O⟩)
   replace h2:=mN h2
   have H:=R.turned HR.out d o h1 h2 h3 O
   have am:=(h3 72 zo).trans f
   have an:=(O 72).trans j
   have I:b_ (fun b=>b<base) X (w4.setCell ⟨p,72,none⟩ (.slice Y 0 Z)):=b_.setCell (p:=⟨p,72,none⟩) (h2.imp (E:=fun b=>b<base) fun i hi hb=>Nat.ne_of_lt (Nat.lt_of_lt_of_le hb z)) (fun hb=>absurd hb (Nat.not_lt.2 z)) _
   clear h1 h2 h3 O HT f j d
   go_wp2
   go_meet
   refine⟨_,_,_,_,_,rfl,zo,ag.keep I (fun b _ hd=>hD b hd),?_,H,W.trans I⟩
   simp only[List.append_assoc,List.take_append_drop]
  replace hk:n<=64-rest.length:=Nat.le_of_not_lt hk
  have hcut:=Bs.Qk B (hi:=n) zo
  have i1:(rest.length:Int)<=64:=by omega
  have i2:(n:Int)<=c:=by omega
  go_wp2_with fail
  have S:base<=Q.heap.size:=Nat.le_trans z (Nat.le_of_lt K.lt)
  have G:=K.lt
  have s:=Ne.symm o
  have T:rest.length+n<=140737488355328:=by omega
  go_region_law (refine nF _ rfl (.tmp 33) (.tmp 36) rfl base A1 rest.length c1 rest ?hs2 d D A n c _ ?hx2 hcut T S ?next2;(case hs2=>simp[Act.eval]);(case hx2=>simp[Act.eval]);intro A2 c2 J q g u;have U:=g.cell (a:=⟨p,72,none⟩) f s;have ff:=(g.frozen_far ⟨p,72,none⟩ G s).trans j)
  replace g:=wk g
  have r:=K.put q g u o ⟨_,U⟩
  by_cases V:rest.length+n=64
  ·skip
   rw[V] at r q
   have y:b_ (fun b=>b<base) Q (J.setCell ⟨p,72,none⟩ (.slice A2 64 c2)):=((b_.refl _ Q).grown (w':=J) g (fun k hk hd=>absurd hd (by have:=eW d k hk;omega))).setCell (fun hb=>absurd hb (by simp;omega)) _
   have W:=x.trans y
   simp only[V]
   generalize J.setCell ⟨p,72,none⟩ _=X at *
   have ah:Bs X D A n bs2:=B.keep y (fun b _ hd=>hD b hd)
   have v:(rest++List.take n bs2).length=64:=by rw[zL,List.length_take];omega
   clear q g u U ff f d o s j K x B hcut
   obtain⟨Y,Z,f,d,o⟩:=r.rest
   rw[v] at f d
   have j:=r.free.1
   have R:=zh r
   have HR:=zh v
   clear r v
   by_cases ao:c=n
   all_goals
    go_wp2_with fail
    have ht:=qu p 0 p 8 (fun b=>base<=b) Y Z _ (i9 hAt done (done.length/64)) X.drew (Row.Qc d) (by have:=ew d;omega) R.state R.ks
    have HT:=zh ht
    clear ht
    go_region_with (go_at_call 291;refine HT.mono ?_;rintro e w4 ⟨rfl,h1,h2,h3,O⟩)
    replace h2:=mN h2
    have H:=R.turned HR.out d o h1 h2 h3 O
    have am:=(h3 72 zo).trans f
    have an:=(O 72).trans j
    have I:b_ (fun b=>b<base) X (w4.setCell ⟨p,72,none⟩ (.slice Y 0 Z)):=b_.setCell (p:=⟨p,72,none⟩) (h2.imp (E:=fun b=>b<base) fun i hi hb=>Nat.ne_of_lt (Nat.lt_of_lt_of_le hb z)) (fun hb=>absurd hb (Nat.not_lt.2 z)) _
    clear h1 h2 h3 O HT f j d
    go_wp2
    go_meet
    refine⟨_,_,_,[],_,rfl,zo,⟨by simp,fun h=>absurd h zo⟩,?_,H,W.trans I⟩
    rw[List.take_of_length_le zo];simp
  have hlt:rest.length+n<64:=by omega
  have ai:List.take n bs2=bs2:=List.take_of_length_le zo
  rw[ai] at r
  have y:b_ (fun b=>b<base) Q (J.setCell ⟨p,72,none⟩ (.slice A2 (rest.length+n) c2)):=((b_.refl _ Q).grown (w':=J) g (fun k hk hd=>absurd hd (by have:=eW d k hk;omega))).setCell (fun hb=>absurd hb (by simp;omega)) _
  have W:=x.trans y
  generalize J.setCell ⟨p,72,none⟩ _=X at *
  clear q g u U ff f d o s j K x B hcut
  obtain⟨Y,Z,f,d,o⟩:=r.rest
  have v:(rest++bs2).length=rest.length+n:=by rw[zL];omega
  rw[v] at f d
  have R:=zh r
  have HR:=zh v
  clear r v ai
  by_cases ao:c=n
  all_goals
   go_wp2
   refine bodyPost_ret (results_none rfl _ _ _) rfl ⟨rfl,⟨done,rest++bs2,by simp,by rw[HR.out];exact hlt,?_⟩,W⟩
   have:=R.out
   rw[show(done++rest++bs2).length=done.length+rest.length+n from by simp;omega]
   exact this
 clear B f d o j K x HL
 obtain⟨N,F,L,t,m,rfl,ae,C,aa,ab,P⟩:=hcut
 have HQ:=zh aa
 clear aa
 go_wp2_with fail
 go_loopw [1] (fun s1 wx=>∃N F L t m,s1=.slice N F L/\F<=L/\F<=1099511627776/\Bs wx D N F t/\done++rest++bs2=m++t/\oV wx base p m [] (done.length+rest.length+n)/\b_ (fun b=>b<base) w wx) (fun s1 _=>jd s1)
 case atStart=>exact⟨_,_,_,_,_,rfl,ae,by have h1:=congrArg List.length HQ.out;have h2:=C.len;simp at h1;omega,C,HQ.out,ab,P⟩
 clear C ab P HQ ae
 obtain⟨N,F,L,t,m,rfl,ae,au,C,aa,ab,P⟩:=hrel
 have HQ:=zh aa
 have M:=zh ab
 clear aa ab
 have ap:=C.len
 by_cases hlt:64<=F
 ·have hcut:=Bs.Qk C (hi:=64) zo
  have i1:(64:Int)<=L:=by omega
  have ht:=qu p 0 p 8 D N L _ (i9 hAt m (m.length/64)) wr.drew hcut zo M.state M.ks
  have HT:=zh ht
  clear ht
  go_wp2_with fail
  go_region_with (go_at_call 291;refine HT.mono ?_;rintro e w4 ⟨rfl,h1,h2,h3,O⟩)
  replace h2:=mN h2
  have H:=M.turn1 (bk:=List.take 64 t) (by rw[List.length_take];omega) h1 h2 h3 O
  have I:b_ (fun b=>b<base) wr w4:=h2.imp (E:=fun b=>b<base) fun i hi hb=>Nat.ne_of_lt (Nat.lt_of_lt_of_le hb z)
  have aj:=C.keep I (fun b _ hd=>hD b hd)
  have af:done++rest++bs2=m++List.take 64 t++List.drop 64 t:=by rw[HQ.out,List.append_assoc,List.take_append_drop]
  have HC:=zh af
  clear h1 h2 h3 O HT hcut af C ap
  have av:=Bs.len aj
  by_cases aw:L=64
  ·have hx:=Row.nil w4 D N 1
   go_wp2
   go_roundw
   case rel=>exact⟨_,_,_,List.drop 64 t,_,rfl,zo,zo,by rw[List.drop_eq_nil_of_le zo];exact⟨by simp;omega,fun h=>absurd h zo⟩,HC.out,H,P.trans I⟩
   simp[jd];omega
  have hx:=Bs.from_ aj (l:=64) hlt
  go_wp2
  go_roundw
  case rel=>exact⟨_,_,_,List.drop 64 t,_,rfl,zo,zo,hx,HC.out,H,P.trans I⟩
  simp[jd];omega
 obtain⟨Y,Z,f,d,o⟩:=M.rest
 have j:=M.free.1
 have G:=M.lt
 have s:=Ne.symm o
 have S:base<=wr.heap.size:=Nat.le_trans z (Nat.le_of_lt G)
 have T:([]:List UInt8).length+F<=140737488355328:=by simp;omega
 go_wp2_with (at_builtin;refine fK _ rfl (.tmp 86) (.tmp 87) rfl base Y _ Z [] rfl d D N F L t rfl C T S ?_;intro A2 c2 J q g u;have U:=g.cell (a:=⟨p,72,none⟩) f s;have ff:=(g.frozen_far ⟨p,72,none⟩ G s).trans j)
 go_end0
 refine⟨rfl,⟨m,t,HQ.out,zo,?_⟩,?_⟩
 ·have r:=M.put q g u o ⟨_,U⟩
  rw[show(done++rest++bs2).length=done.length+rest.length+n from by simp;omega]
  simpa using r
 exact(P.grown (w':=J) g (fun k hk hd=>absurd hd (by have:=eW d k hk;omega))).setCell (p:=⟨p,72,none⟩) (fun hb=>absurd hb (Nat.not_lt.2 z)) _
