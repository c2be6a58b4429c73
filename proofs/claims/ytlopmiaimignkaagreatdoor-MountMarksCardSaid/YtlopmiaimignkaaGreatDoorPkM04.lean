/-
  PROVED HERE: parts of a law's walk, each under the conditions that its statement names.
-/
import Derived.Test.YtlopmiaimignkaaGreatDoorPkM03
set_option maxRecDepth 100000
set_option maxHeartbeats 2000000
namespace Go.Proofs.YtlopmiaimignkaaGreatDoor
open Go.Proofs.Tryz
open Go.RowKit
variable{w:World}{D:Nat->Prop}{A:Option Addr}{n:Nat}{ls:List (List UInt8)}
def Bss(w:World)(D:Nat->Prop)(A:Option Addr)(n:Nat)(ls:List (List UInt8)):Prop :=
 ∃vs:List Value,Row w D A n 1 vs/\ls.length=n/\∀k (h:k<ls.length),∃A' c',vs[k]?=some (.slice A' ls[k].length c')/\ls[k].length<=c'/\Bs w D A' ls[k].length ls[k]
theorem Bss.len(h:Bss w D A n ls):ls.length=n:=by obtain⟨_,_,h,_⟩:=h;exact h
theorem Bss.imp{w:World}{D E:Nat->Prop}{A:Option Addr}{n:Nat}{ls:List (List UInt8)}(h:Bss w D A n ls)(hE:∀b,b<w.heap.size->D b->E b):Bss w E A n ls:=by
 obtain⟨a,h1,h2,h3⟩:=h
 refine⟨a,h1.imp hE,h2,fun k hk=>?_⟩
 obtain⟨c,d,e,hc,hb⟩:=h3 k hk
 exact⟨c,d,e,hc,hb.imp hE⟩
theorem Bss.keep{w w':World}{D E:Nat->Prop}{A:Option Addr}{n:Nat}{ls:List (List UInt8)}(h:Bss w D A n ls)(hk:b_ E w w')(hE:∀b,b<w.heap.size->D b->E b):Bss w' D A n ls:=by
 obtain⟨c,h1,h2,h3⟩:=h
 refine⟨c,h1.keep hk hE,h2,fun k a=>?_⟩
 obtain⟨d,f,e,hc,hb⟩:=h3 k a
 exact⟨d,f,e,hc,hb.keep hk hE⟩
theorem Bss.new{w':World}(h:Bss w D A n ls)(hk:New w w'):Bss w' D A n ls:=h.keep hk fun _ _ _=>trivial
theorem Bss.at_(h:Bss w D A n ls){k:Nat}(hk:k<ls.length):
  ∃b off A' c',A=some ⟨b,off,none⟩/\w.cell? ⟨b,off+k,none⟩=some (.slice A' ls[k].length c')/\ls[k].length<=c'/\Bs w D A' ls[k].length ls[k]:=by
 obtain⟨c,h1,h2,h3⟩:=h
 obtain⟨A',c',e,hc,hb⟩:=h3 k hk
 obtain⟨b,off,hA,_,_,a⟩:=h1.2 zo
 exact⟨b,off,A',c',hA,a k _ e,hc,hb⟩
theorem eQ{base base':Nat}{e:TypeId}{size c:Nat}{xs:List Value}(h:Own w base' e size A n c xs)(hb:base<=base'):Own w base e size A n c xs:=by
 refine⟨h.1,?_⟩
 rcases h.2 with hn|⟨g,a,b,d,hg,rest⟩
 ·exact .inl hn
 exact .inr ⟨g,a,b,d,Nat.le_trans hb hg,rest⟩
theorem Bss.lit(w:World)(t:TypeId)(vs:List Value)(ls:List (List UInt8))(hl:vs.length=ls.length)(h:∀k (hk:k<ls.length),∃A' c',vs[k]?=some (.slice A' ls[k].length c')/\ls[k].length<=c'/\∃D,Bs w D A' ls[k].length ls[k]):
  Bss (w.alloc (.cells vs.toArray t)) (fun _=>True) (some ⟨w.heap.size,0,none⟩) ls.length ls:=by
 refine⟨vs,?_,rfl,fun k hk=>?_⟩
 ·have:=Row.made w t vs.toArray ls.length 1 (by simpa using hl)
  exact this.imp fun _ _ _=>trivial
 obtain⟨A',c',e,hc,D,hb⟩:=h k hk
 exact⟨A',c',e,hc,(hb.imp fun _ _ _=>zt).alloc _⟩
theorem ma(ls:List (List UInt8))(k:Nat)(hk:k<ls.length):(ls.take (k+1)).flatten=(ls.take k).flatten++ls[k]:=by
 rw[List.take_succ_eq_append_getElem hk,List.flatten_append];simp
theorem ky(ls:List (List UInt8))(k:Nat)(hk:k<ls.length):(ls.take k).flatten.length+ls[k].length<=ls.flatten.length:=by
 have h:=congrArg List.length (ma ls k hk)
 rw[zL] at h
 rw[<- h]
 conv=>rhs;rw[<- List.take_append_drop (k+1) ls,List.flatten_append,zL]
 omega
theorem AZ(D:Nat->Prop)(A:Option Addr)(n c:Nat)(ls:List (List UInt8))(w:World)(hB:Bss w D A n ls)(hn:ls.flatten.length<=1099511627776)(hm:n<=9223372036854775807):
  Calls prog 236 #[.slice A n c] w fun e w'=>(∃A' c',e=.returned (.slice A' 32 c')/\fy w' w.heap.size 5 A' 32 c' (gL ls.flatten))/\New w w':=by
 have g:Bss w (fun b=>b<w.heap.size) A n ls:=hB.imp fun b hb _=>hb
 have o:=hB.len
 clear hB
 have u:=zh g
 clear g
 go_in
 go_wp2_with fail
 refine(G0 _).mono ?_
 rintro e y⟨⟨p,rfl,a⟩,j⟩
 go_wp2_with fail
 go_loopw [9] (fun i q=>∃k:Nat,k<=n/\i=.int .i64 k/\Str q w.heap.size p (ls.take k).flatten/\New w q) (fun i _=>n-(intOf i).toNat)
 case atStart=>exact⟨0,Nat.zero_le _,rfl,by simpa using a,j⟩
 clear a j
 obtain⟨k,hk,rfl,a,f⟩:=hrel
 by_cases hlt:k<n
 ·obtain⟨b,off,A',c',rfl,hc,l,hb⟩:=(u.new f).at_ (k:=k) zo
  have hfl:=ky ls k zo
  have r:=zh<|ma ls k zo
  generalize ls[k]'_=x at *
  have s:=zh<|CN w.heap.size p (fun b=>b<w.heap.size) A' x.length c' _ x wr a hb (fun _ h=>h) zo l
  clear a hb hfl o
  go_wp2_with fail
  refine s.mono ?_
  rintro e v⟨rfl,t,d⟩
  clear hc s
  go_wp2
  go_roundw
  case rel=>exact⟨k+1,zo,by go_num,by rw[r.out];exact t,(b_.trans (D:=fun b=>b<w.heap.size) (b_.Qe f) d).Qi (fun i hi=>hi)⟩
  simp[intOf];omega
 obtain rfl:k=n:=by omega
 rw[List.take_of_length_le zo] at a
 go_wp2_with fail
 refine(GG _ _ _ _ a hn).mono ?_
 rintro e v⟨⟨A',c',rfl,m⟩,d⟩
 go_wp2
 go_ret
 exact⟨⟨A',c',rfl,eQ m f.size⟩,f.new d⟩
theorem mm(D:Nat->Prop)(A:Option Addr)(n c:Nat)(bs:List UInt8)(w:World)(hB:Bs w D A n bs)(hc:n<=c)(hn:n<=1099511627776):
  Calls prog 152 #[.slice A n c] w fun e w'=>(∃A' c',e=.returned (.slice A' 32 c')/\fy w' w.heap.size 5 A' 32 c' (gL bs))/\New w w':=by
 have hl:=hB.len
 have b:=zh<|Bss.lit w 22 [.slice A n c] [bs] rfl (fun k hk=>match k,hk with|0,_=>⟨A,c,by simp[hl],by simp[hl];exact hc,D,by simpa[hl] using hB⟩)
 have d:=zh<|show([bs]:List (List UInt8)).flatten=bs by simp
 have g:=zh hl
 clear hl
 go_in
 go_wp2_with fail
 refine(AZ _ _ _ _ [bs] _ b.out (by rw[d.out,g.out];exact hn) (by simp)).mono ?_
 rintro e h⟨⟨A',c',rfl,a⟩,f⟩
 rw[d.out] at a
 go_wp2
 go_ret
 exact⟨⟨A',c',rfl,eQ a ((zN w).alloc _).size⟩,((zN w).alloc _).new f⟩
theorem FA(D:Nat->Prop)(A:Option Addr)(n c:Nat)(bs:List UInt8)(w:World)(hB:Bs w D A n bs)(hc:n<=c)(hn:n<=1099511620000):
  Calls prog 205 #[.slice A n c] w fun e w'=>(∃A' c',e=.returned (.slice A' 32 c')/\fy w' w.heap.size 5 A' 32 c' (gL (0::bs)))/\New w w':=by
 have hl:=hB.len
 have h0:=oa w 5 0 _ rfl
 have a:=(Bss.lit (w.alloc (.cells #[.int .u8 0] 5)) 22 [.slice (some ⟨w.heap.size,0,none⟩) 1 1,.slice A n c] [[0],bs] rfl
  (fun k hk=>match k,hk with|0,_=>⟨_,1,rfl,by simp,_,h0⟩|1,_=>⟨A,c,by simp[hl],by simp[hl];exact hc,D,by simpa[hl] using hB.alloc _⟩))
 rw[show(w.alloc (.cells #[.int .u8 0] 5)).heap.size=w.heap.size+1 from by simp] at a
 replace a:=zh a
 have d:=zh<|show([[0],bs]:List (List UInt8)).flatten=0::bs by simp
 have g:=zh hl
 clear hl h0
 go_in
 go_wp2_with fail
 refine(AZ _ _ _ _ [[0],bs] _ a.out (by rw[d.out,List.length_cons,g.out];omega) (by simp)).mono ?_
 rintro e h⟨⟨A',c',rfl,b⟩,f⟩
 rw[d.out] at b
 go_wp2
 go_ret
 exact⟨⟨A',c',rfl,eQ b (((zN w).alloc _).alloc _).size⟩,(((zN w).alloc _).alloc _).new f⟩
theorem Fa(D D2:Nat->Prop)(A A2:Option Addr)(n c n2 c2:Nat)(bs bs2:List UInt8)(w:World)(hB:Bs w D A n bs)(hc:n<=c)(hB2:Bs w D2 A2 n2 bs2)(hc2:n2<=c2)(hn:n+n2<=1099511620000):
  Calls prog 207 #[.slice A n c,.slice A2 n2 c2] w fun e w'=>(∃A' c',e=.returned (.slice A' 32 c')/\fy w' w.heap.size 5 A' 32 c' (gL (1::(bs++bs2))))/\New w w':=by
 have hl:=hB.len
 have b:=hB2.len
 have h0:=oa w 5 1 _ rfl
 have a:=(Bss.lit (w.alloc (.cells #[.int .u8 1] 5)) 22 [.slice (some ⟨w.heap.size,0,none⟩) 1 1,.slice A n c,.slice A2 n2 c2] [[1],bs,bs2] rfl
  (fun k hk=>match k,hk with|0,_=>⟨_,1,rfl,by simp,_,h0⟩|1,_=>⟨A,c,by simp[hl],by simp[hl];exact hc,D,by simpa[hl] using hB.alloc _⟩|2,_=>⟨A2,c2,by simp[b],by simp[b];exact hc2,D2,by simpa[b] using hB2.alloc _⟩))
 rw[show(w.alloc (.cells #[.int .u8 1] 5)).heap.size=w.heap.size+1 from by simp] at a
 replace a:=zh a
 have f:=zh<|show([[1],bs,bs2]:List (List UInt8)).flatten=1::(bs++bs2) by simp
 have i:=zh hl
 have g:=zh b
 clear hl b h0
 go_in
 go_wp2_with fail
 refine(AZ _ _ _ _ [[1],bs,bs2] _ a.out (by rw[f.out,List.length_cons,zL,i.out,g.out];omega) (by simp)).mono ?_
 rintro e j⟨⟨A',c',rfl,d⟩,h⟩
 rw[f.out] at d
 go_wp2
 go_ret
 exact⟨⟨A',c',rfl,eQ d (((zN w).alloc _).alloc _).size⟩,(((zN w).alloc _).alloc _).new h⟩
def uq(c:BitVec 32):BitVec 32:=if c &&& 1#32=1#32 then(c >>> 1) ^^^ 3988292384#32 else c >>> 1
def sL:Nat->BitVec 32->BitVec 32
 | 0,c=>c
 | n+1,c=>uq (sL n c)
def sK(c:BitVec 32)(b:UInt8):BitVec 32:=sL 8 (c ^^^ bw b)
def q_(c:BitVec 32)(bs:List UInt8)(k:Nat):BitVec 32:=(bs.take k).foldl sK c
theorem BN(c:BitVec 32)(bs:List UInt8)(k:Nat)(hk:k<bs.length):q_ c bs (k+1)=sK (q_ c bs k) bs[k]:=by
 unfold q_;rw[List.take_succ_eq_append_getElem hk,List.foldl_append];rfl
def Cy(c:BitVec 32)(bs:List UInt8):BitVec 32 := ~~~(bs.foldl sK (~~~c))
def fp(bs:List UInt8):BitVec 32:=Cy 0#32 bs
theorem F'(D:Nat->Prop)(c:BitVec 32)(A:Option Addr)(n cap:Nat)(bs:List UInt8)(w:World)(hB:Bs w D A n bs)(hn:n<=9223372036854775807):
  Calls prog 208 #[.int .u32 (wv c),.slice A n cap] w fun e w'=>e=.returned (.int .u32 (wv (Cy c bs)))/\w=w':=by
 have hl:=hB.len
 have f:=zh hl
 clear hl
 go_in
 go_wp2
 go_loop [0,12] (fun d i=>∃k:Nat,k<=n/\i=.int .i64 k/\d=.int .u32 (wv (q_ (~~~c) bs k))) (fun _ i=>n-(intOf i).toNat)
 case atStart=>exact⟨0,Nat.zero_le _,rfl,rfl⟩
 obtain⟨k,hk,rfl,rfl⟩:=hrel
 by_cases hlt:k<n
 ·have hb:k<bs.length:=by rw[f.out];exact hlt
  obtain⟨b,off,rfl,_,_,hc⟩:=hB.cellAt zo
  have g:=hc k hb
  have h:=zh<|BN (~~~c) bs k hb
  clear hc hB
  generalize bs[k]'_=x at g h
  clear hb
  go_wp2
  go_loop [0,20] (fun d i=>∃j:Nat,j<=8/\i=.int .i64 j/\d=.int .u32 (wv (sL j (q_ (~~~c) bs k ^^^ bw x)))) (fun _ i=>8-(intOf i).toNat)
  case atStart=>exact⟨0,Nat.zero_le _,rfl,rfl⟩
  obtain⟨j,hj,rfl,rfl⟩:=hrel
  by_cases l:j<8
  ·by_cases a:sL j (q_ (~~~c) bs k ^^^ bw x) &&& 1#32=1#32
   ·go_wp2
    go_round
    case rel=>exact⟨j+1,zo,by go_num,by show _=Value.int .u32 (wv (uq _));unfold uq;rw[if_pos a]⟩
    simp[intOf];omega
   go_wp2
   go_round
   case rel=>exact⟨j+1,zo,by go_num,by show _=Value.int .u32 (wv (uq _));unfold uq;rw[if_neg a]⟩
   simp[intOf];omega
  obtain rfl:j=8:=by omega
  go_wp2
  go_round
  case rel=>exact⟨k+1,zo,by go_num,by rw[h.out];rfl⟩
  simp[intOf];omega
 obtain rfl:k=n:=by omega
 go_wp2
 go_ret
 refine⟨?_,rfl⟩
 have e:q_ (~~~c) bs k=bs.foldl sK (~~~c):=by unfold q_;rw[List.take_of_length_le (by rw[f.out];exact Nat.le_refl _)]
 show Ending.returned (Value.int .u32 (wv (~~~(q_ (~~~c) bs k))))=_
 rw[e];rfl
theorem pn(D:Nat->Prop)(A:Option Addr)(n cap:Nat)(bs:List UInt8)(w:World)(hB:Bs w D A n bs)(hn:n<=9223372036854775807):
  Calls prog 110 #[.slice A n cap] w fun e w'=>e=.returned (.int .u32 (wv (fp bs)))/\w=w':=by
 go_in
 go_wp2_with fail
 refine(F' D 0#32 A n cap bs w hB hn).mono ?_
 rintro e w'⟨rfl,rfl⟩
 go_wp2
 go_ret
 exact⟨rfl,rfl⟩
theorem Cx(A:Option Addr)(n c m:Nat)(bs:List UInt8)(D:Nat->Prop)(w:World)(_hB:Bs w D A n bs)(_hn:n<=9223372036854775807)(hnc:n<=c)(hm:m<=9223372036854775807):
  Calls prog 5 #[.slice A n c,.int .i64 m] w fun e w'=>e=.returned (.slice A (min n m) c)/\w=w':=by
 by_cases hlt:m<n
 ·have e:min n m=m:=by omega
  rw[e]
  clear e
  go_in
  go_wp2
  go_ret
  exact⟨rfl,rfl⟩
 have e:min n m=n:=by omega
 rw[e]
 clear e
 go_in
 go_wp2
 go_ret
 exact⟨rfl,rfl⟩
