/-
  PROVED HERE: what record.Right, Size, Encode and segment.four answer; conditions: lengths that a slice may have.
-/
import Derived.Test.YtlopmiaimignkaaGreatDoorPkM06
set_option maxRecDepth 100000
namespace Go.Proofs.YtlopmiaimignkaaGreatDoor
open Go.Proofs.Tryz
open Go.RowKit
structure eA where
 kind:Int
 seq:Int
 body:List UInt8
def dZ(r:eA):Bool:=decide (r.seq<=1099511627776/\r.body.length<=900/\(r.kind=1\/r.kind=2/\r.body.length=0))
def jl(r:eA):List UInt8:=beI 1 r.kind++beI 8 r.seq++dU r.body
def gS(r:eA):List UInt8:=jl r++be4 (fp (jl r))
def eU(r:eA):Nat:=if dZ r then 15+r.body.length else 0
theorem kq(bs:List UInt8):(dU bs).length=2+min bs.length 65535:=by unfold dU;rw[zL,dL,List.length_take,Nat.min_comm]
theorem oE(r:eA):(jl r).length=11+min r.body.length 65535:=by simp only[jl,zL,dL,kq];omega
theorem pI(r:eA):(gS r).length=15+min r.body.length 65535:=by simp only[gS,zL,oE,be4,List.length_cons,List.length_nil];omega
theorem mh(ki se:Int)(A:Option Addr)(n c:Nat)(r:eA)(w:World)(hk:r.kind=ki)(hs:r.seq=se)(hl:r.body.length=n)(hn:n<=9223372036854775807):
  Calls prog 25 #[.agg #[.int .i64 ki,.int .u64 se,.slice A n c]] w fun e w'=>e=.returned (.bool (dZ r))/\New w w':=by
 have d:∀o,New w (w.alloc o):=fun o=>(zN w).alloc o
 have b:=zh d
 clear d
 have a:dZ r=decide (se<=1099511627776/\n<=900/\(ki=1\/ki=2/\n=0)):=by unfold dZ;rw[hk,hs,hl]
 rw[a]
 clear a hk hs hl
 by_cases h1:1099511627776<se
 ·have a:decide (se<=1099511627776/\n<=900/\(ki=1\/ki=2/\n=0))=false:=by simp;omega
  rw[a]
  clear a
  go_in
  go_wp2
  go_ret
  exact⟨rfl,b.out _⟩
 by_cases h2:900<n
 ·have a:decide (se<=1099511627776/\n<=900/\(ki=1\/ki=2/\n=0))=false:=by simp;omega
  have f:(900:Int)<n:=by omega
  rw[a]
  clear a
  go_in
  go_wp2
  go_ret
  exact⟨rfl,b.out _⟩
 have f:¬(900:Int)<n:=by omega
 by_cases h3:ki=1
 ·have a:decide (se<=1099511627776/\n<=900/\(ki=1\/ki=2/\n=0))=true:=by simp;omega
  rw[a]
  clear a
  subst h3
  go_in
  go_wp2
  go_ret
  exact⟨rfl,b.out _⟩
 have h:(ki==1)=false:=by simp;omega
 by_cases g:ki=2
 ·subst g
  by_cases h5:n=0
  ·subst h5
   have a:decide (se<=1099511627776/\0<=900/\((2:Int)=1\/(2:Int)=2/\0=0))=true:=by simp;omega
   rw[a]
   clear a
   go_in
   go_wp2
   go_ret
   exact⟨rfl,b.out _⟩
  have i:((n:Int)==0)=false:=by simp;omega
  have a:decide (se<=1099511627776/\n<=900/\((2:Int)=1\/(2:Int)=2/\n=0))=false:=by simp;omega
  rw[a]
  clear a
  go_in
  go_wp2
  go_ret
  exact⟨rfl,b.out _⟩
 have j:(ki==2)=false:=by simp;omega
 have a:decide (se<=1099511627776/\n<=900/\(ki=1\/ki=2/\n=0))=false:=by simp;omega
 rw[a]
 clear a
 go_in
 go_wp2
 go_ret
 exact⟨rfl,b.out _⟩
theorem EO(ki se:Int)(A:Option Addr)(n c:Nat)(r:eA)(w:World)(hk:r.kind=ki)(hs:r.seq=se)(hl:r.body.length=n)(hn:n<=9223372036854775000):
  Calls prog 100 #[.agg #[.int .i64 ki,.int .u64 se,.slice A n c]] w fun e w'=>e=.returned (.int .i64 (eU r))/\New w w':=by
 have h:∀o,New w (w.alloc o):=fun o=>(zN w).alloc o
 have i:=zh h
 clear h
 have j:=mh ki se A n c r
 have l:=zh j
 clear j
 have m:=zh hk
 have p:=zh hs
 have f:=zh hl
 clear hk hs hl
 by_cases b:dZ r=true
 ·have hz:eU r=15+n:=by unfold eU;rw[if_pos b,f.out]
  rw[hz]
  have g:=zh b
  clear hz b
  go_in
  go_wp2_with fail
  refine(l.out _ m.out p.out f.out zo).mono ?_
  rintro e q⟨rfl,a⟩
  have hb:q.heap[w.heap.size]?=some (.cells #[.int .i64 ki,.int .u64 se,.slice A n c] 45 (0,0)):=a.Qa (heap_alloc_new w _) trivial
  have s:=a_ hb (k:=2) rfl
  clear hb
  rw[g.out]
  go_wp2
  go_ret
  exact⟨by go_num,(i.out _).new a⟩
 have d:dZ r=false:=by simpa using b
 have hz:eU r=0:=by unfold eU;rw[if_neg b]
 rw[hz]
 have g:=zh d
 clear hz b d
 go_in
 go_wp2_with fail
 refine(l.out _ m.out p.out f.out zo).mono ?_
 rintro e q⟨rfl,a⟩
 rw[g.out]
 go_wp2
 go_ret
 exact⟨rfl,(i.out _).new a⟩
theorem GW(w:World)(t:TypeId)(size n:Nat)(cs:Array Value)(h:cs.size=n*size)(hn:n<=maxLen):Own (w.alloc (.cells cs t)) w.heap.size t size (some ⟨w.heap.size,0,none⟩) n n cs.toList :=
 ⟨by simpa using h,.inr ⟨w.heap.size,n,cs,rfl,zr,heap_alloc_new w _,zr,hn,h,List.take_of_length_le (by simp[h])⟩⟩
theorem vt(w:World)(a b c d:UInt8):fy (w.alloc (.cells #[.int .u8 (bv a),.int .u8 (bv b),.int .u8 (bv c),.int .u8 (bv d)] 5)) w.heap.size 5 (some ⟨w.heap.size,0,none⟩) 4 4 [a,b,c,d] :=
 GW w _ 1 4 _ rfl Zd
theorem ue(x:BitVec 32)(w:World):
  Calls prog 109 #[.int .u32 (wv x)] w fun e w'=>(∃A' c',e=.returned (.slice A' 4 c')/\fy w' w.heap.size 5 A' 4 c' (be4 x))/\New w w':=by
 go_in
 go_wp2
 go_ret
 exact⟨⟨_,_,rfl,vt w _ _ _ _⟩,(zN _).alloc _⟩
theorem tv(D:Nat->Prop)(A:Option Addr)(n c:Nat)(bs:List UInt8)(w:World)(hB:Bs w D A n bs)(hn:n<=9223372036854775807):
  Calls prog 256 #[.slice A n c] w fun e w'=>(∃A' c',e=.returned (.slice A' 4 c')/\fy w' w.heap.size 5 A' 4 c' (be4 (fp bs)))/\New w w':=by
 go_in
 go_wp2_with fail
 refine(pn D A n c bs w hB hn).mono ?_
 rintro e a⟨rfl,rfl⟩
 go_wp2
 go_ret
 exact⟨⟨_,_,rfl,vt w _ _ _ _⟩,(zN _).alloc _⟩
theorem BF(D:Nat->Prop)(A:Option Addr)(n c:Nat)(r:eA)(w:World)(hB:Bs w D A n r.body)(hnc:n<=c)(hn:n<=9223372036854775000)(hs0:0<=r.seq)(hs1:r.seq<=18446744073709551615)(hr:dZ r=true):
  Calls prog 203 #[.agg #[.int .i64 r.kind,.int .u64 r.seq,.slice A n c]] w fun e w' =>
   (∃A' c',e=.returned (.tuple #[.slice A' (gS r).length c',.int .i64 0])/\fy w' w.heap.size 5 A' (gS r).length c' (gS r))/\New w w':=by
 have hl:=hB.len
 have HR:=zh<|fun w'=>mh r.kind r.seq A n c r w' rfl rfl hl zo
 have z:(w.alloc (.cells #[.int .i64 r.kind,.int .u64 r.seq,.slice A n c] 45)).heap[w.heap.size]?=some (.cells #[.int .i64 r.kind,.int .u64 r.seq,.slice A n c] 45 (0,0)):=heap_alloc_new w _
 have B:New w (w.alloc (.cells #[.int .i64 r.kind,.int .u64 r.seq,.slice A n c] 45)):=(zN w).alloc _
 have HB:=zh z
 clear z
 have ab:n<=900:=by unfold dZ at hr;simp at hr;omega
 have HQ:=zh hr
 have R:=zh hl
 clear hr hl
 go_in
 go_wp2_with fail
 refine(HR.out _).mono ?_
 rintro e S⟨rfl,f⟩
 have hlt:w.heap.size<S.heap.size:=Nat.lt_of_lt_of_le (by simp) f.size
 have T:=zh<|f.Qa HB.out zt
 have m:=B.new f
 clear B f
 rw[HQ.out]
 go_wp2_with fail
 refine(gV _).mono ?_
 rintro e w2⟨⟨p,rfl,C⟩,o⟩
 have F:=zh<|o.Qa T.out zt
 have q:=a_ F.out (k:=0) rfl
 generalize S.heap.size=base at *
 go_wp2_with fail
 clear q
 refine(mg base p _ r.kind w2 C (by simp)).mono ?_
 rintro e w3⟨rfl,G,s⟩
 have I:=zh<|s.Qa F.out hlt
 have q:=a_ I.out (k:=1) rfl
 clear C
 go_wp2_with fail
 clear q
 refine(jw base p _ r.seq w3 G hs0 hs1 (by simp[dL])).mono ?_
 rintro e Q⟨rfl,J,t⟩
 have U:=zh<|t.Qa I.out hlt
 have q:=a_ U.out (k:=2) rfl
 have d:b_ (fun b=>b<base) w Q:=((b_.Qe (m.new o)).trans s).trans t
 have K:Bs Q (fun b=>b<base) A n r.body:=(Row.imp hB (E:=fun b=>b<base) (fun b hb _=>by omega)).keep d (fun b _ h=>h)
 clear G hB m o s t
 go_wp2_with fail
 clear q
 refine(sW base p _ A n c _ r.body Q J K (fun _ h=>h) hnc zo (by simp[dL])).mono ?_
 rintro e V⟨rfl,a,L⟩
 have u:=d.trans L
 replace a:Wr V base p (jl r):=a
 have W:(jl r).length<=911:=by rw[oE];have:=R.out;omega
 clear J K d L
 generalize X:jl r=H at a W
 have HH:=zh X
 clear X
 go_wp2_with fail
 refine(iI base p _ V a zo).mono ?_
 rintro e w6⟨⟨A6,c6,rfl,g⟩,M⟩
 go_wp2_with fail
 refine(tv _ A6 _ c6 _ w6 (Row.Qc g) zo).mono ?_
 rintro e w7⟨⟨A7,c7,rfl,j⟩,N⟩
 have O:=(a.keep M (fun _ _=>zt)).keep N (fun _ _=>zt)
 have v:=(u.new M).new N
 clear a g u
 go_wp2_with fail
 refine(iy base p _ A7 4 c7 _ _ w7 O (Row.Qc j) zo).mono ?_
 rintro e Y⟨rfl,l,P⟩
 have x:=v.trans P
 replace l:Wr Y base p (gS r):=by unfold gS;rw[HH.out];exact l
 have Z:(gS r).length<=1000:=by rw[pI];have:=R.out;omega
 clear O j v P
 generalize hE:gS r=E at l Z
 have HE:=zh hE
 clear hE
 go_wp2_with fail
 refine(iI base p _ Y l zo).mono ?_
 rintro e w9⟨⟨A9,c9,rfl,y⟩,aa⟩
 go_wp2_with fail
 go_ret2
 exact⟨⟨A9,c9,by rw[HE.out];rfl,by rw[HE.out];exact eQ y x.size⟩,(x.Qi (fun i hi=>Nat.lt_trans hi hlt)).new aa⟩
theorem Ek(D:Nat->Prop)(A:Option Addr)(n c:Nat)(r:eA)(w:World)(hB:Bs w D A n r.body)(_hnc:n<=c)(hn:n<=9223372036854775000)(_hs0:0<=r.seq)(_hs1:r.seq<=18446744073709551615)(hr:dZ r=false):
  Calls prog 203 #[.agg #[.int .i64 r.kind,.int .u64 r.seq,.slice A n c]] w fun e w' =>
   e=.returned (.tuple #[.slice none 0 0,.int .i64 12])/\New w w':=by
 have hl:=hB.len
 have f:=zh<|fun w'=>mh r.kind r.seq A n c r w' rfl rfl hl zo
 have a:(w.alloc (.cells #[.int .i64 r.kind,.int .u64 r.seq,.slice A n c] 45)).heap[w.heap.size]?=some (.cells #[.int .i64 r.kind,.int .u64 r.seq,.slice A n c] 45 (0,0)):=heap_alloc_new w _
 have b:New w (w.alloc (.cells #[.int .i64 r.kind,.int .u64 r.seq,.slice A n c] 45)):=(zN w).alloc _
 clear a
 have g:=zh hr
 clear hr hl
 go_in
 go_wp2_with fail
 refine(f.out _).mono ?_
 rintro e h⟨rfl,d⟩
 rw[g.out]
 go_wp2_with fail
 go_ret2
 exact⟨rfl,b.new d⟩
