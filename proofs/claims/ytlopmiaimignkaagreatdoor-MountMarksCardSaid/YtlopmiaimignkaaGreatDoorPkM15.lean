/-
  PROVED HERE: parts of a law's walk, each under the conditions that its statement names.
-/
import Derived.Test.YtlopmiaimignkaaGreatDoorCards
import Derived.Test.YtlopmiaimignkaaGreatDoorTie
import Derived.Deep.DeepHandedRow
import Derived.Lib.LaidTab
import Derived.Test.YtlopmiaimignkaaGreatDoorPkM14
set_option maxRecDepth 100000
namespace Go.Proofs.YtlopmiaimignkaaGreatDoor
open Go.Proofs.Tryz
open Go.RowKit
variable{rs:List eA}{rest:List Oper}{fuel i j k n:Nat}{w w':World}{A:Option Addr}{D:Nat->Prop}{o oi:Oper}{a:Act}{P:Program}{ops:Array Oper}{Q:Exit->Act->World->Prop}{l listed:Array Bool}{v:Value}
theorem Bw(a b c d e f rest:List UInt8)(ha:a.length=2)(hb:b.length=8)(hc:c.length=2)(hd:d.length=2)(he:e.length=32)(hf:f.length=32):
  ie (a++(b++(c++(d++(e++(f++rest))))))=⟨(fG a:Nat),(fG b:Nat),(fG c:Nat),(fG d:Nat),e,f⟩:=by
 unfold ie
 dsimp only
 rw[RdS.Qp a _ 2 ha.symm]
 dsimp only
 rw[RdS.Qp b _ 8 hb.symm]
 dsimp only
 rw[RdS.Qp c _ 2 hc.symm]
 dsimp only
 rw[RdS.Qp d _ 2 hd.symm]
 dsimp only
 rw[RdS.Qm e _ 32 zo]
 dsimp only
 rw[RdS.Qm f _ 32 zo]
theorem Dh{index first:Int}{prev:List UInt8}(h:prev.length=32):gh index first prev rs=(iL index first prev rs++be4 (fp (iL index first prev rs)))++((dW rs).flatten++List.replicate (942-(dW rs).flatten.length) 0)/\(iL index first prev rs++be4 (fp (iL index first prev rs))).length=82:=by
 refine⟨by unfold gh;rw[List.append_assoc],?_⟩
 rw[zL,k_ _ _ _ _ h,kJ]
theorem GL{hd sum rest:List UInt8}(h:hd.length=78)(hs:sum.length=4):((hd++sum++rest).drop 78).take 4=sum/\(hd++sum++rest).take 78=hd/\(hd++sum++rest).drop 82=rest:=by
 refine⟨?_,?_,?_⟩
 ·rw[List.append_assoc,List.drop_left' h,List.take_left' hs]
 ·rw[List.append_assoc,List.take_left' h]
 rw[List.drop_left'];simp[h,hs]
structure j3 (index first:Int) (prev:List UInt8) (rs:List eA):Prop where
 i0:0<=index
 i1:index<=65535
 f0:0<=first
 f1:first<=1099511627776
 prev:prev.length=32
 any:rs.length≠0
 right:∀r∈rs,dZ r=true/\0<=r.seq
 room:(dW rs).flatten.length<=942
 many:15*rs.length<=942
 seqs:∀k (h:k<rs.length),rs[k].seq=first+k
section
variable {index first:Int}{prev:List UInt8}{rs:List eA}
theorem j3.seqsW(h:j3 index first prev rs):∀k (hk:k<rs.length),rs[k].seq=IntKind.u64.wrap (first+(0+k:Nat)):=by
 intro k hk
 have h1:=h.seqs k hk
 have h2:=h.right rs[k] (List.getElem_mem hk)
 have h3:rs[k].seq<=1099511627776:=by have:=h2.1;unfold dZ at this;rw[decide_eq_true_eq] at this;exact this.1
 rw[IntKind.wrap_u64]
 omega
theorem j3.head(h:j3 index first prev rs)(rest:List UInt8):ie (iL index first prev rs++rest)=⟨index,first,rs.length,(dW rs).flatten.length,prev,iw (dW rs)⟩:=by
 have e:iL index first prev rs++rest=beI 2 index++(beI 8 first++(beI 2 rs.length++(beI 2 (dW rs).flatten.length++(prev++(iw (dW rs)++rest))))):=by
  simp only[iL,List.append_assoc]
 rw[e,Bw _ _ _ _ _ _ _ (dL _ _) (dL _ _) (dL _ _) (dL _ _) h.prev (pG _)]
 rw[j1 2 index h.i0 (by have:=h.i1;omega),j1 8 first h.f0 (by have:=h.f1;omega),j1 2 rs.length zo (by have:=h.many;omega),j1 2 _ zo (by have:=h.room;omega)]
theorem j3.read(h:j3 index first prev rs):ev (gh index first prev rs)=(⟨index,first,rs.length,(dW rs).flatten.length,prev,iw (dW rs)⟩,rs,0):=by
 have hl:=jq index first prev rs h.prev h.room
 have hs:=Dh (index:=index) (first:=first) (rs:=rs) h.prev
 have hd:=GL (hd:=iL index first prev rs) (sum:=be4 (fp (iL index first prev rs))) (rest:=(dW rs).flatten++List.replicate (942-(dW rs).flatten.length) 0) (k_ _ _ _ _ h.prev) rfl
 have hh:=h.head (be4 (fp (iL index first prev rs))++((dW rs).flatten++List.replicate (942-(dW rs).flatten.length) 0))
 rw[<- List.append_assoc,<- hs.1] at hh
 rw[<- hs.1] at hd
 have a:=tw first [] rs 0 h.right h.seqsW
 rw[List.append_nil] at a
 have c:=h.room
 have b:=h.any
 unfold ev
 rw[if_neg (by rw[hl];decide),if_neg (by rw[hd.1,hd.2.1];simp),hh]
 dsimp only
 rw[if_neg zo,hd.2.2,Int.toNat_natCast,Int.toNat_natCast,List.take_left' rfl,a]
 dsimp only
 rw[if_neg,if_neg (by simp)]
 rw[hs.1,<- List.drop_drop,List.drop_left' hs.2,List.drop_left' rfl]
 simp
end
section
variable {index first:Int}{prev:List UInt8}{rs:List eA}
end
@[go_sem] theorem JH(a b:UInt8):bits .xor .u8 (bv a) (bv b)=bv (a ^^^ b):=by
 unfold bv
 rw[UInt8.toNat_xor]
 exact u8_xor_nat _ _ a.toNat_lt b.toNat_lt
theorem vk:∀(rs:List eA),(∀r∈rs,dZ r=true)->15*rs.length<=(dW rs).flatten.length
 | [],_=>by simp
 | r::rs,h=>by
  have ih:=vk rs (fun x a=>h x (by simp[a]))
  have h1:=h r (by simp)
  rw[kj h1,List.flatten_cons,zL,nM h1,List.length_cons]
  omega
theorem uK(bs:List UInt8):(∀r∈(ev bs).2.1,dZ r=true)/\(dW (ev bs).2.1).flatten.length<=942/\(ev bs).2.1.length<=942:=by
 have nil:(∀r∈([]:List eA),dZ r=true)/\(dW ([]:List eA)).flatten.length<=942/\([]:List eA).length<=942:=by simp[dW]
 unfold ev
 split
 ·exact nil
 split
 ·exact nil
 split
 ·exact nil
 rename_i h1 h2 h3
 split
 ·exact nil
 rename_i rs rest hg
 split
 ·exact nil
 split
 ·exact nil
 obtain⟨e,_,b,_⟩:=rx _ _ _ _ _ _ hg
 have hl:=congrArg List.length e
 rw[zL,List.length_take] at hl
 have hb:(ie bs).bytes.toNat<=942:=by omega
 have a:∀r∈rs,dZ r=true:=fun r h=>(b r h).1
 have c:=vk rs a
 refine⟨a,?_,?_⟩
 ·show(dW rs).flatten.length<=942
  omega
 show rs.length<=942
 omega
open Go.ChangeShapes Go.WideShapes Go.ChangeAt Go.RowKit
def AI:Array Value:=(([128,191,160,191,128,159,144,191,128,143,0,0,0,0,0,0,0,0,0,0,0,0,0,0,0,0,0,0,0,0,0,0]:List Int).map (Value.int .u8)).toArray
def firstCells:Array Value:=(Go.Pinned.utf8FirstZ.map fun(n:Nat)=>Value.int .u8 (n:Int)).toArray
def uZ(cs:Array Value):Obj->Obj
 | .cells _ t frozen=>.cells cs t frozen
 | o=>o
noncomputable def rC(os:Os):World :=
 { World.holding prog os ⟨#[],#[],[]⟩ with heap:=((World.holding prog os ⟨#[],#[],[]⟩).heap.modify 0 (uZ firstCells)).modify 1 (uZ AI) }
theorem Ja(w:World)(x:Int):Bs (w.alloc (.cells #[.int .u8 (IntKind.u8.wrap x)] 5)) (fun b=>w.heap.size<=b) (some ⟨w.heap.size,0,none⟩) 1 (beI 1 x):=by
 have h:=Row.made w 5 #[.int .u8 (IntKind.u8.wrap x)] 1 1 rfl
 have e:(beI 1 x).map eE=[.int .u8 (IntKind.u8.wrap x)]:=by
  have h1:=kU x
  simp only[beI,List.range,List.range.loop,List.map_cons,List.map_nil,IntKind.wrap_u8]
  rw[show x/2^(8*(1-1-0))%256=x%256 from by simp,h1]
 rw[Bs,e];exact h
theorem I'(w:World)(x:Int):Bs (w.alloc (.cells #[.int .u8 (IntKind.u8.wrap (x/256)),.int .u8 (IntKind.u8.wrap x)] 5)) (fun b=>w.heap.size<=b) (some ⟨w.heap.size,0,none⟩) 2 (beI 2 x):=by
 have h:=Row.made w 5 #[.int .u8 (IntKind.u8.wrap (x/256)),.int .u8 (IntKind.u8.wrap x)] 2 1 rfl
 have e:(beI 2 x).map eE=[.int .u8 (IntKind.u8.wrap (x/256)),.int .u8 (IntKind.u8.wrap x)]:=by
  have h1:=kU (x/256)
  have h2:=kU x
  simp only[beI,List.range,List.range.loop,List.map_cons,List.map_nil,IntKind.wrap_u8]
  rw[show x/2^(8*(2-1-0))%256=x/256%256 from rfl,show x/2^(8*(2-1-1))%256=x%256 from by simp,h1,h2]
 rw[Bs,e];exact h
theorem I_(w:World)(a b c d:UInt8):Bs (w.alloc (.cells #[.int .u8 (bv a),.int .u8 (bv b),.int .u8 (bv c),.int .u8 (bv d)] 5)) (fun g=>w.heap.size<=g) (some ⟨w.heap.size,0,none⟩) 4 [a,b,c,d] :=
 Row.made w _ _ 4 1 rfl
theorem Gg(n:Int)(hj:j<8):(beI 8 n).take (j+1)=(beI 8 n).take j++[UInt8.ofNat (n/2^(56-8*j)%256).toNat]:=by
 have h:=uw 8 (7-j) n zo
 rw[show 8-(7-j)=j+1 from by omega,show 8-(7-j+1)=j from by omega,show 8*(7-j)=56-8*j from by omega] at h
 exact h
def ej(bs:List UInt8)(w:World)(e:Ending)(w':World):Prop:=(∃A' c',e=.returned (.slice A' bs.length c')/\fy w' w.heap.size 5 A' bs.length c' bs)/\New w w'
theorem ej.mk'{bs:List UInt8}{e:Ending}{A':Option Addr}{c':Nat}(he:e=.returned (.slice A' n c'))(ho:fy w' w.heap.size 5 A' n c' bs)(hk:New w w'):ej bs w e w':=by
 have hl:bs.length=n:=by have:=ho.1;simpa using this
 subst hl
 exact⟨⟨A',c',he,ho⟩,hk⟩
theorem pp(D:Nat->Prop)(A:Option Addr)(n c:Nat)(bs:List UInt8)(x:Int)(w:World)(hB:Bs w D A n bs)(hn:n<=1099511627776):
  Calls prog 164 #[.slice A n c,.int .i64 x] w (ej (bs++beI 1 x) w):=by
 have b:fy (w.alloc (.cells #[] 5)) w.heap.size 5 (some ⟨w.heap.size,0,none⟩) 0 0 []:=World.ownsRow_made w #[] 0 zr Zd rfl
 have e:New w (w.alloc (.cells #[] 5)):=(zN w).alloc _
 have h:=hB.alloc (.cells #[] 5)
 have i:0+n<=140737488355328:=by omega
 have j:n+1<=140737488355328:=by omega
 clear hB
 go_in
 go_wp2_with (first
  | (at_builtin;refine fK _ rfl _ _ rfl w.heap.size _ 0 0 [] rfl b D A n c bs rfl h i e.size ?_;intro A1 c1 k a l p;rw[Nat.zero_add,List.nil_append] at a;have f:=nl e b l)
  | (at_builtin;refine fK _ rfl _ _ rfl w.heap.size A1 n c1 bs rfl (a.alloc _) (fun g=>k.heap.size<=g) _ 1 1 (beI 1 x) rfl (Ja k x) j ((f.alloc _).size) ?_;intro r c2 s d m q;have o:=nS f a m))
 go_ret
 exact ej.mk' rfl d o
theorem jG(D:Nat->Prop)(A:Option Addr)(n c:Nat)(bs:List UInt8)(x:Int)(w:World)(hB:Bs w D A n bs)(hn:n<=1099511627776):
  Calls prog 161 #[.slice A n c,.int .i64 x] w (ej (bs++beI 2 x) w):=by
 have b:fy (w.alloc (.cells #[] 5)) w.heap.size 5 (some ⟨w.heap.size,0,none⟩) 0 0 []:=World.ownsRow_made w #[] 0 zr Zd rfl
 have e:New w (w.alloc (.cells #[] 5)):=(zN w).alloc _
 have h:=hB.alloc (.cells #[] 5)
 have i:0+n<=140737488355328:=by omega
 have j:n+2<=140737488355328:=by omega
 clear hB
 go_in
 go_wp2_with (first
  | (at_builtin;refine fK _ rfl _ _ rfl w.heap.size _ 0 0 [] rfl b D A n c bs rfl h i e.size ?_;intro A1 c1 k a l p;rw[Nat.zero_add,List.nil_append] at a;have f:=nl e b l)
  | (at_builtin;refine fK _ rfl _ _ rfl w.heap.size A1 n c1 bs rfl (a.alloc _) (fun g=>k.heap.size<=g) _ 2 2 (beI 2 x) rfl (I' k x) j ((f.alloc _).size) ?_;intro r c2 s d m q;have o:=nS f a m))
 go_ret
 exact ej.mk' rfl d o
theorem mi(D:Nat->Prop)(A:Option Addr)(n c:Nat)(bs:List UInt8)(x:Int)(w:World)(hB:Bs w D A n bs)(hn:n<=1099511627776)(_hx0:0<=x)(_hx1:x<=18446744073709551615):
  Calls prog 70 #[.slice A n c,.int .u64 x] w (ej (bs++beI 8 x) w):=by
 have b:fy (w.alloc (.cells #[] 5)) w.heap.size 5 (some ⟨w.heap.size,0,none⟩) 0 0 []:=World.ownsRow_made w #[] 0 zr Zd rfl
 have h:New w (w.alloc (.cells #[] 5)):=(zN w).alloc _
 have o:=hB.alloc (.cells #[] 5)
 have y:0+n<=140737488355328:=by omega
 clear hB
 go_in
 go_wp2_with (at_builtin;refine fK _ rfl _ _ rfl w.heap.size _ 0 0 [] rfl b D A n c bs rfl o y h.size ?_;intro A1 c1 H d p t)
 rw[Nat.zero_add,List.nil_append] at d
 have q:=nl h b p
 clear p t o b h
 go_loopw [5,6] (fun F i z=>∃(A:Option Addr) (c j f:Nat),F=.slice A f c/\j<=8/\i=.int .i64 (56-8*(j:Int))/\f=n+j/\fy z w.heap.size 5 A f c (bs++(beI 8 x).take j)/\New w z) (fun _ i _=>(intOf i+8).toNat)
 case atStart=>exact⟨_,_,0,n,rfl,zo,rfl,rfl,by simpa using d,q⟩
 clear d q
 obtain⟨G,cx,j,f,rfl,hj,rfl,k,a,l⟩:=hrel
 by_cases u:j<8
 ·have r:=oa wr 5 _ _ (kU (x/2^(56-8*j)))
  have B:f+1<=140737488355328:=by omega
  have C:=zh k
  clear k
  go_wp2_with (at_builtin;refine fK _ rfl _ _ rfl w.heap.size G f cx _ rfl (a.alloc _) (fun g=>wr.heap.size<=g) _ 1 1 _ rfl r B ((l.alloc _).size) ?_;intro I J K m s v)
  have E:=nS l a s
  clear s v a l r
  go_roundw
  case rel =>
   have e:(56:Int)-8*((j+1:Nat):Int)=56-8*(j:Int)-8:=by omega
   exact⟨_,_,j+1,_,rfl,zo,by rw[e],by have:=C.out;omega,by rw[Gg x u,<- List.append_assoc];exact m,E⟩
  simp[intOf];omega
 obtain rfl:j=8:=by omega
 rw[show(56-8*((8:Nat):Int)) = -8 from rfl]
 rw[List.take_of_length_le (by rw[dL];exact Nat.le_refl _)] at a
 clear k
 go_wp2
 go_ret
 exact ej.mk' rfl a l
theorem mz(D D2:Nat->Prop)(A A2:Option Addr)(n c n2 c2:Nat)(bs bs2:List UInt8)(w:World)(hB:Bs w D A n bs)(hB2:Bs w D2 A2 n2 bs2)(hn:n<=1099511627770)(hn2:n2<=9223372036854775807)(hnc:n2<=c2):
  Calls prog 162 #[.slice A n c,.slice A2 n2 c2] w (ej (bs++dU bs2) w):=by
 have hl:=hB2.len
 by_cases hlt:65535<n2
 ·have f:=zh<|mW bs2 zo
  have hcut:Bs w D2 A2 65535 (bs2.take 65535):=hB2.Qk zo
  have k:=zh<|fun l=>jG D A n c bs 65535 l 
  have o:(65535:Int)<n2:=by omega
  have g:(bs++beI 2 65535).length+65535<=140737488355328:=by rw[zL,dL,hB.len];omega
  have h:n<=1099511627776:=by omega
  clear hl hB2
  go_in
  go_wp2_with fail
  refine(k.out w hB h).mono ?_
  rintro e q⟨⟨A1,c1,rfl,a⟩,b⟩
  have i:=hcut.new b
  generalize (bs++beI 2 65535).length=m at *
  go_wp2_with (at_builtin;refine fK _ rfl _ _ rfl w.heap.size A1 m c1 _ rfl a D2 A2 65535 c2 _ rfl i g b.size ?_;intro r s t d j p)
  go_ret
  exact ej.mk' rfl (by rw[f.out,<- List.append_assoc];exact d) (nl b a j)
 have f:Hid (dU bs2=beI 2 (n2:Int)++bs2):=zh (by unfold dU;rw[hl,Nat.min_eq_left zo,List.take_of_length_le zo])
 have k:=zh<|fun l=>jG D A n c bs n2 l
 have o:¬(65535:Int)<n2:=by omega
 have g:(bs++beI 2 (n2:Int)).length+n2<=140737488355328:=by rw[zL,dL,hB.len];omega
 have h:n<=1099511627776:=by omega
 clear hl
 go_in
 go_wp2_with fail
 refine(k.out w hB h).mono ?_
 rintro e q⟨⟨A1,c1,rfl,a⟩,b⟩
 have i:=hB2.new b
 generalize (bs++beI 2 (n2:Int)).length=m at *
 go_wp2_with (at_builtin;refine fK _ rfl _ _ rfl w.heap.size A1 m c1 _ rfl a D2 A2 n2 c2 _ rfl i g b.size ?_;intro r s t d j p)
 go_ret
 exact ej.mk' rfl (by rw[f.out,<- List.append_assoc];exact d) (nl b a j)
def Iu(w:World)(D:Nat->Prop)(vs:List Value)(i:Nat)(h:jj):Prop :=
 ∃A c A2 c2,vs[i]?=some (.int .i64 h.index)/\vs[i+1]?=some (.int .u64 h.first)/\vs[i+2]?=some (.int .i64 h.count)/\vs[i+3]?=some (.int .i64 h.bytes)/\vs[i+4]?=some (.slice A h.prev.length c)/\vs[i+5]?=some (.slice A2 h.root.length c2) /\
  h.prev.length<=c/\h.root.length<=c2/\Bs w D A h.prev.length h.prev/\Bs w D A2 h.root.length h.root/\0<=h.first/\h.first<=18446744073709551615
section
variable {w w':World}{D E:Nat->Prop}{A:Option Addr}{n:Nat}{hs:List jj}
end
def jA(id:List UInt8):List UInt8:=gL (3::id)
def yS(id:List UInt8)(hs:List jj):List UInt8:=match hs.getLast? with|none=>jA id|some h=>la h
theorem sj(D:Nat->Prop)(A:Option Addr)(n c:Nat)(bs:List UInt8)(w:World)(hB:Bs w D A n bs)(hc:n<=c)(hn:n<=1099511620000):
  Calls prog 77 #[.slice A n c] w fun e w'=>(∃A' c',e=.returned (.slice A' 32 c')/\fy w' w.heap.size 5 A' 32 c' (jA bs))/\New w w':=by
 have hl:=hB.len
 have h0:=oa w 5 3 _ rfl
 have a:=(Bss.lit (w.alloc (.cells #[.int .u8 3] 5)) 22 [.slice (some ⟨w.heap.size,0,none⟩) 1 1,.slice A n c] [[3],bs] rfl
  (fun k hk=>match k,hk with|0,_=>⟨_,1,rfl,by simp,_,h0⟩|1,_=>⟨A,c,by simp[hl],by simp[hl];exact hc,D,by simpa[hl] using hB.alloc _⟩))
 rw[show(w.alloc (.cells #[.int .u8 3] 5)).heap.size=w.heap.size+1 from by simp] at a
 replace a:=zh a
 have j:=zh<|show([[3],bs]:List (List UInt8)).flatten=3::bs by simp
 have d:=zh<|show([[3],bs]:List (List UInt8)).flatten.length=n+1 by simp[hl]
 have h:=zh<|show New w ((w.alloc (.cells #[.int .u8 3] 5)).alloc (.cells #[.slice (some ⟨w.heap.size,0,none⟩) 1 1,.slice A n c] 22)) from((zN w).alloc _).alloc _
 clear hl h0
 go_in
 go_wp2_with fail
 refine(qk _ _ _ _ [[3],bs] _ a.out (by rw[d.out];omega) (by simp)).mono ?_
 rintro e l⟨⟨A',c',rfl,b⟩,g⟩
 rw[d.out,j.out] at b
 rw[d.out]
 go_wp2_with fail
 refine(mm _ A' (n+1) c' (3::bs) l (Row.Qc b) (ew b) zo).mono ?_
 rintro e p⟨⟨m,o,rfl,f⟩,i⟩
 go_wp2
 go_ret
 exact⟨⟨m,o,rfl,eQ f (h.new g).size⟩,(h.new g).new i⟩
def Gu(w:World)(base:Nat)(D:Nat->Prop)(A:Option Addr)(n c:Nat)(hs:List jj):Prop :=
 ∃vs:List Value,Own w base 94 6 A n c vs/\hs.length=n/\∀k (h:k<hs.length),Iu w (fun b=>D b/\some b≠blk A) vs (k*6) hs[k]
section
variable {w w':World}{base base':Nat}{D E:Nat->Prop}{A:Option Addr}{n c:Nat}{hs:List jj}
end
def pq(index first:Int)(pr:List UInt8)(rs:List eA):List UInt8×Int :=
 if j0 index first pr.length rs=false then([],1) else if kZ first rs=false then([],12) else(gh index first pr rs,0)
def Gx(d:List UInt8×Int)(w:World)(e:Ending)(w':World):Prop :=
 (∃A' c',e=.returned (.tuple #[.slice A' d.1.length c',.int .i64 d.2])/\fy w' w.heap.size 5 A' d.1.length c' d.1)/\New w w'
theorem Ev(D D2:Nat->Prop)(index first:Int)(A A2:Option Addr)(c m c2:Nat)(pr:List UInt8)(rs:List eA)(w:World)(hB:Bs w D A pr.length pr)(hnc:pr.length<=c)(hR:mc w D2 A2 m rs)(hm:m<=9223372036854775807)(hf0:0<=first):
  Calls prog 34 #[.int .i64 index,.int .u64 first,.slice A pr.length c,.slice A2 m c2] w (Gx (pq index first pr rs) w):=by
 cases h:j0 index first pr.length rs
 ·refine(Eu D D2 index first A A2 pr.length c m c2 rs w hR hm h).mono ?_
  rintro e b⟨rfl,a⟩
  unfold pq
  rw[if_pos h]
  exact⟨⟨none,0,rfl,Own.nil _ _ _ _⟩,a⟩
 cases hq:kZ first rs
 ·refine(BV D D2 index first A A2 pr.length c m c2 pr rs w hB hnc hR hm hf0 h hq).mono ?_
  rintro e b⟨rfl,a⟩
  unfold pq
  rw[if_neg (by rw[h];decide),if_pos hq]
  exact⟨⟨none,0,rfl,Own.nil _ _ _ _⟩,a⟩
 refine(Gd D D2 index first A A2 pr.length c m c2 pr rs w hB hnc hR hm hf0 h hq).mono ?_
 rintro e b⟨⟨f,g,rfl,d⟩,a⟩
 have hl:(gh index first pr rs).length=1024:=by simpa using d.1
 unfold pq
 rw[if_neg (by rw[h];decide),if_neg (by rw[hq];decide)]
 refine⟨⟨f,g,?_,?_⟩,a⟩
 ·dsimp only;rw[hl]
 dsimp only;rw[hl];exact d
theorem rH(id:List UInt8):(jA id).length=32:=gy _
theorem uL(h:jj):(la h).length=32:=gy _
theorem gE(r:eA):dZ r=decide (r.seq<=1099511627776/\r.body.length<=900/\(r.kind=1\/r.kind=2/\r.body.length=0)):=rfl
structure xk where
 images:List (List UInt8)
 heads:List jj
 recs:List eA
 prev:List UInt8
 next:Int
def jh(i:Nat)(next:Int)(prev:List UInt8)(rs:List eA):jj:=⟨i,next,rs.length,(dW rs).flatten.length,prev,iw (dW rs)⟩
theorem yN(hg:w.grownBy w' (blk A)):b_ (fun b=>some b≠blk A) w w':=(b_.refl _ w).grown hg (fun _ hj hd=>absurd hj.symm hd)
theorem Fk{A3:Option Addr}(hbk:blk A3=blk A\/blk A3=some w.heap.size){b:Nat}(hb:b<w.heap.size)(hne:some b≠blk A):some b≠blk A3:=by
 rcases hbk with e|e
 ·rw[e];exact hne
 rw[e];intro q;injection q;omega
structure JN (w:World) (base:Nat) (A:Option Addr) (n c:Nat) (hs:List jj) (A':Option Addr) (n' c':Nat) (rs:List eA):Prop where
 heads:Gu w base (fun b=>base<=b/\some b≠blk A') A n c hs
 recs:eK w base (fun b=>base<=b/\some b≠blk A) A' n' c' rs
section
variable {w w' w2:World}{base:Nat}{A A':Option Addr}{n c n' c':Nat}{hs:List jj}{rs:List eA}
end
theorem AF(bs:List UInt8):0<=(ev bs).1.first/\(ev bs).1.first<=18446744073709551615:=by
 have hf:0<=(ie bs).first/\(ie bs).first<=18446744073709551615:=by
  have h:=lG ((RdS.mk bs 0).num 2).2 8
  refine⟨Int.natCast_nonneg _,?_⟩
  show((((RdS.mk bs 0).num 2).2.num 8).1:Int)<=_
  omega
 have nil:0<=fZ.first/\fZ.first<=18446744073709551615:=by simp[fZ]
 unfold ev
 split
 ·exact nil
 split
 ·exact nil
 split
 ·exact nil
 split
 ·exact nil
 split
 ·exact nil
 split
 ·exact nil
 exact hf
section
variable {w w':World}{base:Nat}{A A':Option Addr}{n c n' c':Nat}{ls:List (List UInt8)}{rs:List eA}
end
theorem qj:∀ {left:Nat}{rs:List eA},(∀r∈rs,dZ r=true)->(dW rs).flatten.length<=left->rs.length<=i8 left rs
 | left,[],_,_=>Nat.zero_le _
 | left,r::rs,h,hl=>by
  have h1:=h r (by simp)
  rw[kj h1,List.flatten_cons,zL,mI r h1] at hl
  have:=qj (left:=left-eU r) (rs:=rs) (fun x a=>h x (by simp[a])) zo
  unfold i8
  rw[if_pos ⟨h1,zo⟩,List.length_cons]
  omega
section
variable {P:Program}{ops:Array Oper}{Q:Exit->Act->World->Prop}{md:Region.Mode}
end
structure Jg (w w':World):Prop where
 size:w.heap.size=w'.heap.size
 cell:∀p,w'.cell? p=w.cell? p
theorem Row.like{s:Nat}{vs:List Value}(h:Row w D A n s vs)(hl:Jg w w'):Row w' D A n s vs :=
 ⟨h.1,fun hn=>let ⟨b,off,e,hd,hlt,hc⟩:=h.2 hn;⟨b,off,e,hd,hl.size▸hlt,fun k u a=>(hl.cell _).trans (hc k u a)⟩⟩
theorem vR{g:Nat}{C:Array Value}{e:TypeId}(n c:Nat)(h:w.heap[g]?=some (.cells C e (0,0))):
  ∃w',(convert 22 22 (.slice (some ⟨g,0,none⟩) n c)).run prog w=.ok (.slice (some ⟨g,0,none⟩) n c) w'/\b_ (fun b=>b≠g) w w'/\Jg w w':=by
 have hsh:w.shape? g=some (e,C.size):=by
  unfold World.shape?
  rw[h]
 refine⟨w.freeze ⟨g,C.size,none⟩ 1,?_,?_,?_⟩
 ·simp[convert,run_underlying underlying22,run_underlying underlying5,markStringish,hsh]
 ·unfold World.freeze
  rw[if_neg Zd]
  refine⟨rfl,rfl,rfl,by simp,fun k hk a=>?_⟩
  show(w.heap.modify g _)[k]?=w.heap[k]?
  rw[Array.getElem?_modify]
  rw[if_neg (fun e=>a e.symm)]
 unfold World.freeze
 rw[if_neg Zd]
 refine⟨by simp,fun p=>?_⟩
 by_cases d:p.block=g
 ·simp[World.cell?,Array.getElem?_modify,d,h]
 have f:¬g=p.block:=fun e=>d e.symm
 simp[World.cell?,Array.getElem?_modify,f]
section
variable {P:Program}{ops:Array Oper}{Q:Exit->Act->World->Prop}{md:Region.Mode}{S:World->Prop}{σ:Type}
theorem tZ{F:Nat}(lst:σ->Array Bool)(G:σ->Nat->Prop)(nx:σ->Nat->σ)(left:σ->Nat)(ok:σ->Prop)(I:σ->Act->World->Prop)(h0:∀m a w,ok m->left m=0->I m a w->wpAnyH P md ops Q S F (lst m) a w)(h1:∀m,ok m->0<left m->Region.ready md ops (lst m)≠[]/\∀i∈Region.ready md ops (lst m),G m i/\ok (nx m i)/\left (nx m i)+1=left m/\(lst m).setIfInBounds i true=lst (nx m i))(h2:∀m i a w,G m i->I m a w->∀K:Act->World->Prop,Hid (∀a' w',S w'->I (nx m i) a' w'->K a' w')->wpOp P ops Q i K a w):
  ∀(k:Nat) (m:σ) (a:Act) (w:World),ok m->left m=k->I m a w->wpAnyH P md ops Q S (F+k) (lst m) a w
 | 0,m,a,w,hm,hl,hI=>h0 m a w hm hl hI
 | k+1,m,a,w,hm,hl,hI=>by
  obtain⟨hne,hall⟩:=h1 m hm zo
  refine⟨fun h=>absurd h hne,fun i hi=>?_⟩
  obtain⟨hg,b,f,c⟩:=hall i hi
  refine h2 m i a w hg hI _ (zh fun a' w' e d=>⟨e,?_⟩)
  rw[c]
  exact tZ lst G nx left ok I h0 h1 h2 k (nx m i) a' w' b zo d
theorem kN{K:Act->World->Prop}(ho:ops[i]?=some o)(hw:Region.wanted o (yielded ops a.tmps)=true)(h:Oper.wp P o a w K Q):wpOp P ops Q i K a w:=by
 unfold wpOp
 simp only[ho,hw,if_true]
 exact .inl h
end
def waits(md:Region.Mode)(ops:Array Oper)(i j:Nat):Bool:=(ops[i]?).any fun o=>o.after.any fun e=>Region.binds md e&&e.on==j
def only(md:Region.Mode)(ops:Array Oper)(i:Nat)(L:List Nat):Bool:=(ops[i]?).any fun o=>o.after.all fun e => !Region.binds md e||L.contains e.on
structure Elt (α:Type) where
 size:Nat
 At:World->(Nat->Prop)->List Value->Nat->α->Prop
 pos:0<size
 keep:∀ {w w':World} {D E:Nat->Prop} {vs:List Value} {i:Nat} {a:α},At w D vs i a->b_ E w w'->(∀b,b<w.heap.size->D b->E b)->At w' D vs i a
 imp:∀ {w:World} {D E:Nat->Prop} {vs:List Value} {i:Nat} {a:α},At w D vs i a->(∀b,b<w.heap.size->D b->E b)->At w E vs i a
 shift:∀ {w:World} {D:Nat->Prop} {vs us:List Value} {i j:Nat} {a:α},At w D vs i a->(∀k,k<size->∀u,vs[i+k]?=some u->us[j+k]?=some u)->At w D us j a
 one:∀ {w:World} {D:Nat->Prop} {vs:List Value} {i:Nat} {a:α},At w D vs i a->∀k,k<size->∃u,vs[i+k]?=some u/\u.oneCell'=true
section
variable {α:Type}{E:Elt α}{w w':World}{base base':Nat}{t:TypeId}{D F:Nat->Prop}{A:Option Addr}{n c:Nat}{ls:List α}
def Sl(E:Elt α)(w:World)(D:Nat->Prop)(A:Option Addr)(n:Nat)(ls:List α):Prop :=
 ∃vs:List Value,Row w D A n E.size vs/\ls.length=n/\∀k (h:k<ls.length),E.At w D vs (k*E.size) ls[k]
theorem Sl.len(h:Sl E w D A n ls):ls.length=n:=by obtain⟨_,_,h,_⟩:=h;exact h
theorem Sl.keep(h:Sl E w D A n ls)(hk:b_ F w w')(hE:∀b,b<w.heap.size->D b->F b):Sl E w' D A n ls:=by
 obtain⟨c,h1,h2,h3⟩:=h
 exact⟨c,h1.keep hk hE,h2,fun k a=>E.keep (h3 k a) hk hE⟩
theorem Sl.new(h:Sl E w D A n ls)(hk:New w w'):Sl E w' D A n ls:=h.keep hk fun _ _ _=>trivial
theorem Sl.imp(h:Sl E w D A n ls)(hE:∀b,b<w.heap.size->D b->F b):Sl E w F A n ls:=by
 obtain⟨a,h1,h2,h3⟩:=h
 exact⟨a,h1.imp hE,h2,fun k hk=>E.imp (h3 k hk) hE⟩
theorem Sl.at_(h:Sl E w D A n ls)(hk:k<ls.length):∃b off us,A=some ⟨b,off,none⟩/\D b/\b<w.heap.size/\E.At w D us 0 ls[k]/\us.length=E.size/\∀j u,us[j]?=some u->w.cell? ⟨b,off+k*E.size+j,none⟩=some u:=by
 obtain⟨d,h1,h2,h3⟩:=h
 obtain⟨b,off,hA,e,hb,c⟩:=h1.2 zo
 have hl:=h1.1
 have f:=Nat.mul_le_mul_right E.size (show k+1<=n by omega)
 rw[Nat.add_mul] at f
 refine⟨b,off,(d.drop (k*E.size)).take E.size,hA,e,hb,E.shift (h3 k hk) (fun j hj u a=>?_),by rw[List.length_take,List.length_drop];omega,fun j u a=>?_⟩
 ·rw[Nat.zero_add,List.getElem?_take,if_pos hj,List.getElem?_drop]
  exact a
 rw[List.getElem?_take] at a
 split at a
 ·rw[List.getElem?_drop] at a
  rw[Nat.add_assoc]
  exact c _ _ a
 cases a
def gJ(t:TypeId)(E:Elt α)(w:World)(base:Nat)(D:Nat->Prop)(A:Option Addr)(n c:Nat)(ls:List α):Prop :=
 ∃vs:List Value,Own w base t E.size A n c vs/\ls.length=n/\∀k (h:k<ls.length),E.At w (fun b=>D b/\some b≠blk A) vs (k*E.size) ls[k]
theorem gJ.nil(t:TypeId)(E:Elt α)(w:World)(base:Nat)(D:Nat->Prop):gJ t E w base D none 0 0 []:=⟨[],Own.nil _ _ _ _,rfl,fun k hk=>absurd hk (by simp)⟩
theorem gJ.new(h:gJ t E w base D A n c ls)(hk:New w w'):gJ t E w' base D A n c ls:=by
 obtain⟨b,h1,h2,h3⟩:=h
 exact⟨b,eP h1 hk (fun _ _=>zt),h2,fun k a=>E.keep (h3 k a) hk fun _ _ _=>zt⟩
theorem gJ.lt(h:gJ t E w base D A n c ls):∀k,blk A=some k->base<=k/\k<w.heap.size:=by obtain⟨_,h,_⟩:=h;exact eW h
theorem gJ.imp(h:gJ t E w base D A n c ls)(hE:∀b,b<w.heap.size->D b->F b):gJ t E w base F A n c ls:=by
 obtain⟨a,h1,h2,h3⟩:=h
 exact⟨a,h1,h2,fun k hk=>E.imp (h3 k hk) fun b hb hd=>⟨hE b hb hd.1,hd.2⟩⟩
theorem gJ.rebase(h:gJ t E w base' D A n c ls)(hb:base<=base'):gJ t E w base D A n c ls:=by
 obtain⟨a,h1,h2,h3⟩:=h
 exact⟨a,eQ h1 hb,h2,h3⟩
theorem gJ.keepE(h:gJ t E w base D A n c ls)(hk:b_ F w w')(hb:∀k,blk A=some k->F k)(hD:∀b,D b->F b):gJ t E w' base D A n c ls:=by
 obtain⟨d,h1,h2,h3⟩:=h
 exact⟨d,eP h1 hk hb,h2,fun k a=>E.keep (h3 k a) hk fun b _ hd=>hD b hd.1⟩
theorem gJ.sl(h:gJ t E w base D A n c ls):Sl E w (fun b=>base<=b\/D b) A n ls:=by
 obtain⟨a,h1,h2,h3⟩:=h
 exact⟨a,(Row.Qc h1).imp (fun _ _ h=>.inl h),h2,fun k hk=>E.imp (h3 k hk) fun _ _ h=>.inr h.1⟩
theorem gJ.own(h:gJ t E w base D A n c ls):∃xs,Own w base t E.size A n c xs:=by obtain⟨a,h,_⟩:=h;exact⟨a,h⟩
theorem xd(w:World)(hgd:o.guard=none)(s x:Operand)(T t:TypeId)(ho:o.op=.call { callee:=.builtin .append,args:=#[s,x],argTypes:=#[T,T] })(i:TypeInfo)(z:Value)(bytes:Nat)(ht:P.underlying T=some (.slice t))(hi:P.info? t=some i)(hz:i.zero=some z)(hsize:i.size=E.size)(hby:i.bytes=bytes)(hzs:z.cells.size=E.size)(base:Nat)(D:Nat->Prop)(A:Option Addr)(n c:Nat)(ls:List α)(hs:a.eval s=.slice A n c)(hown:gJ t E w base D A n c ls)(D2:Nat->Prop)(A2:Option Addr)(m c2:Nat)(us:List Value)(ms:List α)(hx:a.eval x=.slice A2 m c2)(hr:Row w D2 A2 m E.size us)(hm:ms.length=m)(hy:∀k (h:k<ms.length),E.At w (fun b=>D b/\some b≠blk A) us (k*E.size) ms[k])(h63:n+m<=9223372036854775807)(hbytes:(n+m)*bytes<=140737488355328)(hbase:base<=w.heap.size)(h:∀A3 c3 w3,gJ t E w3 base D A3 (n+m) c3 (ls++ms)->w.grownBy w3 (blk A)->(blk A3=blk A\/blk A3=some w.heap.size)->wpList P ops Q rest (a.put o.dst (.slice A3 (n+m) c3)) w3):wpList P ops Q (o::rest) a w:=by
 obtain⟨l,h1,h2,h3⟩:=hown
 have L:us.length=m*E.size:=hr.1
 have F:=E.pos
 have v:∀u∈us,u.oneCell'=true:=by
  intro u e
  obtain⟨j,hj,rfl⟩:=List.mem_iff_getElem.1 e
  have G:j/E.size<ms.length:=by rw[hm];exact Nat.div_lt_of_lt_mul (by rw[Nat.mul_comm];omega)
  obtain⟨u,d,H⟩:=E.one (hy (j/E.size) G) (j%E.size) (Nat.mod_lt _ F)
  rw[Nat.mul_comm,Nat.div_add_mod,List.getElem?_eq_getElem hj] at d
  injection d with d
  rw[d]
  exact H
 refine gW w hgd s x T ho base t i z E.size bytes ht hi hz hsize hby hzs F A n c l hs h1 D2 A2 m c2 us hx hr v (by unfold maxLen;exact h63) hbytes hbase ?_
 intro A3 c3 w3 p q f
 refine h A3 c3 w3 ⟨l++us,p,by rw[zL];omega,fun k hk=>?_⟩ q f
 have I:l.length=n*E.size:=h1.1
 have g:∀ {B:List Value} {j:Nat} {y:α},E.At w (fun b=>D b/\some b≠blk A) B j y->E.At w3 (fun b=>D b/\some b≠blk A3) B j y:=fun {B j y} hb=>by
  have J:=E.imp hb (E:=fun b=>(D b/\some b≠blk A)/\some b≠blk A3) fun b hlt hd=>⟨hd,Fk f hlt hd.2⟩
  exact E.imp (E.keep J (yN q) (fun b _ hd=>hd.1.2)) fun b _ hd=>⟨hd.1.1,hd.2⟩
 by_cases r:k<ls.length
 ·rw[List.getElem_append_left r]
  refine g (E.shift (h3 k r) fun j hj u e=>?_)
  have C:=Nat.mul_le_mul_right E.size (show k+1<=n by omega)
  rw[Nat.add_mul] at C
  rw[List.getElem?_append_left zo]
  exact e
 rw[List.getElem_append_right zo]
 have K:k-ls.length<ms.length:=by rw[zL] at hk;omega
 refine g (E.shift (hy (k-ls.length) K) fun j hj u e=>?_)
 have C:k*E.size=l.length+(k-ls.length)*E.size:=by rw[I,<- h2,<- Nat.add_mul];congr 1;omega
 rw[C,Nat.add_assoc,List.getElem?_append_right zo,Nat.add_sub_cancel_left]
 exact e
theorem Ir(w:World)(hgd:o.guard=none)(s x:Operand)(T t:TypeId)(ho:o.op=.call { callee:=.builtin .append,args:=#[s,x],argTypes:=#[T,T] })(i:TypeInfo)(z:Value)(bytes:Nat)(ht:P.underlying T=some (.slice t))(hi:P.info? t=some i)(hz:i.zero=some z)(hsize:i.size=E.size)(hby:i.bytes=bytes)(hzs:z.cells.size=E.size)(base:Nat)(D:Nat->Prop)(A:Option Addr)(n c:Nat)(ls:List α)(hs:a.eval s=.slice A n c)(hown:gJ t E w base D A n c ls)(D2:Nat->Prop)(A2:Option Addr)(c2:Nat)(us:List Value)(y:α)(hx:a.eval x=.slice A2 1 c2)(hr:Row w D2 A2 1 E.size us)(hy:E.At w (fun b=>D b/\some b≠blk A) us 0 y)(h63:n+1<=9223372036854775807)(hbytes:(n+1)*bytes<=140737488355328)(hbase:base<=w.heap.size)(h:∀A3 c3 w3,gJ t E w3 base D A3 (n+1) c3 (ls++[y])->w.grownBy w3 (blk A)->(blk A3=blk A\/blk A3=some w.heap.size)->wpList P ops Q rest (a.put o.dst (.slice A3 (n+1) c3)) w3):wpList P ops Q (o::rest) a w:=by
 refine xd w hgd s x T t ho i z bytes ht hi hz hsize hby hzs base D A n c ls hs hown D2 A2 1 c2 us [y] hx hr rfl (fun k hk=>?_) h63 hbytes hbase h
 obtain rfl:k=0:=by simpa using hk
 rw[Nat.zero_mul]
 exact hy
end
def gT:Elt eA where
 size:=3
 At:=pQ
 pos:=by decide
 keep:=pQ.keep
 imp:=pQ.imp
 shift:=by
  rintro w D vs us i j a⟨A,c,e0,e1,e2,rest⟩ h
  exact⟨A,c,h 0 Zd _ e0,h 1 Zd _ e1,h 2 Zd _ e2,rest⟩
 one:=by
  rintro w D vs i a⟨A,c,e0,e1,e2,rest⟩ k hk
  match k,hk with
  | 0,_=>exact⟨_,e0,rfl⟩
  | 1,_=>exact⟨_,e1,rfl⟩
  | 2,_=>exact⟨_,e2,rfl⟩
def vd{α:Type}(E:Elt α):Elt (List α) where
 size:=1
 At w D vs i ls:=∃A c,vs[i]?=some (.slice A ls.length c)/\ls.length<=c/\c<=9223372036854775807/\Sl E w D A ls.length ls
 pos:=by decide
 keep:=by
  rintro w w' D F vs i a⟨A,c,e,h1,h2,h3⟩ hk hE
  exact⟨A,c,e,h1,h2,h3.keep hk hE⟩
 imp:=by
  rintro w D F vs i a⟨A,c,e,h1,h2,h3⟩ hE
  exact⟨A,c,e,h1,h2,h3.imp hE⟩
 shift:=by
  rintro w D vs us i j a⟨A,c,e0,rest⟩ h
  exact⟨A,c,h 0 Zd _ e0,rest⟩
 one:=by
  rintro w D vs i a⟨A,c,e0,rest⟩ k hk
  match k,hk with
  | 0,_=>exact⟨_,e0,rfl⟩
theorem qE:mc w D A n rs↔Sl gT w D A n rs:=Iff.rfl
theorem Sl.at1{α:Type}{E:Elt α}{ls:List (List α)}(h:Sl (vd E) w D A n ls)(hk:k<ls.length):
  ∃b off Q qc,A=some ⟨b,off,none⟩/\D b/\w.cell? ⟨b,off+k,none⟩=some (.slice Q ls[k].length qc)/\ls[k].length<=qc/\qc<=9223372036854775807/\Sl E w D Q ls[k].length ls[k]:=by
 obtain⟨i,h1,h2,h3⟩:=h
 obtain⟨Q,qc,e,c,d,f⟩:=h3 k hk
 obtain⟨b,off,hA,g,_,a⟩:=h1.2 zo
 exact⟨b,off,Q,qc,hA,g,a k _ (by rw[show k*(vd E).size=k from Nat.mul_one k] at e;exact e),c,d,f⟩
section
variable {P:Program}{ops:Array Oper}{Q:Exit->Act->World->Prop}{md:Region.Mode}{S:World->Prop}
theorem mw{o':Oper}(hr:Region.ready md ops listed=[i,j])(ho:ops[i]?=some o)(hw:Region.wanted o (yielded ops a.tmps)=true)(ho':ops[j]?=some o')(hw':Region.wanted o' (yielded ops a.tmps)=true)(h:∀K:Act->World->Prop,Hid (∀a' w',S w'->wpAnyH P md ops Q S fuel (listed.setIfInBounds i true) a' w'->K a' w')->Oper.wp P o a w K Q)(h':∀K:Act->World->Prop,Hid (∀a' w',S w'->wpAnyH P md ops Q S fuel (listed.setIfInBounds j true) a' w'->K a' w')->Oper.wp P o' a w K Q):wpAnyH P md ops Q S (fuel+1) listed a w:=by
 refine wpAnyH_all hr (by simp) fun k hk=>?_
 have c:k=i\/k=j:=by simpa using hk
 unfold wpOp
 rcases c with rfl|rfl
 ·simp only[ho,hw,if_true]
  exact .inl (h _ (zh fun a' w' b hk=>⟨b,hk⟩))
 simp only[ho',hw',if_true]
 exact .inl (h' _ (zh fun a' w' b hk=>⟨b,hk⟩))
end
def il(Ws:List Nat)(l:Array Bool):Bool:=Ws.all fun k=>l.getD k true==false
def Et(md:Region.Mode)(ops:Array Oper)(Ws:List Nat)(i:Nat):Bool :=
 !Ws.contains i&&Ws.all fun j=>match ops[j]? with
  | some o=>o.after.any fun e=>Region.binds md e&&(e.on==i||Ws.contains e.on)
  | none=>false
section
variable {P:Program}{ops:Array Oper}{Q:Exit->Act->World->Prop}{md:Region.Mode}{Ws:List Nat}{S T:World->Prop}
def iZ(P:Program)(md:Region.Mode)(ops:Array Oper)(Q:Exit->Act->World->Prop)(Ws:List Nat)(S T:World->Prop):Nat->Array Bool->Act->World->Prop
 | 0,listed,a,w=>Region.ready md ops listed=[]/\Q .normal a w
 | fuel+1,listed,a,w =>
  (Region.ready md ops listed=[]->Q .normal a w) /\
  ∀i∈Region.ready md ops listed,wpOp P ops Q i (fun a' w'=>(S w'/\(il Ws (listed.setIfInBounds i true)=true->T w'))/\iZ P md ops Q Ws S T fuel (listed.setIfInBounds i true) a' w') a w
theorem sV:∀(fuel:Nat) (listed:Array Bool) (a:Act) (w:World),iZ P md ops Q Ws S T fuel listed a w->wpAny P md ops Q fuel listed a w
 | 0,_,_,_,h=>h
 | fuel+1,_,_,_,h=>⟨h.1,fun i hi=>wpOp_mono (fun a' w' h'=>sV fuel _ a' w' h'.2) (h.2 i hi)⟩
theorem po(h:il Ws l=true)(hk:k∈Ws):l.getD k true=false:=by
 have:=List.all_eq_true.1 h k hk
 simpa using this
theorem lJ(h:il Ws l=true)(hj:j∉Ws):il Ws (l.setIfInBounds j true)=true:=by
 refine List.all_eq_true.2 fun k hk=>?_
 have a:j≠k:=fun e=>hj (e▸hk)
 have h1:=po h hk
 rw[getD_set_ne true a,h1]
 rfl
theorem Cz(hc:Et md ops Ws i=true)(h:il Ws l=true)(hi:l.getD i true=false)(hj:j∈Region.ready md ops l):j∉Ws:=by
 intro f
 obtain⟨_,k,g,b⟩:=mem_ready.1 hj
 have h1:=List.all_eq_true.1 (Bool.and_eq_true_iff.1 hc).2 j f
 rw[g] at h1
 obtain⟨e,he,h2⟩:=Array.any_eq_true'.1 h1
 have h3:=Bool.and_eq_true_iff.1 h2
 have c:=b e he h3.1
 have a:l.getD e.on true=false:=by
  rcases Bool.or_eq_true_iff.1 h3.2 with h5|h5
  ·have:e.on=i:=by simpa using h5
   rw[this];exact hi
  exact po h (by simpa using h5)
 rcases Nat.lt_or_ge e.on l.size with d|d
 ·simp[d] at c a;rw[c] at a;cases a
 simp[Array.getElem?_eq_none d] at c
theorem wj(hi:ops[i]?=some oi)(hsel:∀(j:Nat) (o:Oper) cs b,ops[j]?=some o->o.op≠.select cs b)(hQ:∀c a w,Q (.panic c) (a.put oi.dst v) w->Q (.panic c) a w)(hc:Et md ops Ws i=true):
  ∀(fuel:Nat) (listed:Array Bool) (a:Act) (w:World),
   (∀j oj,ops[j]?=some oj->j≠i->listed.getD j true=false->(∀e∈oj.after,Region.binds md e=true->e.on≠i)->oi.apart ops oj=true) ->
   i∈Region.ready md ops listed->il Ws listed=true->YieldsIf P ops T oi v a->S w->T w ->
   iZ P md ops Q Ws S T fuel (listed.setIfInBounds i true) (a.put oi.dst v) w->iZ P md ops Q Ws S T (fuel+1) listed a w:=by
 have E:i∉Ws:=by
  have:=(Bool.and_eq_true_iff.1 hc).1
  simpa using this
 intro fuel
 induction fuel with
 | zero =>
  intro listed a w _ f _ hy z l H
  refine⟨fun h=>(by rw[h] at f;cases f),fun j hj=>?_⟩
  by_cases d:j=i
  ·subst d;exact hy.wpOp hi l ⟨⟨z,fun _=>l⟩,H⟩
  have:=ready_mono hj d
  rw[H.1] at this
  cases this
 | succ fuel ih =>
  intro listed a w g f m hy z l H
  refine⟨fun h=>(by rw[h] at f;cases f),fun j hj=>?_⟩
  by_cases d:j=i
  ·subst d;exact hy.wpOp hi l ⟨⟨z,fun _=>l⟩,H⟩
  have h1:=H.2 j (ready_mono hj d)
  obtain⟨n,oj,p,A⟩:=mem_ready.1 hj
  have q:=(mem_ready.1 f).1
  have u:j∉Ws:=Cz hc m q hj
  have B:∀e∈oj.after,Region.binds md e=true->e.on≠i:=fun e he hb F=>by
   have h1:=A e he hb
   have h0:=q
   rw[F] at h1
   rcases Nat.lt_or_ge i listed.size with C|C
   ·simp[C] at h0 h1;rw[h0] at h1;cases h1
   simp[Array.getElem?_eq_none C] at h1
  have h2:=wpOp_putIf p (g j oj p d n B) (fun cs b=>hsel i oi cs b hi) (fun cs b=>hsel j oj cs b p) hQ hy h1
  have r:∀k s,ops[k]?=some s->k≠i->(listed.setIfInBounds j true).getD k true=false ->
    (∀e∈s.after,Region.binds md e=true->e.on≠i)->oi.apart ops s=true:=fun k s hk G x I=>by
   refine g k s hk G ?_ I
   by_cases y:j=k
   ·subst y;exact n
   rw[getD_set_ne true y] at x;exact x
  have D:il Ws (listed.setIfInBounds j true)=true:=lJ m u
  have t:il Ws ((listed.setIfInBounds i true).setIfInBounds j true)=true:=lJ (lJ m E) u
  refine wpOp_mono (fun J K h3=>⟨⟨h3.2.1.1,fun _=>h3.2.1.2 t⟩,ih (listed.setIfInBounds j true) J K r (ready_mono f (Ne.symm d)) D h3.1 h3.2.1.1 (h3.2.1.2 t) ?_⟩) h2
  rw[Array.setIfInBounds_comm _ _ d]
  exact h3.2.2
theorem qm(hi:i∉Ws):il Ws (l.setIfInBounds i true)=il Ws l:=by
 rw[Bool.eq_iff_iff]
 refine⟨fun h=>List.all_eq_true.2 fun k hk=>?_,fun h=>lJ h hi⟩
 have h1:=po h hk
 have a:i≠k:=fun e=>hi (by rw[e];exact hk)
 rw[getD_set_ne true a] at h1
 rw[h1]
 rfl
theorem uG(hi:ops[i]?=some oi)(hsel:∀(j:Nat) (o:Oper) cs b,ops[j]?=some o->o.op≠.select cs b)(hQ:∀c a w,Q (.panic c) (a.put oi.dst v) w->Q (.panic c) a w)(hiW:i∉Ws):
  ∀(fuel:Nat) (listed:Array Bool) (a:Act) (w:World),
   (∀j oj,ops[j]?=some oj->j≠i->listed.getD j true=false->(∀e∈oj.after,Region.binds md e=true->e.on≠i)->oi.apart ops oj=true) ->
   i∈Region.ready md ops listed->YieldsIf P ops S oi v a->S w->(il Ws listed=true->T w) ->
   iZ P md ops Q Ws S T fuel (listed.setIfInBounds i true) (a.put oi.dst v) w->iZ P md ops Q Ws S T (fuel+1) listed a w:=by
 intro fuel
 induction fuel with
 | zero =>
  intro listed a w _ f hy l u H
  refine⟨fun h=>(by rw[h] at f;cases f),fun j hj=>?_⟩
  by_cases d:j=i
  ·subst d;exact hy.wpOp hi l ⟨⟨l,fun h=>u (by rwa[qm hiW] at h)⟩,H⟩
  have:=ready_mono hj d
  rw[H.1] at this
  cases this
 | succ fuel ih =>
  intro listed a w g f hy l u H
  refine⟨fun h=>(by rw[h] at f;cases f),fun j hj=>?_⟩
  by_cases d:j=i
  ·subst d;exact hy.wpOp hi l ⟨⟨l,fun h=>u (by rwa[qm hiW] at h)⟩,H⟩
  have h1:=H.2 j (ready_mono hj d)
  obtain⟨m,oj,n,x⟩:=mem_ready.1 hj
  have y:=(mem_ready.1 f).1
  have z:∀e∈oj.after,Region.binds md e=true->e.on≠i:=fun e he hb B=>by
   have h1:=x e he hb
   have h0:=y
   rw[B] at h1
   rcases Nat.lt_or_ge i listed.size with A|A
   ·simp[A] at h0 h1;rw[h0] at h1;cases h1
   simp[Array.getElem?_eq_none A] at h1
  have h2:=wpOp_putIf n (g j oj n d m z) (fun cs b=>hsel i oi cs b hi) (fun cs b=>hsel j oj cs b n) hQ hy h1
  have p:∀k q,ops[k]?=some q->k≠i->(listed.setIfInBounds j true).getD k true=false ->
    (∀e∈q.after,Region.binds md e=true->e.on≠i)->oi.apart ops q=true:=fun k q hk C r D=>by
   refine g k q hk C ?_ D
   by_cases s:j=k
   ·subst s;exact m
   rw[getD_set_ne true s] at r;exact r
  have t:il Ws ((listed.setIfInBounds i true).setIfInBounds j true)=il Ws (listed.setIfInBounds j true):=by
   rw[Array.setIfInBounds_comm _ _ (Ne.symm d),qm hiW]
  refine wpOp_mono (fun E F h3=>⟨⟨h3.2.1.1,fun h=>h3.2.1.2 (by rw[t];exact h)⟩,ih (listed.setIfInBounds j true) E F p (ready_mono f (Ne.symm d)) h3.1 h3.2.1.1 (fun h=>h3.2.1.2 (by rw[t];exact h)) ?_⟩) h2
  rw[Array.setIfInBounds_comm _ _ d]
  exact h3.2.2
theorem oM(Ws:List Nat)(S T:World->Prop){id:Nat}(hm:P.follows .mixedOrders=true)(h:iZ P .any ops Q Ws S T ops.size (Array.replicate ops.size false) a w.drew):(Code.region id ops true).wp P Q a w :=
 wp_region_any hm (sV _ _ _ _ h)
theorem jQ(hST:S w/\(il Ws listed=true->T w))(hi:ops[i]?=some oi)(hs:Region.noSelect ops=true)(hf:Region.free md ops listed i=true)(hr:(Region.ready md ops listed).contains i=true)(hc:Ws.contains i=false)(hQ:∀c a w,Q (.panic c) (a.put oi.dst v) w->Q (.panic c) a w)(hw:Region.wanted oi (yielded ops a.tmps)=true)(hy:∀w',S w'->(execOp a.eval oi).run P w'=.ok (.value v) w')(h:iZ P md ops Q Ws S T fuel (listed.setIfInBounds i true) (a.put oi.dst v) w):iZ P md ops Q Ws S T (fuel+1) listed a w :=
 uG hi (Region.noSelect_spec hs) hQ (by simpa using hc) fuel listed a w (Region.free_spec hi hf) (by simpa using hr) (.inl ⟨hw,hy⟩) hST.1 hST.2 h
theorem sd(hST:S w/\(il Ws listed=true->T w))(hi:ops[i]?=some oi)(hs:Region.noSelect ops=true)(hf:Region.free md ops listed i=true)(hr:(Region.ready md ops listed).contains i=true)(hc:Et md ops Ws i=true)(hcl:il Ws listed=true)(hQ:∀c a w,Q (.panic c) (a.put oi.dst v) w->Q (.panic c) a w)(hw:Region.wanted oi (yielded ops a.tmps)=true)(hy:∀w',T w'->(execOp a.eval oi).run P w'=.ok (.value v) w')(h:iZ P md ops Q Ws S T fuel (listed.setIfInBounds i true) (a.put oi.dst v) w):iZ P md ops Q Ws S T (fuel+1) listed a w :=
 wj hi (Region.noSelect_spec hs) hQ hc fuel listed a w (Region.free_spec hi hf) (by simpa using hr) hcl (.inl ⟨hw,hy⟩) hST.1 (hST.2 hcl) h
theorem jo(hr:Region.ready md ops listed=[i])(ho:ops[i]?=some o)(hw:Region.wanted o (yielded ops a.tmps)=true)(h:∀K:Act->World->Prop,Hid (∀a' w',(S w'/\(il Ws (listed.setIfInBounds i true)=true->T w'))->iZ P md ops Q Ws S T fuel (listed.setIfInBounds i true) a' w'->K a' w')->Oper.wp P o a w K Q):iZ P md ops Q Ws S T (fuel+1) listed a w:=by
 refine⟨fun h0=>absurd (hr▸h0) (by simp),fun j hj=>?_⟩
 rw[hr] at hj
 have b:j=i:=by simpa using hj
 subst b
 unfold wpOp
 simp only[ho,hw,if_true]
 exact .inl (h _ (zh fun a' w' c hk=>⟨c,hk⟩))
theorem ou(hr:Region.ready md ops listed=[])(h:Q .normal a w):∀fuel,iZ P md ops Q Ws S T fuel listed a w
 | 0=>⟨hr,h⟩
 | _+1=>⟨fun _=>h,by rw[hr];simp⟩
end
