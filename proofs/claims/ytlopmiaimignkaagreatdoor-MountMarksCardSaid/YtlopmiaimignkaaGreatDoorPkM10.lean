/-
  PROVED HERE: parts of a law's walk, each under the conditions that its statement names.
-/
import Derived.Laws.BytesArg
import Derived.Lib.SlBytesRow
import Derived.Test.YtlopmiaimignkaaGreatDoorPkM09
namespace Go.Proofs.YtlopmiaimignkaaGreatDoor
open Go.Proofs.Tryz
open Go.RowKit
variable{D:Nat->Prop}{A A':Option Addr}{base base' c c' n n':Nat}{bs:List UInt8}{w:World}{ops:Array Oper}{rest:List Oper}{o:Oper}{a:Act}{Q:Exit->Act->World->Prop}
def dR(bs:List UInt8):ByteArray:=⟨bs.toArray⟩
@[go_sem] theorem GJ(bs:List UInt8):(dR bs).toList=bs:=by rw[ByteArray.toList_eq];rfl
theorem mG(h:Bs w D A n bs):
  (convert 22 9 (.slice A n c)).run prog w=.ok (.string (dR bs)) w:=by
 have hl:=h.len
 rcases Nat.eq_zero_or_pos n with h0|h0
 ·subst h0
  obtain rfl:bs=[]:=List.eq_nil_of_length_eq_zero hl
  rw[run_convert_bytes_string w _ _ 5 A 0 c underlying22 underlying5 underlying9]
  rcases A with _|a
  ·simp[Conv.bytesToString,Sem.run_pure];rfl
  rw[run_bytesToString w a 0 c [] (by rw[loadCells,loadCellsFrom];rfl)];rfl
 obtain⟨b,off,rfl,_,_,hc⟩:=h.cellAt h0
 subst hl
 exact Lib.run_convert_whole w 22 5 9 underlying22 underlying5 underlying9 b off (dR bs) (fun i hi=>hc i hi) c
theorem jO:(prog.info? 45).map (fun i=>(i.zero,i.size,i.bytes))=some (some (.agg #[.int .i64 0,.int .u64 0,.slice none 0 0]),3,40):=zk
theorem B5(w:World)(hgd:o.guard=none)(s x:Operand)(ho:o.op=.call { callee:=.builtin .append,args:=#[s,x],argTypes:=#[68,68] })(base:Nat)(A:Option Addr)(n c:Nat)(xs:List Value)(hs:a.eval s=.slice A n c)(hown:Own w base 45 3 A n c xs)(D:Nat->Prop)(A2:Option Addr)(m c2:Nat)(news:List Value)(hx:a.eval x=.slice A2 m c2)(hr:Row w D A2 m 3 news)(h1:∀u∈news,u.oneCell'=true)(h63:n+m<=1099511627776)(hbase:base<=w.heap.size)(h:∀A' c' w',Own w' base 45 3 A' (n+m) c' (xs++news)->w.grownBy w' (blk A)->(blk A'=blk A\/blk A'=some w.heap.size)->wpList prog ops Q rest (a.put o.dst (.slice A' (n+m) c')) w'):wpList prog ops Q (o::rest) a w:=by
 obtain⟨i,hi,b,d,e⟩:=info_parts jO
 exact gW w hgd s x 68 ho base 45 i (.agg #[.int .i64 0,.int .u64 0,.slice none 0 0]) 3 40 underlying68 hi b d e rfl Zd A n c xs hs hown D A2 m c2 news hx hr h1 (by unfold maxLen;omega) zo hbase h
def qr(w:World)(D:Nat->Prop)(vs:List Value)(i:Nat)(r:eA):Prop :=
 ∃A c,vs[i]?=some (.int .i64 r.kind)/\vs[i+1]?=some (.int .u64 r.seq)/\vs[i+2]?=some (.slice A r.body.length c)/\r.body.length<=c/\Bs w D A r.body.length r.body/\0<=r.seq/\r.seq<=18446744073709551615/\c<=9223372036854775807
def eK(w:World)(base:Nat)(D:Nat->Prop)(A:Option Addr)(n c:Nat)(rs:List eA):Prop :=
 ∃vs:List Value,Own w base 45 3 A n c vs/\rs.length=n/\∀k (h:k<rs.length),qr w (fun b=>D b/\some b≠blk A) vs (k*3) rs[k]
section
variable {w w':World}{base base':Nat}{D E:Nat->Prop}{A:Option Addr}{n c:Nat}{rs:List eA}
theorem qr.keep{vs:List Value}{i:Nat}{r:eA}(h:qr w D vs i r)(hk:b_ E w w')(hE:∀b,b<w.heap.size->D b->E b):qr w' D vs i r:=by
 obtain⟨A,c,h1,h2,h3,a,h5,h6,h7,d⟩:=h
 exact⟨A,c,h1,h2,h3,a,h5.keep hk hE,h6,h7,d⟩
theorem qr.imp{vs:List Value}{i:Nat}{r:eA}(h:qr w D vs i r)(hE:∀b,b<w.heap.size->D b->E b):qr w E vs i r:=by
 obtain⟨A,c,h1,h2,h3,a,h5,h6,h7,d⟩:=h
 exact⟨A,c,h1,h2,h3,a,h5.imp hE,h6,h7,d⟩
theorem eK.nil(w:World)(base:Nat)(D:Nat->Prop):eK w base D none 0 0 []:=⟨[],Own.nil _ _ _ _,rfl,fun k hk=>absurd hk (by simp)⟩
theorem eK.new(h:eK w base D A n c rs)(hk:New w w'):eK w' base D A n c rs:=by
 obtain⟨b,h1,h2,h3⟩:=h
 exact⟨b,eP h1 hk (fun _ _=>zt),h2,fun k a=>(h3 k a).keep hk fun _ _ _=>zt⟩
theorem eK.len(h:eK w base D A n c rs):rs.length=n:=by obtain⟨_,_,h,_⟩:=h;exact h
theorem eK.cap(h:eK w base D A n c rs):n<=c:=by obtain⟨_,h,_⟩:=h;exact ew h
theorem eK.capMax(h:eK w base D A n c rs):c<=9223372036854775807:=by obtain⟨_,h,_⟩:=h;exact eh h
theorem eK.recs(h:eK w base D A n c rs)(hb:∀r∈rs,r.body.length<=9223372036854770000):mc w (fun b=>base<=b\/D b) A n rs:=by
 obtain⟨a,h1,h2,h3⟩:=h
 refine⟨a,(Row.Qc h1).imp (fun _ _ h=>.inl h),h2,fun k hk=>?_⟩
 obtain⟨d,e,e1,e2,e3,hc,hB,h5,h6,h7⟩:=h3 k hk
 exact⟨d,e,e1,e2,e3,hc,hB.imp (fun _ _ h=>.inr h.1),h5,h6,hb _ (List.getElem_mem hk),h7⟩
theorem eK.lt(h:eK w base D A n c rs):∀k,blk A=some k->base<=k/\k<w.heap.size:=by obtain⟨_,h,_⟩:=h;exact eW h
end
theorem Ih{xs:List Value}(h:Own w base 45 3 A n c xs)(hb:fy w base' 5 A' n' c' bs):Bs w (fun b=>base'<=b/\some b≠blk A) A' n' bs:=by
 have i:=Row.Qc hb
 refine⟨i.1,fun hn=>?_⟩
 obtain⟨b,off,rfl,hd,hlt,hc⟩:=i.2 hn
 refine⟨b,off,rfl,⟨hd,fun e=>?_⟩,hlt,hc⟩
 rcases hb.2 with⟨f,_⟩|⟨g,m,o,f,_,hg,_⟩
 ·cases f
 injection f with hA;injection hA with hA;injection hA with hA;subst hA
 rcases h.2 with⟨d,_⟩|⟨j,k,l,d,_,a,_⟩
 ·injection d with hA;subst hA;cases e
 injection d with hA;subst hA
 have:b=j:=by injection e
 subst this
 rw[hg] at a
 injection a with a
 injection a with _ ht
 exact absurd ht Zd
theorem eK.apart{rs:List eA}(h:eK w base D A n c rs)(hb:fy w base' 5 A' n' c' bs):Bs w (fun b=>base'<=b/\some b≠blk A) A' n' bs:=by
 obtain⟨_,h,_⟩:=h;exact Ih h hb
theorem Gn(w:World)(hgd:o.guard=none)(s x:Operand)(ho:o.op=.call { callee:=.builtin .append,args:=#[s,x],argTypes:=#[68,68] })(base:Nat)(D:Nat->Prop)(A:Option Addr)(n c:Nat)(rs:List eA)(hs:a.eval s=.slice A n c)(hown:eK w base D A n c rs)(D2:Nat->Prop)(A2:Option Addr)(c2:Nat)(A':Option Addr)(c':Nat)(y:eA)(hx:a.eval x=.slice A2 1 c2)(hr:Row w D2 A2 1 3 [.int .i64 y.kind,.int .u64 y.seq,.slice A' y.body.length c'])(hy:Bs w (fun b=>D b/\some b≠blk A) A' y.body.length y.body)(hmc:y.body.length<=c')(hc9:c'<=9223372036854775807)(hs0:0<=y.seq)(hs1:y.seq<=18446744073709551615)(h63:n+1<=1099511627776)(hbase:base<=w.heap.size)(h:∀A3 c3 w3,eK w3 base D A3 (n+1) c3 (rs++[y])->w.grownBy w3 (blk A)->(blk A3=blk A\/blk A3=some w.heap.size)->wpList prog ops Q rest (a.put o.dst (.slice A3 (n+1) c3)) w3):wpList prog ops Q (o::rest) a w:=by
 obtain⟨d,h1,h2,h3⟩:=hown
 refine B5 w hgd s x ho base A n c d hs h1 D2 A2 1 c2 [.int .i64 y.kind,.int .u64 y.seq,.slice A' y.body.length c'] hx hr (by intro u q;simp at q;rcases q with rfl|rfl|rfl <;> rfl) h63 hbase ?_
 intro A3 c3 w3 j m g
 refine h A3 c3 w3 ⟨d++[.int .i64 y.kind,.int .u64 y.seq,.slice A' y.body.length c'],j,by simp[h2],fun k hk=>?_⟩ m g
 have C:d.length=n*3:=h1.1
 have i:∀ {f:Option Addr} {l:Nat} {z:List UInt8},Bs w (fun b=>D b/\some b≠blk A) f l z->Bs w3 (fun b=>D b/\some b≠blk A3) f l z:=fun {f l z} hb=>by
  have r:b_ (fun b=>some b≠blk A) w w3:=(b_.refl _ w).grown m (fun k hk hd=>absurd hk.symm hd)
  have t:Bs w (fun b=>(D b/\some b≠blk A)/\some b≠blk A3) f l z:=hb.imp fun b hlt hd=>⟨hd,by
   rcases g with e|e
   ·rw[e];exact hd.2
   rw[e];intro e';injection e';omega⟩
  exact(Row.keep t r (fun b _ hd=>hd.1.2)).imp fun b _ hd=>⟨hd.1.1,hd.2⟩
 by_cases p:k<rs.length
 ·rw[List.getElem_append_left p]
  obtain⟨f,B,e1,e2,e3,hc,hb,hq⟩:=h3 k p
  exact⟨f,B,by rw[List.getElem?_append_left zo];exact e1,by rw[List.getElem?_append_left zo];exact e2,by rw[List.getElem?_append_left zo];exact e3,hc,i hb,hq⟩
 have v:k=rs.length:=by simp at hk;omega
 subst v
 rw[List.getElem_append_right zr]
 simp only[Nat.sub_self,List.getElem_singleton]
 refine⟨A',c',?_,?_,?_,hmc,i hy,hs0,hs1,hc9⟩
 ·rw[List.getElem?_append_right zo,show rs.length*3-d.length=0 from by omega];rfl
 ·rw[List.getElem?_append_right zo,show rs.length*3+1-d.length=1 from by omega];rfl
 rw[List.getElem?_append_right zo,show rs.length*3+2-d.length=2 from by omega];rfl
