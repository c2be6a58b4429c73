/-
  PROVED HERE: texts that belong together, one behind the other; what each proves, and under which conditions, its own opening remark says: Known17, OwnRecs.
-/
import Derived.Laws.BytesArg
import Derived.Lib.SlBytesRow
import Derived.Test.YtdodbdednpnddaaGreatDoorPkT09
namespace Go.Proofs.YtdodbdednpnddaaGreatDoor
open Go.RowKit
def strOf (bs:List UInt8):ByteArray:=⟨bs.toArray⟩
@[go_sem] theorem strOf_toList (bs:List UInt8):(strOf bs).toList=bs:=by rw [ByteArray.toList_eq];rfl
theorem run_str {D:Nat→Prop}{A:Option Addr}{n c:Nat}{bs:List UInt8}{w:World}(h:Bs w D A n bs):
  (convert 24 9 (.slice A n c)).run Tryz.prog w=.ok (.string (strOf bs)) w:=by
 have hl:=h.len
 rcases Nat.eq_zero_or_pos n with h0|h0
 ·subst h0
  obtain rfl:bs=[]:=List.eq_nil_of_length_eq_zero hl
  rw [run_convert_bytes_string w _ _ 5 A 0 c Tryz.underlying24 Tryz.underlying5 Tryz.underlying9]
  rcases A with _|a
  ·simp [Conv.bytesToString,Sem.run_pure];rfl
  ·rw [run_bytesToString w a 0 c [] (by rw [loadCells,loadCellsFrom];rfl)];rfl
 ·obtain ⟨b,off,rfl,_,_,hc⟩:=h.cellAt h0
  subst hl
  exact Lib.run_convert_whole w 24 5 9 Tryz.underlying24 Tryz.underlying5 Tryz.underlying9 b off (strOf bs) (fun i hi=>hc i hi) c
theorem info_record:(Tryz.prog.info? 188).map (fun i=>(i.zero,i.size,i.bytes))=some (some (.agg #[.int .i64 0,.int .u64 0,.slice none 0 0]),3,40):=by kernel_rfl
theorem app_cells3 {ops:Array Oper}{rest:List Oper}{o:Oper}{a:Act}{Q:Exit→Act→World→Prop}(w:World) (hgd:o.guard=none) (s x:Operand)
  (ho:o.op=.call { callee:=.builtin .append,args:=#[s,x],argTypes:=#[195,195] })
  (base:Nat) (A:Option Addr) (n c:Nat) (xs:List Value) (hs:a.eval s=.slice A n c) (hown:Own w base 188 3 A n c xs)
  (D:Nat→Prop) (A2:Option Addr) (m c2:Nat) (news:List Value) (hx:a.eval x=.slice A2 m c2) (hr:Row w D A2 m 3 news) (h1:∀ u∈news,u.oneCell'=true)
  (h63:n+m≤1099511627776) (hbase:base≤w.heap.size)
  (h:∀ A' c' w',Own w' base 188 3 A' (n+m) c' (xs++news)→w.grownBy w' (blk A)→(blk A'=blk A∨blk A'=some w.heap.size)→wpList Tryz.prog ops Q rest (a.put o.dst (.slice A' (n+m) c')) w'):wpList Tryz.prog ops Q (o::rest) a w:=by
 obtain ⟨i,hi,hz0,hz1,hz2⟩:=info_parts info_record
 exact wpList_append_row w hgd s x 195 ho base 188 i (.agg #[.int .i64 0,.int .u64 0,.slice none 0 0]) 3 40 Tryz.underlying195 hi hz0 hz1 hz2 rfl (by decide) A n c xs hs hown D A2 m c2 news hx hr h1 (by unfold maxLen;omega) (by omega) hbase h
def RecAt9 (w:World) (D:Nat→Prop) (vs:List Value) (i:Nat) (r:RecP):Prop :=
 ∃ A c,vs[i]?=some (.int .i64 r.kind)∧vs[i+1]?=some (.int .u64 r.seq)∧vs[i+2]?=some (.slice A r.body.length c)∧r.body.length≤c∧Bs w D A r.body.length r.body∧0≤r.seq∧r.seq≤18446744073709551615∧c≤9223372036854775807
def OwnRecs (w:World) (base:Nat) (D:Nat→Prop) (A:Option Addr) (n c:Nat) (rs:List RecP):Prop :=
 ∃ vs:List Value,Own w base 188 3 A n c vs∧rs.length=n∧∀ k (h:k<rs.length),RecAt9 w (fun b=>D b∧some b≠blk A) vs (k*3) rs[k]
section
variable {w w':World}{base base':Nat}{D E:Nat→Prop}{A:Option Addr}{n c:Nat}{rs:List RecP}
theorem RecAt9.keep {vs:List Value}{i:Nat}{r:RecP}(h:RecAt9 w D vs i r) (hk:Keep E w w') (hE:∀ b,b<w.heap.size→D b→E b):RecAt9 w' D vs i r:=by
 obtain ⟨A,c,h1,h2,h3,h4,h5,h6,h7,h8⟩:=h
 exact ⟨A,c,h1,h2,h3,h4,h5.keep hk hE,h6,h7,h8⟩
theorem RecAt9.imp {vs:List Value}{i:Nat}{r:RecP}(h:RecAt9 w D vs i r) (hE:∀ b,b<w.heap.size→D b→E b):RecAt9 w E vs i r:=by
 obtain ⟨A,c,h1,h2,h3,h4,h5,h6,h7,h8⟩:=h
 exact ⟨A,c,h1,h2,h3,h4,h5.imp hE,h6,h7,h8⟩
theorem OwnRecs.nil (w:World) (base:Nat) (D:Nat→Prop):OwnRecs w base D none 0 0 []:=⟨[],Own.nil _ _ _ _,rfl,fun k hk=>absurd hk (by simp)⟩
theorem OwnRecs.new (h:OwnRecs w base D A n c rs) (hk:New w w'):OwnRecs w' base D A n c rs:=by
 obtain ⟨vs,h1,h2,h3⟩:=h
 exact ⟨vs,own_keep h1 hk (fun _ _=>trivial),h2,fun k hk'=>(h3 k hk').keep hk fun _ _ _=>trivial⟩
theorem OwnRecs.len (h:OwnRecs w base D A n c rs):rs.length=n:=by obtain ⟨_,_,h,_⟩:=h;exact h
theorem OwnRecs.cap (h:OwnRecs w base D A n c rs):n≤c:=by obtain ⟨_,h,_⟩:=h;exact own_cap h
theorem OwnRecs.capMax (h:OwnRecs w base D A n c rs):c≤9223372036854775807:=by obtain ⟨_,h,_⟩:=h;exact own_capMax h
theorem OwnRecs.recs (h:OwnRecs w base D A n c rs) (hb:∀ r∈rs,r.body.length≤9223372036854770000):Recs w (fun b=>base≤b∨D b) A n rs:=by
 obtain ⟨vs,h1,h2,h3⟩:=h
 refine ⟨vs,(Row.of_own h1).imp (fun _ _ h=>.inl h),h2,fun k hk=>?_⟩
 obtain ⟨A',c',e1,e2,e3,hc,hB,h5,h6,h7⟩:=h3 k hk
 exact ⟨A',c',e1,e2,e3,hc,hB.imp (fun _ _ h=>.inr h.1),h5,h6,hb _ (List.getElem_mem hk),h7⟩
theorem OwnRecs.lt (h:OwnRecs w base D A n c rs):∀ k,blk A=some k→base≤k∧k<w.heap.size:=by obtain ⟨_,h,_⟩:=h;exact own_lt h
end
theorem own_ne {w:World}{base base':Nat}{A A':Option Addr}{n c n' c':Nat}{xs:List Value}{bs:List UInt8}(h:Own w base 188 3 A n c xs) (hb:OwnB w base' 5 A' n' c' bs):Bs w (fun b=>base'≤b∧some b≠blk A) A' n' bs:=by
 have hr:=Row.of_own hb
 refine ⟨hr.1,fun hn=>?_⟩
 obtain ⟨b,off,rfl,hd,hlt,hc⟩:=hr.2 hn
 refine ⟨b,off,rfl,⟨hd,fun e=>?_⟩,hlt,hc⟩
 rcases hb.2 with ⟨hv,_⟩|⟨g,cap,cur,hv,_,hg,_⟩
 ·cases hv
 ·injection hv with hA;injection hA with hA;injection hA with hA;subst hA
  rcases h.2 with ⟨hv2,_⟩|⟨g2,cap2,cur2,hv2,_,hg2,_⟩
  ·injection hv2 with hA;subst hA;cases e
  ·injection hv2 with hA;subst hA
   have:b=g2:=by injection e
   subst this
   rw [hg] at hg2
   injection hg2 with hg2
   injection hg2 with _ ht
   exact absurd ht (by decide)
theorem OwnRecs.apart {w:World}{base base':Nat}{D:Nat→Prop}{A A':Option Addr}{n c n' c':Nat}{rs:List RecP}{bs:List UInt8}(h:OwnRecs w base D A n c rs) (hb:OwnB w base' 5 A' n' c' bs):Bs w (fun b=>base'≤b∧some b≠blk A) A' n' bs:=by
 obtain ⟨_,h,_⟩:=h;exact own_ne h hb
theorem app_recs {ops:Array Oper}{rest:List Oper}{o:Oper}{a:Act}{Q:Exit→Act→World→Prop}(w:World) (hgd:o.guard=none) (s x:Operand)
  (ho:o.op=.call { callee:=.builtin .append,args:=#[s,x],argTypes:=#[195,195] })
  (base:Nat) (D:Nat→Prop) (A:Option Addr) (n c:Nat) (rs:List RecP) (hs:a.eval s=.slice A n c) (hown:OwnRecs w base D A n c rs)
  (D2:Nat→Prop) (A2:Option Addr) (c2:Nat) (A':Option Addr) (c':Nat) (y:RecP) (hx:a.eval x=.slice A2 1 c2) (hr:Row w D2 A2 1 3 [.int .i64 y.kind,.int .u64 y.seq,.slice A' y.body.length c'])
  (hy:Bs w (fun b=>D b∧some b≠blk A) A' y.body.length y.body) (hmc:y.body.length≤c') (hc9:c'≤9223372036854775807) (hs0:0≤y.seq) (hs1:y.seq≤18446744073709551615)
  (h63:n+1≤1099511627776) (hbase:base≤w.heap.size)
  (h:∀ A3 c3 w3,OwnRecs w3 base D A3 (n+1) c3 (rs++[y])→w.grownBy w3 (blk A)→(blk A3=blk A∨blk A3=some w.heap.size)→wpList Tryz.prog ops Q rest (a.put o.dst (.slice A3 (n+1) c3)) w3):wpList Tryz.prog ops Q (o::rest) a w:=by
 obtain ⟨vs,h1,h2,h3⟩:=hown
 refine app_cells3 w hgd s x ho base A n c vs hs h1 D2 A2 1 c2 [.int .i64 y.kind,.int .u64 y.seq,.slice A' y.body.length c'] hx hr (by intro u hu;simp at hu;rcases hu with rfl|rfl|rfl <;> rfl) h63 hbase ?_
 intro A3 c3 w3 hown3 hg3 hbk3
 refine h A3 c3 w3 ⟨vs++[.int .i64 y.kind,.int .u64 y.seq,.slice A' y.body.length c'],hown3,by simp [h2],fun k hk=>?_⟩ hg3 hbk3
 have hvl:vs.length=n*3:=h1.1
 have move:∀ {A0:Option Addr} {m0:Nat} {z:List UInt8},Bs w (fun b=>D b∧some b≠blk A) A0 m0 z→Bs w3 (fun b=>D b∧some b≠blk A3) A0 m0 z:=fun {A0 m0 z} hb=>by
  have hk3:Keep (fun b=>some b≠blk A) w w3:=(Keep.refl _ w).grown hg3 (fun k hk hd=>absurd hk.symm hd)
  have hb3:Bs w (fun b=>(D b∧some b≠blk A)∧some b≠blk A3) A0 m0 z:=hb.imp fun b hlt hd=>⟨hd,by
   rcases hbk3 with e|e
   ·rw [e];exact hd.2
   ·rw [e];intro e';injection e';omega⟩
  exact (Row.keep hb3 hk3 (fun b _ hd=>hd.1.2)).imp fun b _ hd=>⟨hd.1.1,hd.2⟩
 by_cases hkn:k<rs.length
 ·rw [List.getElem_append_left hkn]
  obtain ⟨A0,c0,e1,e2,e3,hc,hb,hq⟩:=h3 k hkn
  exact ⟨A0,c0,by rw [List.getElem?_append_left (by omega)];exact e1,by rw [List.getElem?_append_left (by omega)];exact e2,by rw [List.getElem?_append_left (by omega)];exact e3,hc,move hb,hq⟩
 ·have hk':k=rs.length:=by simp at hk;omega
  subst hk'
  rw [List.getElem_append_right (Nat.le_refl _)]
  simp only [Nat.sub_self,List.getElem_singleton]
  refine ⟨A',c',?_,?_,?_,hmc,move hy,hs0,hs1,hc9⟩
  ·rw [List.getElem?_append_right (by omega),show rs.length*3-vs.length=0 from by omega];rfl
  ·rw [List.getElem?_append_right (by omega),show rs.length*3+1-vs.length=1 from by omega];rfl
  ·rw [List.getElem?_append_right (by omega),show rs.length*3+2-vs.length=2 from by omega];rfl
end Go.Proofs.YtdodbdednpnddaaGreatDoor
