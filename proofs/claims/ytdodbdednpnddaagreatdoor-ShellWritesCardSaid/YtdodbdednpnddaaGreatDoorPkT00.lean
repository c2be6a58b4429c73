/-
  PROVED HERE: texts that belong together, one behind the other; what each proves, and under which conditions, its own opening remark says: Mem, Hold, More, Base, Hold2, Take, Word, Rot, ShaSpec.
-/
import Derived.WalkKit
import Derived.WalkLawsBesides
import Derived.Below
import Derived.OwnWalk
import Derived.Maps.AppendAt
import Derived.Deep.AppendLies
import Derived.Deep.Draws
import Derived.Deep.WholeRow
import Derived.Deep.QuietTactic
import Derived.RegionTactic
import Derived.Laws.OwnMore
import Derived.Laws.Rows
import Derived.KernelRfl
import Derived.Deep.RegionHeld3
import Derived.Lib.Hide
import Derived.Test.YtdodbdednpnddaaGreatDoorChecked
import Derived.WalkSpells
set_option maxRecDepth 100000
namespace Go.Proofs.YtdodbdednpnddaaGreatDoor
open Go.RowKit
theorem quiet_left {P:Program}{f:FuncId}{args:Array Value}{w:World}{n:Nat}{v:Value}
    (h:Calls P f args (w.drewN n) fun e w'=>e=.returned v∧w.drewN n=w'):Calls P f args (w.drewN n) fun e w''=>e=.returned v∧∃ m,w''=w.drewN m :=
  h.mono fun _ _ ⟨he,hm⟩=>⟨he,n,hm.symm⟩
structure Keep (D:Nat→Prop) (w w':World):Prop where
  os:w'.os=w.os
  tape:w'.tape=w.tape
  output:w'.output=w.output
  size:w.heap.size≤w'.heap.size
  block:∀ k,k<w.heap.size→D k→w'.heap[k]?=w.heap[k]?
abbrev New (w w':World):Prop:=Keep (fun _=>True) w w'
section
variable {D E:Nat→Prop}{a b c w w':World}
theorem Keep.refl (D:Nat→Prop) (w:World):Keep D w w:=⟨rfl,rfl,rfl,Nat.le_refl _,fun _ _ _=>rfl⟩
theorem New.refl (w:World):New w w:=Keep.refl _ w
theorem Keep.trans2 (h:Keep D a b) (k:Keep E b c) (hDE:∀ i,i<a.heap.size→D i→E i):Keep D a c :=
  ⟨k.os.trans h.os,k.tape.trans h.tape,k.output.trans h.output,Nat.le_trans h.size k.size,fun i hi hd=>(k.block i (Nat.lt_of_lt_of_le hi h.size) (hDE i hi hd)).trans (h.block i hi hd)⟩
theorem Keep.trans (h:Keep D a b) (k:Keep D b c):Keep D a c:=h.trans2 k fun _ _ h=>h
theorem Keep.new (h:Keep D a b) (k:New b c):Keep D a c:=h.trans2 k fun _ _ _=>trivial
theorem Keep.imp (h:Keep D a b) (hE:∀ i,i<a.heap.size→E i→D i):Keep E a b:=⟨h.os,h.tape,h.output,h.size,fun i hi he=>h.block i hi (hE i hi he)⟩
theorem Keep.of_new (h:New a b):Keep D a b:=h.imp fun _ _ _=>trivial
theorem Keep.drew (h:Keep D a w):Keep D a w.drew:=⟨h.os,h.tape,h.output,h.size,h.block⟩
theorem Keep.drewN (h:Keep D a w) (n:Nat):Keep D a (w.drewN n):=⟨h.os,h.tape,h.output,h.size,h.block⟩
theorem Keep.alloc (h:Keep D a w) (o:Obj):Keep D a (w.alloc o) :=
  h.trans ⟨rfl,rfl,rfl,by simp,fun k hk _=>Below.heap_alloc _ _ _ hk⟩
theorem Keep.setCell (h:Keep D a w){p:Addr}(hp:D p.block→a.heap.size≤p.block) (u:Value):Keep D a (w.setCell p u) :=
  ⟨h.os,h.tape,h.output,by simpa [World.setCell] using h.size,fun k hk hd=>(Below.heap_setCell _ _ _ _ (by rintro rfl;have:=hp hd;omega)).trans (h.block k hk hd)⟩
theorem Keep.grown (h:Keep D a w){row:Option Nat}(hg:w.grownBy w' row) (hr:∀ k,row=some k→D k→a.heap.size≤k):Keep D a w' :=
  ⟨hg.os.trans h.os,hg.tape.trans h.tape,hg.output.trans h.output,Nat.le_trans h.size hg.size,fun k hk hd =>
    (hg.block k (Nat.lt_of_lt_of_le hk h.size) (fun e=>by have:=hr k e.symm hd;omega)).trans (h.block k hk hd)⟩
theorem Keep.below {B:Nat}(h:Below B a w):Keep (· < B) a w:=⟨h.os,h.tape,h.output,h.size,fun k _ hd=>h.block k hd⟩
theorem New.below (h:New a w):Below a.heap.size a w:=⟨h.os,h.tape,h.output,h.size,fun k hk=>h.block k hk trivial⟩
theorem Keep.toNew (h:Keep D a w) (hD:∀ i,i<a.heap.size→D i):New a w:=h.imp fun i hi _=>hD i hi
theorem Keep.cell (h:Keep D a w){p:Addr}(hp:p.block<a.heap.size) (hd:D p.block):w.cell? p=a.cell? p:=World.cell?_of_block (w:=a) (h.block p.block hp hd)
theorem Keep.frozen (h:Keep D a w){p:Addr}(hp:p.block<a.heap.size) (hd:D p.block):w.frozen? p=a.frozen? p:=World.frozen?_of_block (w:=a) (h.block p.block hp hd)
theorem Keep.cell_some (h:Keep D a w){p:Addr}{u:Value}(hc:a.cell? p=some u) (hd:D p.block):w.cell? p=some u:=(h.cell (World.block_lt_of_cell? a p hc) hd).trans hc
end
def blk (A:Option Addr):Option Nat:=A.map (·.block)
theorem grownBy_set (w:World) (p:Addr) (u:Value):w.grownBy (w.setCell p u) (some p.block) :=
  ⟨rfl,rfl,rfl,by simp [World.setCell],fun k _ hne=>Below.heap_setCell w p u k (fun e=>hne (by rw [e]))⟩
theorem own_set {w:World}{base:Nat}{e:TypeId}{size n c:Nat}{A:Option Addr}{xs:List Value}(h:w.ownsRow base e size (.slice A n c) n xs){p:Addr}(hp:blk A≠some p.block) (u:Value):(w.setCell p u).ownsRow base e size (.slice A n c) n xs :=
  h.kept (grownBy_set w p u) (.inr (by rw [show (Value.slice A n c).ownBlock=blk A from by cases A <;> rfl];exact hp))
def Row (w:World) (D:Nat→Prop) (A:Option Addr) (n size:Nat) (vs:List Value):Prop :=
  vs.length=n*size∧(0<n→∃ b off,A=some ⟨b,off,none⟩∧D b∧b<w.heap.size∧∀ k u,vs[k]?=some u→w.cell? ⟨b,off+k,none⟩=some u)
section
variable {D E:Nat→Prop}{w w':World}{A:Option Addr}{n size:Nat}{vs:List Value}
theorem Row.nil (w:World) (D:Nat→Prop) (A:Option Addr) (size:Nat):Row w D A 0 size []:=⟨by simp,fun h=>absurd h (by omega)⟩
theorem Row.imp (h:Row w D A n size vs) (hE:∀ b,b<w.heap.size→D b→E b):Row w E A n size vs :=
  ⟨h.1,fun hn=>let ⟨b,off,e,hd,hl,hc⟩:=h.2 hn;⟨b,off,e,hE b hl hd,hl,hc⟩⟩
theorem Row.keep (h:Row w D A n size vs) (hk:Keep E w w') (hDE:∀ b,b<w.heap.size→D b→E b):Row w' D A n size vs :=
  ⟨h.1,fun hn=>let ⟨b,off,e,hd,hl,hc⟩:=h.2 hn;⟨b,off,e,hd,Nat.lt_of_lt_of_le hl hk.size,fun k u hu=>(hk.cell (p:=⟨b,off+k,none⟩) hl (hDE b hl hd)).trans (hc k u hu)⟩⟩
theorem Row.new (h:Row w D A n size vs) (hk:New w w'):Row w' D A n size vs:=h.keep hk fun _ _ _=>trivial
theorem Row.alloc (h:Row w D A n size vs) (o:Obj):Row (w.alloc o) D A n size vs:=h.new ((New.refl w).alloc o)
theorem Row.drew (h:Row w D A n size vs):Row w.drew D A n size vs:=h
theorem Row.setCell (h:Row w D A n size vs){p:Addr}(hp:¬ D p.block) (u:Value):Row (w.setCell p u) D A n size vs :=
  h.keep ((Keep.refl D w).setCell (fun hd=>absurd hd hp) u) fun _ _ h=>h
theorem Row.made (w:World) (t:TypeId) (cs:Array Value) (n size:Nat) (h:cs.size=n*size):Row (w.alloc (.cells cs t)) (fun b=>w.heap.size≤b) (some ⟨w.heap.size,0,none⟩) n size cs.toList:=by
  refine ⟨by simpa using h,fun _=>⟨w.heap.size,0,rfl,Nat.le_refl _,by simp,fun k u hu=>?_⟩⟩
  rw [cell_of_row _ _ _ cs t (0,0) (heap_alloc_new w _)]
  simpa using hu
theorem Row.made1 (w:World) (t:TypeId) (x:Value):Row (w.alloc (.cells #[x] t)) (fun b=>w.heap.size≤b) (some ⟨w.heap.size,0,none⟩) 1 1 [x]:=Row.made w t #[x] 1 1 rfl
theorem Row.cutTo (h:Row w D A n size vs){hi:Nat}(hh:hi≤n):Row w D A hi size (vs.take (hi*size)):=by
  refine ⟨by rw [List.length_take,h.1];exact Nat.min_eq_left (Nat.mul_le_mul_right _ hh),fun hn=>?_⟩
  obtain ⟨b,off,rfl,hd,hb,hcell⟩:=h.2 (by omega)
  refine ⟨b,off,rfl,hd,hb,fun k u hu=>hcell k u ?_⟩
  rw [List.getElem?_take] at hu
  split at hu
  · exact hu
  · cases hu
theorem Row.from_ (h:Row w D A n size vs){l:Nat}(hl:l≤n):Row w D (Option.map (fun x=>x.add (l*size)) A) (n-l) size (vs.drop (l*size)):=by
  refine ⟨by rw [List.length_drop,h.1,Nat.sub_mul],fun hn=>?_⟩
  obtain ⟨b,off,rfl,hd,hb,hcell⟩:=h.2 (by omega)
  by_cases hz:l*size=0
  · refine ⟨b,off,by simp [Addr.add,hz],hd,hb,fun k u hu=>hcell k u (by simpa [hz] using hu)⟩
  · refine ⟨b,off+l*size,by simp [Addr.add,hz],hd,hb,fun k u hu=>?_⟩
    rw [Nat.add_assoc];exact hcell _ u (by rw [← hu,List.getElem?_drop])
theorem Row.of_own {base:Nat}{e:TypeId}{c:Nat}(h:w.ownsRow base e size (.slice A n c) n vs):Row w (fun b=>base≤b) A n size vs:=by
  refine ⟨h.1,fun hn=>?_⟩
  obtain ⟨g,cap,hv,hb,hlt⟩:=h.form hn
  have hA:A=some ⟨g,0,none⟩:=by injection hv
  subst hA
  refine ⟨g,0,rfl,hb,hlt,fun k u hu=>?_⟩
  have:=h.cells (g:=g) rfl k u hu
  simpa [Addr.add_lit] using this
end
abbrev Own (w:World) (base:Nat) (e:TypeId) (size:Nat) (A:Option Addr) (n c:Nat) (xs:List Value):Prop:=w.ownsRow base e size (.slice A n c) n xs
theorem own_lt {w:World}{base:Nat}{e:TypeId}{size n c:Nat}{A:Option Addr}{xs:List Value}(h:Own w base e size A n c xs):∀ k,blk A=some k→base≤k∧k<w.heap.size:=fun k hk =>
  h.lt k (by rw [show (Value.slice A n c).ownBlock=blk A from by cases A <;> rfl];exact hk)
theorem undrew {w w':World}{row:Option Nat}(h:w.drew.grownBy w' row):w.grownBy w' row:=⟨h.os,h.tape,h.output,h.size,h.block⟩
theorem own_keep {w w':World}{D:Nat→Prop}{base:Nat}{e:TypeId}{size n c:Nat}{A:Option Addr}{xs:List Value}(h:Own w base e size A n c xs) (hk:Keep D w w') (hd:∀ k,blk A=some k→D k):Own w' base e size A n c xs:=by
  refine ⟨h.1,?_⟩
  rcases h.2 with hn|⟨g,cap,cur,hv,hb,hgg,rest⟩
  · exact .inl hn
  · refine .inr ⟨g,cap,cur,hv,hb,?_,rest⟩
    have hA:A=some ⟨g,0,none⟩:=by injection hv
    rw [hk.block g (Array.getElem?_eq_some_iff.1 hgg).1 (hd g (by rw [hA];rfl))]
    exact hgg
theorem Own.nil (w:World) (base:Nat) (e:TypeId) (size:Nat):Own w base e size none 0 0 []:=World.ownsRow_nil _ _ _ _
section
variable {P:Program}(w:World)
theorem run_append_nil (base:Nat) (t ty e:TypeId) (i:TypeInfo) (size:Nat) (ht:P.underlying t=some (.slice e)) (hi:P.info? e=some i)
    (v:Value) (n:Nat) (xs:List Value) (hown:w.ownsRow base e size v n xs) (c:Nat):(Builtin.append_ #[t,t] ty #[v,.slice none 0 c]).run P w=.ok v w:=by
  rcases hown.2 with ⟨rfl,rfl⟩|⟨g,cap,cur,rfl,_,_,hnc,_⟩
  · simp [Builtin.append_,run_underlying ht,sizeOf,typeInfo,hi,Builtin.lenOf,Builtin.firstCells]
  · simp [Builtin.append_,run_underlying ht,sizeOf,typeInfo,hi,Builtin.lenOf,Builtin.firstCells,hnc,storeCells]
theorem own_slice {base:Nat}{e:TypeId}{size:Nat}{v:Value}{n:Nat}{xs:List Value}(h:w.ownsRow base e size v n xs):∃ A c,v=.slice A n c∧Own w base e size A n c xs∧v.ownBlock=blk A:=by
  rcases h.2 with ⟨rfl,rfl⟩|⟨g,cap,cur,rfl,_⟩
  · exact ⟨none,0,rfl,h,rfl⟩
  · exact ⟨_,_,rfl,h,rfl⟩
theorem run_append_row (base:Nat) (t ty e:TypeId) (i:TypeInfo) (z:Value) (size bytes:Nat) (ht:P.underlying t=some (.slice e)) (hi:P.info? e=some i) (hz:i.zero=some z)
    (hsize:i.size=size) (hby:i.bytes=bytes) (hzs:z.cells.size=size) (hsz:0<size)
    (A:Option Addr) (n c:Nat) (xs:List Value) (hown:Own w base e size A n c xs)
    (D:Nat→Prop) (A2:Option Addr) (m c2:Nat) (news:List Value) (hr:Row w D A2 m size news) (h1:∀ u∈news,u.oneCell'=true)
    (h63:n+m≤maxLen) (hbytes:(n+m)*bytes≤140737488355328) (hbase:base≤w.heap.size):
    ∃ A' c' w',(Builtin.append_ #[t,t] ty #[.slice A n c,.slice A2 m c2]).run P w=.ok (.slice A' (n+m) c') w'∧Own w' base e size A' (n+m) c' (xs++news)∧w.grownBy w' (blk A) ∧
      (blk A'=blk A∨blk A'=some w.heap.size):=by
  rcases A2 with _|ad
  · have hm:m=0:=by
      rcases Nat.eq_zero_or_pos m with h0|h0
      · exact h0
      · obtain ⟨_,_,h,_⟩:=hr.2 h0
        cases h
    subst hm
    have hn:news=[]:=List.eq_nil_of_length_eq_zero (by simpa using hr.1)
    subst hn
    refine ⟨A,c,w,run_append_nil w base t ty e i size ht hi _ n xs hown c2,by simpa using hown,World.grownBy.refl w _,.inl rfl⟩
  · have hcells:∀ j u,news[j]?=some u→w.cell? (ad.add j)=some u:=by
      intro j u hu
      rcases Nat.eq_zero_or_pos m with h0|h0
      · subst h0
        have hn:news=[]:=List.eq_nil_of_length_eq_zero (by simpa using hr.1)
        subst hn
        simp at hu
      · obtain ⟨b,off,he,_,_,hc⟩:=hr.2 h0
        injection he with he
        subst he
        have:=hc j u hu
        by_cases hj:j=0
        · subst hj;simpa [Addr.add] using this
        · simpa [Addr.add,hj] using this
    obtain ⟨v',w',hrun,h2,h3,_,h5⟩:=run_append_own_at (P:=P) w base t ty e i z size bytes ht hi hz hsize hby hzs hsz _ n xs hown ad m c2 news hr.1 hcells h1 h63 hbytes hbase
    obtain ⟨A',c',rfl,ho,hb⟩:=own_slice w' h2
    have hA:(Value.slice A n c).ownBlock=blk A:=by cases A <;> rfl
    rw [hA] at h3
    refine ⟨A',c',w',hrun,ho,h3,?_⟩
    rcases h5 with h5|h5
    · left;rw [← hb,h5,hA]
    · right;rw [← hb,h5]
theorem wp_append_row {o:Oper}{a:Act}{K:Act→World→Prop}{Q:Exit→Act→World→Prop}(s x:Operand) (t:TypeId)
    (ho:o.op=.call { callee:=.builtin .append,args:=#[s,x],argTypes:=#[t,t] })
    (base:Nat) (e:TypeId) (i:TypeInfo) (z:Value) (size bytes:Nat) (ht:P.underlying t=some (.slice e)) (hi:P.info? e=some i) (hz:i.zero=some z)
    (hsize:i.size=size) (hby:i.bytes=bytes) (hzs:z.cells.size=size) (hsz:0<size)
    (A:Option Addr) (n c:Nat) (xs:List Value) (hs:a.eval s=.slice A n c) (hown:Own w base e size A n c xs)
    (D:Nat→Prop) (A2:Option Addr) (m c2:Nat) (news:List Value) (hx:a.eval x=.slice A2 m c2) (hr:Row w D A2 m size news) (h1:∀ u∈news,u.oneCell'=true)
    (h63:n+m≤maxLen) (hbytes:(n+m)*bytes≤140737488355328) (hbase:base≤w.heap.size)
    (h:∀ A' c' w',Own w' base e size A' (n+m) c' (xs++news)→w.grownBy w' (blk A)→(blk A'=blk A∨blk A'=some w.heap.size)→K (a.put o.dst (.slice A' (n+m) c')) w'):o.wp P a w K Q:=by
  obtain ⟨A',c',w',hrun,h2,h3,h4⟩:=run_append_row (P:=P) w base t o.type e i z size bytes ht hi hz hsize hby hzs hsz A n c xs hown D A2 m c2 news hr h1 h63 hbytes hbase
  unfold Oper.wp execOp
  simp only [ho,resolve,invoke,builtin,Sem.run_bind,Sem.run_pure,Result.andThen_ok,List.map_toArray,List.map_cons,List.map_nil,hs,hx,hrun]
  exact h A' c' w' h2 h3 h4
theorem wpList_append_row {ops:Array Oper}{rest:List Oper}{o:Oper}{a:Act}{Q:Exit→Act→World→Prop}(hgd:o.guard=none) (s x:Operand) (t:TypeId)
    (ho:o.op=.call { callee:=.builtin .append,args:=#[s,x],argTypes:=#[t,t] })
    (base:Nat) (e:TypeId) (i:TypeInfo) (z:Value) (size bytes:Nat) (ht:P.underlying t=some (.slice e)) (hi:P.info? e=some i) (hz:i.zero=some z)
    (hsize:i.size=size) (hby:i.bytes=bytes) (hzs:z.cells.size=size) (hsz:0<size)
    (A:Option Addr) (n c:Nat) (xs:List Value) (hs:a.eval s=.slice A n c) (hown:Own w base e size A n c xs)
    (D:Nat→Prop) (A2:Option Addr) (m c2:Nat) (news:List Value) (hx:a.eval x=.slice A2 m c2) (hr:Row w D A2 m size news) (h1:∀ u∈news,u.oneCell'=true)
    (h63:n+m≤maxLen) (hbytes:(n+m)*bytes≤140737488355328) (hbase:base≤w.heap.size)
    (h:∀ A' c' w',Own w' base e size A' (n+m) c' (xs++news)→w.grownBy w' (blk A)→(blk A'=blk A∨blk A'=some w.heap.size)→wpList P ops Q rest (a.put o.dst (.slice A' (n+m) c')) w'):wpList P ops Q (o::rest) a w :=
  wpList_plain hgd fun _ hK=>wp_append_row w s x t ho base e i z size bytes ht hi hz hsize hby hzs hsz A n c xs hs hown D A2 m c2 news hx hr h1 h63 hbytes hbase fun A' c' w' h2 h3 h4=>hK _ _ (h A' c' w' h2 h3 h4)
end
theorem wpList_store_new {P:Program}{ops:Array Oper}{rest:List Oper}{o:Oper}{a:Act}{Q:Exit→Act→World→Prop}{w:World}(hgd:o.guard=none) (ty:TypeId) (x y:Operand) (ho:o.op=.store ty x y)
    (t:TypeId) (c c':Array Value) (hx:a.eval x=.pointer (some ⟨w.heap.size,0,none⟩)) (hy:a.eval y=.agg c')
    (hi:(P.info? t).map (·.size)=some c'.size) (hty:ty=t) (hs:c.size=c'.size) (h1:c'.all (·.oneCell')=true)
    (h:wpList P ops Q rest (a.put o.dst undef) (w.alloc (.cells c' t))):wpList P ops Q (o::rest) a (w.alloc (.cells c t)):=by
  subst hty
  refine wpList_plain hgd fun K hK=>?_
  unfold Oper.wp execOp
  simp only [ho,hx,hy,Sem.run_bind,run_storeAt_new w ty c c' hi hs h1,Result.andThen,Sem.run_pure]
  exact hK _ _ h
theorem wpList_build_as {P:Program}{ops:Array Oper}{rest:List Oper}{o:Oper}{a:Act}{w:World}{Q:Exit→Act→World→Prop}(hg:o.guard=none) (t:TypeId) (parts:Array (Nat×Operand)) (ho:o.op=.build t parts)
    (cs:Array Value) (hf:P.built t (parts.map fun (i,x)=>(i,a.eval x)).toList=some cs) (h:wpList P ops Q rest (a.put o.dst (.agg cs)) w):wpList P ops Q (o::rest) a w :=
  wpList_build hg t parts ho (by rw [hf];rfl) (by rw [hf];exact h)
section
variable {P:Program}(w:World)
theorem step_append_row {ops:Array Oper}{o:Oper}{a:Act}{K:Act→World→Prop}{Q:Exit→Act→World→Prop}{E:Prop}(hgd:o.guard=none) (s x:Operand) (t:TypeId)
    (ho:o.op=.call { callee:=.builtin .append,args:=#[s,x],argTypes:=#[t,t] })
    (base:Nat) (e:TypeId) (i:TypeInfo) (z:Value) (size bytes:Nat) (ht:P.underlying t=some (.slice e)) (hi:P.info? e=some i) (hz:i.zero=some z)
    (hsize:i.size=size) (hby:i.bytes=bytes) (hzs:z.cells.size=size) (hsz:0<size)
    (A:Option Addr) (n c:Nat) (xs:List Value) (hs:a.eval s=.slice A n c) (hown:Own w base e size A n c xs)
    (D:Nat→Prop) (A2:Option Addr) (m c2:Nat) (news:List Value) (hx:a.eval x=.slice A2 m c2) (hr:Row w D A2 m size news) (h1:∀ u∈news,u.oneCell'=true)
    (h63:n+m≤maxLen) (hbytes:(n+m)*bytes≤140737488355328) (hbase:base≤w.heap.size)
    (h:∀ A' c' w',Own w' base e size A' (n+m) c' (xs++news)→w.grownBy w' (blk A)→(blk A'=blk A∨blk A'=some w.heap.size)→K (a.put o.dst (.slice A' (n+m) c')) w'):
    if Region.wanted o (yielded ops a.tmps)=true then Oper.wp P o a w K Q else E:=by
  have hw:Region.wanted o (yielded ops a.tmps)=true:=by simp [Region.wanted,hgd]
  rw [if_pos hw]
  exact wp_append_row w s x t ho base e i z size bytes ht hi hz hsize hby hzs hsz A n c xs hs hown D A2 m c2 news hx hr h1 h63 hbytes hbase h
end
def bv (b:UInt8):Int:=b.toNat
theorem bv_bd (b:UInt8):0≤bv b∧bv b≤255:=by have:=b.toNat_lt;unfold bv;omega
theorem bv_inj {a b:UInt8}(h:bv a=bv b):a=b:=by unfold bv at h;exact UInt8.toNat_inj.1 (by omega)
def byteVal (b:UInt8):Value:=.int .u8 (bv b)
theorem byteVal_one (bs:List UInt8):∀ u∈bs.map byteVal,u.oneCell'=true:=by
  intro u hu;obtain ⟨b,_,rfl⟩:=List.mem_map.1 hu;rfl
abbrev Bs (w:World) (D:Nat→Prop) (A:Option Addr) (n:Nat) (bs:List UInt8):Prop:=Row w D A n 1 (bs.map byteVal)
section
variable {D E:Nat→Prop}{w w':World}{A:Option Addr}{n:Nat}{bs:List UInt8}
theorem Bs.len (h:Bs w D A n bs):bs.length=n:=by simpa using h.1
theorem Bs.cellAt (h:Bs w D A n bs) (hn:0<n):∃ b off,A=some ⟨b,off,none⟩∧D b∧b<w.heap.size∧∀ k (hk:k<bs.length),w.cell? ⟨b,off+k,none⟩=some (.int .u8 (bv bs[k])):=by
  obtain ⟨b,off,e,hd,hl,hc⟩:=h.2 hn
  exact ⟨b,off,e,hd,hl,fun k hk=>hc k _ (by rw [List.getElem?_map,List.getElem?_eq_getElem hk];rfl)⟩
theorem Bs.from_ (h:Bs w D A n bs){l:Nat}(hl:l≤n):Bs w D (Option.map (fun x=>x.add l) A) (n-l) (bs.drop l):=by
  have:=Row.from_ h hl
  rw [Nat.mul_one,← List.map_drop] at this
  exact this
theorem Bs.cutTo (h:Bs w D A n bs){hi:Nat}(hh:hi≤n):Bs w D A hi (bs.take hi):=by
  have:=Row.cutTo h hh
  rw [Nat.mul_one,← List.map_take] at this
  exact this
end
abbrev OwnB (w:World) (base:Nat) (e:TypeId) (A:Option Addr) (n c:Nat) (bs:List UInt8):Prop:=Own w base e 1 A n c (bs.map byteVal)
section
variable {P:Program}{ops:Array Oper}{Q:Exit→Act→World→Prop}{md:Region.Mode}
theorem held_strong {S T:World→Prop}(hTS:∀ w,T w→S w):∀ (fuel:Nat) (listed:Array Bool) (a:Act) (w:World),wpAnyH P md ops Q T fuel listed a w→wpAnyH P md ops Q S fuel listed a w
  | 0,_,_,_,h=>h
  | fuel+1,_,_,_,h=>⟨h.1,fun i hi=>wpOp_mono (fun a' w' h'=>⟨hTS _ h'.1,held_strong hTS fuel _ a' w' h'.2⟩) (h.2 i hi)⟩
theorem hold_begin {id:Nat}{a:Act}{w:World}(hm:P.follows .mixedOrders=true) (h:wpAnyH P .any ops Q (New w.drew) ops.size (Array.replicate ops.size false) a w.drew):(Code.region id ops true).wp P Q a w :=
  wp_region_held hm h
theorem hold_read {i:Nat}{oi:Oper}{v:Value}{fuel:Nat}{listed:Array Bool}{a:Act}{w:World}(hi:ops[i]?=some oi)
    (hs:Region.noSelect ops=true) (hf:Region.free md ops listed i=true) (hr:(Region.ready md ops listed).contains i=true)
    (hQ:∀ c a w,Q (.panic c) (a.put oi.dst v) w→Q (.panic c) a w) (hw:Region.wanted oi (yielded ops a.tmps)=true)
    (hy:∀ w',New w w'→(execOp a.eval oi).run P w'=.ok (.value v) w')
    (h:wpAnyH P md ops Q (New w) fuel (listed.setIfInBounds i true) (a.put oi.dst v) w):wpAnyH P md ops Q (New w) (fuel+1) listed a w :=
  wpAnyH_take hi hs hf hr hQ (.inl ⟨hw,hy⟩) (New.refl w) h
theorem hold_skip {i:Nat}{oi:Oper}{fuel:Nat}{listed:Array Bool}{a:Act}{w:World}(hi:ops[i]?=some oi)
    (hs:Region.noSelect ops=true) (hf:Region.free md ops listed i=true) (hr:(Region.ready md ops listed).contains i=true)
    (hQ:∀ c a w,Q (.panic c) (a.put oi.dst undef) w→Q (.panic c) a w) (hw:Region.wanted oi (yielded ops a.tmps)=false)
    (h:wpAnyH P md ops Q (New w) fuel (listed.setIfInBounds i true) (a.put oi.dst undef) w):wpAnyH P md ops Q (New w) (fuel+1) listed a w :=
  wpAnyH_take hi hs hf hr hQ (.inr ⟨hw,rfl⟩) (New.refl w) h
theorem hold_step {i:Nat}{o:Oper}{fuel:Nat}{listed:Array Bool}{a:Act}{w:World}(hr:Region.ready md ops listed=[i]) (ho:ops[i]?=some o) (hw:Region.wanted o (yielded ops a.tmps)=true)
    (h:∀ K:Act→World→Prop,Hid (∀ a' w',New w w'→wpAnyH P md ops Q (New w') fuel (listed.setIfInBounds i true) a' w'→K a' w')→Oper.wp P o a w K Q):wpAnyH P md ops Q (New w) (fuel+1) listed a w:=by
  refine wpAnyH_all hr (by simp) fun j hj=>?_
  have hj':j=i:=by simpa using hj
  subst hj'
  unfold wpOp
  simp only [ho,hw,if_true]
  exact .inl (h _ (Lib.hid fun a' w' hN hk=>⟨hN,held_strong (fun w2 h2=>Keep.new hN h2) _ _ _ _ hk⟩))
end
theorem setCell_block {w:World}{g:Nat}{cs:Array Value}{t:TypeId}(h:w.heap[g]?=some (.cells cs t (0,0))) (i:Nat) (u:Value):(w.setCell ⟨g,i,none⟩ u).heap[g]?=some (.cells (cs.setIfInBounds i u) t (0,0)):=by
 simp [World.setCell,Array.getElem?_modify,h]
theorem frozenOf {w:World}{g:Nat}{cs:Array Value}{t:TypeId}(h:w.heap[g]?=some (.cells cs t (0,0))) (i:Nat):w.frozen? ⟨g,i,none⟩=false:=by
 simp [World.frozen?,h]
theorem Own.keepNew {w w':World}{base:Nat}{e:TypeId}{size n c:Nat}{A:Option Addr}{xs:List Value}(h:Own w base e size A n c xs) (hk:New w w'):Own w' base e size A n c xs:=own_keep h hk (fun _ _=>trivial)
theorem info_u8:(Tryz.prog.info? 5).map (fun i=>(i.zero,i.size,i.bytes))=some (some (.int .u8 0),1,1):=by kernel_rfl
theorem app_bytes {ops:Array Oper}{rest:List Oper}{o:Oper}{a:Act}{Q:Exit→Act→World→Prop}(w:World) (hgd:o.guard=none) (s x:Operand)
  (ho:o.op=.call { callee:=.builtin .append,args:=#[s,x],argTypes:=#[24,24] })
  (base:Nat) (A:Option Addr) (n c:Nat) (bs:List UInt8) (hs:a.eval s=.slice A n c) (hown:OwnB w base 5 A n c bs)
  (D:Nat→Prop) (A2:Option Addr) (m c2:Nat) (bs2:List UInt8) (hx:a.eval x=.slice A2 m c2) (hr:Bs w D A2 m bs2)
  (h63:n+m≤140737488355328) (hbase:base≤w.heap.size)
  (h:∀ A' c' w',OwnB w' base 5 A' (n+m) c' (bs++bs2)→w.grownBy w' (blk A)→(blk A'=blk A∨blk A'=some w.heap.size)→wpList Tryz.prog ops Q rest (a.put o.dst (.slice A' (n+m) c')) w'):wpList Tryz.prog ops Q (o::rest) a w:=by
 obtain ⟨i,hi,hz0,hz1,hz2⟩:=info_parts info_u8
 refine wpList_append_row w hgd s x 24 ho base 5 i (.int .u8 0) 1 1 Tryz.underlying24 hi hz0 hz1 hz2 rfl (by decide) A n c _ hs hown D A2 m c2 _ hx hr (byteVal_one _) (by unfold maxLen;omega) (by omega) hbase ?_
 intro A' c' w' h1 h2 h3
 rw [← List.map_append] at h1
 exact h A' c' w' h1 h2 h3
theorem step_bytes {ops:Array Oper}{o:Oper}{a:Act}{K:Act→World→Prop}{Q:Exit→Act→World→Prop}{E:Prop}(w:World) (hgd:o.guard=none) (s x:Operand)
  (ho:o.op=.call { callee:=.builtin .append,args:=#[s,x],argTypes:=#[24,24] })
  (base:Nat) (A:Option Addr) (n c:Nat) (bs:List UInt8) (hs:a.eval s=.slice A n c) (hown:OwnB w base 5 A n c bs)
  (D:Nat→Prop) (A2:Option Addr) (m c2:Nat) (bs2:List UInt8) (hx:a.eval x=.slice A2 m c2) (hr:Bs w D A2 m bs2)
  (h63:n+m≤140737488355328) (hbase:base≤w.heap.size)
  (h:∀ A' c' w',OwnB w' base 5 A' (n+m) c' (bs++bs2)→w.grownBy w' (blk A)→(blk A'=blk A∨blk A'=some w.heap.size)→K (a.put o.dst (.slice A' (n+m) c')) w'):
  if Region.wanted o (yielded ops a.tmps)=true then Oper.wp Tryz.prog o a w K Q else E:=by
 obtain ⟨i,hi,hz0,hz1,hz2⟩:=info_parts info_u8
 refine step_append_row w hgd s x 24 ho base 5 i (.int .u8 0) 1 1 Tryz.underlying24 hi hz0 hz1 hz2 rfl (by decide) A n c _ hs hown D A2 m c2 _ hx hr (byteVal_one _) (by unfold maxLen;omega) (by omega) hbase ?_
 intro A' c' w' h1 h2 h3
 rw [← List.map_append] at h1
 exact h A' c' w' h1 h2 h3
theorem clone_bytes (D:Nat→Prop) (A:Option Addr) (n c:Nat) (bs:List UInt8) (w:World) (hB:Bs w D A n bs) (hn:n≤140737488355328):
  Calls Tryz.prog 71 #[.slice A n c] w fun e w'=>(∃ A' c',e=.returned (.slice A' n c')∧OwnB w' w.heap.size 5 A' n c' bs)∧New w w':=by
 have hq:=fun w'=>Lib.run_eql_slice_nil (P:=Tryz.prog) w' 24 5 A n c 0 0 Tryz.underlying24
 rcases A with _|ad
 ·have h0:n=0:=by
   rcases Nat.eq_zero_or_pos n with h|h
   ·exact h
   ·obtain ⟨_,_,e,_⟩:=hB.2 h;cases e
  subst h0
  have hb:bs=[]:=List.eq_nil_of_length_eq_zero hB.len
  subst hb
  go_enter Tryz.func71,Tryz.ntmps71
  go_wp2
  go_ret
  exact ⟨⟨_,_,rfl,Own.nil _ _ _ _⟩,New.refl _⟩
 ·go_enter Tryz.func71,Tryz.ntmps71
  go_wp2_with (at_builtin;refine app_bytes _ rfl _ _ rfl w.heap.size _ _ _ [] rfl (World.ownsRow_made w #[] 0 (Nat.le_refl _) (by decide) rfl) D _ _ _ bs rfl (hB.alloc _) (by omega) (by simp) ?_;intro A' c' w' hown hg hbk)
  go_ret
  refine ⟨⟨A',c',rfl,by simpa using hown⟩,((New.refl w).alloc _).grown hg ?_⟩
  intro k hk _
  simp [blk] at hk
  omega
abbrev Lo (g:Nat):Nat→Prop:=fun b=>b<g
section
variable {P:Program}{ops:Array Oper}{Q:Exit→Act→World→Prop}{md:Region.Mode}
theorem hold_beginS (S:World→Prop){id:Nat}{a:Act}{w:World}(hm:P.follows .mixedOrders=true) (h:wpAnyH P .any ops Q S ops.size (Array.replicate ops.size false) a w.drew):(Code.region id ops true).wp P Q a w :=
  wp_region_held hm h
theorem hold_read0 {S:World→Prop}{i:Nat}{oi:Oper}{v:Value}{fuel:Nat}{listed:Array Bool}{a:Act}{w:World}(hS:S w) (hi:ops[i]?=some oi)
    (hs:Region.noSelect ops=true) (hf:Region.free md ops listed i=true) (hr:(Region.ready md ops listed).contains i=true)
    (hQ:∀ c a w,Q (.panic c) (a.put oi.dst v) w→Q (.panic c) a w) (hw:Region.wanted oi (yielded ops a.tmps)=true)
    (hy:∀ w',S w'→(execOp a.eval oi).run P w'=.ok (.value v) w')
    (h:wpAnyH P md ops Q S fuel (listed.setIfInBounds i true) (a.put oi.dst v) w):wpAnyH P md ops Q S (fuel+1) listed a w :=
  wpAnyH_take hi hs hf hr hQ (.inl ⟨hw,hy⟩) hS h
theorem hold_skip0 {S:World→Prop}{i:Nat}{oi:Oper}{fuel:Nat}{listed:Array Bool}{a:Act}{w:World}(hS:S w) (hi:ops[i]?=some oi)
    (hs:Region.noSelect ops=true) (hf:Region.free md ops listed i=true) (hr:(Region.ready md ops listed).contains i=true)
    (hQ:∀ c a w,Q (.panic c) (a.put oi.dst undef) w→Q (.panic c) a w) (hw:Region.wanted oi (yielded ops a.tmps)=false)
    (h:wpAnyH P md ops Q S fuel (listed.setIfInBounds i true) (a.put oi.dst undef) w):wpAnyH P md ops Q S (fuel+1) listed a w :=
  wpAnyH_take hi hs hf hr hQ (.inr ⟨hw,rfl⟩) hS h
theorem hold_step0 {S:World→Prop}{i:Nat}{o:Oper}{fuel:Nat}{listed:Array Bool}{a:Act}{w:World}(hr:Region.ready md ops listed=[i]) (ho:ops[i]?=some o) (hw:Region.wanted o (yielded ops a.tmps)=true)
    (h:∀ K:Act→World→Prop,Hid (∀ a' w',S w'→wpAnyH P md ops Q S fuel (listed.setIfInBounds i true) a' w'→K a' w')→Oper.wp P o a w K Q):wpAnyH P md ops Q S (fuel+1) listed a w:=by
  refine wpAnyH_all hr (by simp) fun j hj=>?_
  have hj':j=i:=by simpa using hj
  subst hj'
  unfold wpOp
  simp only [ho,hw,if_true]
  exact .inl (h _ (Lib.hid fun a' w' hN hk=>⟨hN,hk⟩))
end
theorem ly1 {α:Type}{xs:List α}{i:Nat}(h:i<xs.toArray.size):xs.toArray[i]=xs[i]'(by simpa using h):=List.getElem_toArray h
theorem ly2 {α:Type}{a:α}{xs:List α}{i:Nat}(h:i+1<(a::xs).length):(a::xs)[i+1]=xs[i]'(Nat.lt_of_succ_lt_succ h):=List.getElem_cons_succ a xs i h
theorem ly3 {α:Type}{a:α}{xs:List α}(h:0<(a::xs).length):(a::xs)[0]=a:=List.getElem_cons_zero a xs h
theorem ly4 {α:Type}{l:List α}{i:Nat}{a:α}:l.toArray.setIfInBounds i a=(l.set i a).toArray:=List.setIfInBounds_toArray ..
theorem ly5 {α:Type}{x a:α}{xs:List α}:(x::xs).set 0 a=a::xs:=List.set_cons_zero
theorem ly6 {α:Type}{x a:α}{xs:List α}{i:Nat}:(x::xs).set (i+1) a=x::xs.set i a:=List.set_cons_succ
section
variable {P:Program}{ops:Array Oper}{Q:Exit→Act→World→Prop}{md:Region.Mode}{fuel:Nat}{listed:Array Bool}{a:Act}{w:World}
theorem take1 (i:Nat){oi:Oper}{a':Act}{v:Value}(h:wpAnyH P md ops Q (New w) fuel (listed.setIfInBounds i true) a' w) (hi:ops[i]?=some oi:=by rfl)
    (hs:Region.noSelect ops=true:=by kernel_rfl) (hf:Region.free md ops listed i=true:=by kernel_rfl) (hr:(Region.ready md ops listed).contains i=true:=by kernel_rfl)
    (hQ:∀ c a w,Q (.panic c) (a.put oi.dst v) w→Q (.panic c) a w:=by exact fun _ _ _ h=>h) (hw:Region.wanted oi (yielded ops a.tmps)=true:=by rfl)
    (hy:∀ w',New w w'→(execOp a.eval oi).run P w'=.ok (.value v) w':=by intro w' hN;go_simp;try with_reducible rfl) (ha:a.put oi.dst v=a':=by (conv=>lhs;simp only [Act.put,List.getElem_toArray,List.getElem_cons_succ,List.getElem_cons_zero,List.setIfInBounds_toArray,List.set_cons_zero,List.set_cons_succ]);try exact rfl):wpAnyH P md ops Q (New w) (fuel+1) listed a w :=
  hold_read hi hs hf hr hQ hw hy (ha▸h)
theorem skip1 (i:Nat){oi:Oper}{a':Act}(h:wpAnyH P md ops Q (New w) fuel (listed.setIfInBounds i true) a' w) (hi:ops[i]?=some oi:=by rfl)
    (hs:Region.noSelect ops=true:=by kernel_rfl) (hf:Region.free md ops listed i=true:=by kernel_rfl) (hr:(Region.ready md ops listed).contains i=true:=by kernel_rfl)
    (hQ:∀ c a w,Q (.panic c) (a.put oi.dst undef) w→Q (.panic c) a w:=by exact fun _ _ _ h=>h) (hw:Region.wanted oi (yielded ops a.tmps)=false:=by rfl) (ha:a.put oi.dst undef=a':=by (conv=>lhs;simp only [Act.put,List.getElem_toArray,List.getElem_cons_succ,List.getElem_cons_zero,List.setIfInBounds_toArray,List.set_cons_zero,List.set_cons_succ]);try exact rfl):wpAnyH P md ops Q (New w) (fuel+1) listed a w :=
  hold_skip hi hs hf hr hQ hw (ha▸h)
theorem take0 (i:Nat){S:World→Prop}{oi:Oper}{a':Act}{v:Value}(hS:S w) (h:wpAnyH P md ops Q S fuel (listed.setIfInBounds i true) a' w) (hi:ops[i]?=some oi:=by rfl)
    (hs:Region.noSelect ops=true:=by kernel_rfl) (hf:Region.free md ops listed i=true:=by kernel_rfl) (hr:(Region.ready md ops listed).contains i=true:=by kernel_rfl)
    (hQ:∀ c a w,Q (.panic c) (a.put oi.dst v) w→Q (.panic c) a w:=by exact fun _ _ _ h=>h) (hw:Region.wanted oi (yielded ops a.tmps)=true:=by rfl)
    (hy:∀ w',S w'→(execOp a.eval oi).run P w'=.ok (.value v) w':=by intro w' hN;go_simp;try with_reducible rfl) (ha:a.put oi.dst v=a':=by (conv=>lhs;simp only [Act.put,List.getElem_toArray,List.getElem_cons_succ,List.getElem_cons_zero,List.setIfInBounds_toArray,List.set_cons_zero,List.set_cons_succ]);try exact rfl):wpAnyH P md ops Q S (fuel+1) listed a w :=
  hold_read0 hS hi hs hf hr hQ hw hy (ha▸h)
theorem skip0 (i:Nat){S:World→Prop}{oi:Oper}{a':Act}(hS:S w) (h:wpAnyH P md ops Q S fuel (listed.setIfInBounds i true) a' w) (hi:ops[i]?=some oi:=by rfl)
    (hs:Region.noSelect ops=true:=by kernel_rfl) (hf:Region.free md ops listed i=true:=by kernel_rfl) (hr:(Region.ready md ops listed).contains i=true:=by kernel_rfl)
    (hQ:∀ c a w,Q (.panic c) (a.put oi.dst undef) w→Q (.panic c) a w:=by exact fun _ _ _ h=>h) (hw:Region.wanted oi (yielded ops a.tmps)=false:=by rfl) (ha:a.put oi.dst undef=a':=by (conv=>lhs;simp only [Act.put,List.getElem_toArray,List.getElem_cons_succ,List.getElem_cons_zero,List.setIfInBounds_toArray,List.set_cons_zero,List.set_cons_succ]);try exact rfl):wpAnyH P md ops Q S (fuel+1) listed a w :=
  hold_skip0 hS hi hs hf hr hQ hw (ha▸h)
end
def wv (x:BitVec 32):Int:=x.toNat
theorem wv_bd (x:BitVec 32):0≤wv x∧wv x≤4294967295:=by have:=x.isLt;unfold wv;omega
theorem wv_inj {x y:BitVec 32}(h:wv x=wv y):x=y:=by unfold wv at h;exact BitVec.eq_of_toNat_eq (by omega)
def bw (b:UInt8):BitVec 32:=BitVec.ofNat 32 b.toNat
theorem bv_wv (b:UInt8):bv b=wv (bw b):=by
 unfold bv wv bw;have:=b.toNat_lt;rw [BitVec.toNat_ofNat,Nat.mod_eq_of_lt (by omega)]
@[go_sem] theorem wv_xor (x y:BitVec 32):bits .xor .u32 (wv x) (wv y)=wv (x ^^^ y):=by
 unfold wv;rw [u32_xor_nat _ _ x.isLt y.isLt,BitVec.toNat_xor]
@[go_sem] theorem wv_and (x y:BitVec 32):bits .and .u32 (wv x) (wv y)=wv (x &&& y):=by
 unfold wv;rw [u32_and_nat _ _ x.isLt y.isLt,BitVec.toNat_and]
@[go_sem] theorem wv_or (x y:BitVec 32):bits .or .u32 (wv x) (wv y)=wv (x ||| y):=by
 unfold wv;rw [u32_or_nat _ _ x.isLt y.isLt,BitVec.toNat_or]
@[go_sem] theorem wv_and1 (x:BitVec 32):bits .and .u32 (wv x) 1=wv (x &&& 1#32):=wv_and x 1#32
@[go_sem] theorem wv_xorp (x:BitVec 32):bits .xor .u32 (wv x) 3988292384=wv (x ^^^ 3988292384#32):=wv_xor x 3988292384#32
@[go_sem] theorem wv_xorf (x:BitVec 32):bits .xor .u32 (wv x) 4294967295=wv (~~~x):=by
 have h:(4294967295:Int)=wv (BitVec.allOnes 32):=by decide
 rw [h,wv_xor,BitVec.xor_allOnes]
@[go_sem] theorem wv_not (x:BitVec 32):bits .xor .u32 IntKind.u32.max (wv x)=wv (~~~x):=by
 have h:IntKind.u32.max=wv (BitVec.allOnes 32):=by decide
 rw [h,wv_xor,BitVec.allOnes_xor]
@[go_sem] theorem wv_not' (x:BitVec 32):bits .xor .u32 (if IntKind.u32.signed=true then -1 else IntKind.u32.max) (wv x)=wv (~~~x):=wv_not x
@[go_sem] theorem wv_xorb (x:BitVec 32) (b:UInt8):bits .xor .u32 (wv x) (bv b)=wv (x ^^^ bw b):=by rw [bv_wv,wv_xor]
@[go_sem] theorem wv_orb (x:BitVec 32) (b:UInt8):bits .or .u32 (wv x) (bv b)=wv (x ||| bw b):=by rw [bv_wv,wv_or]
theorem wv_div (x:BitVec 32) (n:Nat):wv x/((2^n:Nat):Int)=wv (x >>> n):=by
 unfold wv;rw [BitVec.toNat_ushiftRight,Nat.shiftRight_eq_div_pow];exact (Int.natCast_ediv _ _).symm
theorem wv_shl_ (x:BitVec 32) (n:Nat):IntKind.u32.wrap (wv x*((2^n:Nat):Int))=wv (x <<< n):=by
 unfold wv
 rw [IntKind.wrap_u32,BitVec.toNat_shiftLeft,Nat.shiftLeft_eq,← Int.natCast_mul]
 exact (Int.natCast_emod _ _).symm
theorem shr_at (x:BitVec 32) (yk:IntKind) (n:Nat) (hn:n≤32):Op.shift .shr .u32 (wv x) yk (n:Int)=pure (.int .u32 (wv (x >>> n))) :=
 (shift_shr_u32 (x:=wv x) (yk:=yk) (y:=(n:Int)) (by omega) (by omega)).trans (congrArg (fun z=>pure (Value.int .u32 z)) (by rw [Int.toNat_natCast,← wv_div];simp))
theorem shl_at (x:BitVec 32) (yk:IntKind) (n:Nat) (hn:n≤32):Op.shift .shl .u32 (wv x) yk (n:Int)=pure (.int .u32 (wv (x <<< n))) :=
 (shift_shl_u32 (x:=wv x) (yk:=yk) (y:=(n:Int)) (by omega) (by omega)).trans (congrArg (fun z=>pure (Value.int .u32 z)) (by rw [Int.toNat_natCast,← wv_shl_];simp))
@[go_sem ↓] theorem wv_shr1 (x:BitVec 32) (yk:IntKind):Op.shift .shr .u32 (wv x) yk 1=pure (.int .u32 (wv (x >>> 1))):=shr_at x yk 1 (by decide)
@[go_sem ↓] theorem wv_shr2 (x:BitVec 32) (yk:IntKind):Op.shift .shr .u32 (wv x) yk 2=pure (.int .u32 (wv (x >>> 2))):=shr_at x yk 2 (by decide)
@[go_sem ↓] theorem wv_shr3 (x:BitVec 32) (yk:IntKind):Op.shift .shr .u32 (wv x) yk 3=pure (.int .u32 (wv (x >>> 3))):=shr_at x yk 3 (by decide)
@[go_sem ↓] theorem wv_shr6 (x:BitVec 32) (yk:IntKind):Op.shift .shr .u32 (wv x) yk 6=pure (.int .u32 (wv (x >>> 6))):=shr_at x yk 6 (by decide)
@[go_sem ↓] theorem wv_shr7 (x:BitVec 32) (yk:IntKind):Op.shift .shr .u32 (wv x) yk 7=pure (.int .u32 (wv (x >>> 7))):=shr_at x yk 7 (by decide)
@[go_sem ↓] theorem wv_shr8 (x:BitVec 32) (yk:IntKind):Op.shift .shr .u32 (wv x) yk 8=pure (.int .u32 (wv (x >>> 8))):=shr_at x yk 8 (by decide)
@[go_sem ↓] theorem wv_shr10 (x:BitVec 32) (yk:IntKind):Op.shift .shr .u32 (wv x) yk 10=pure (.int .u32 (wv (x >>> 10))):=shr_at x yk 10 (by decide)
@[go_sem ↓] theorem wv_shr11 (x:BitVec 32) (yk:IntKind):Op.shift .shr .u32 (wv x) yk 11=pure (.int .u32 (wv (x >>> 11))):=shr_at x yk 11 (by decide)
@[go_sem ↓] theorem wv_shr13 (x:BitVec 32) (yk:IntKind):Op.shift .shr .u32 (wv x) yk 13=pure (.int .u32 (wv (x >>> 13))):=shr_at x yk 13 (by decide)
@[go_sem ↓] theorem wv_shr16 (x:BitVec 32) (yk:IntKind):Op.shift .shr .u32 (wv x) yk 16=pure (.int .u32 (wv (x >>> 16))):=shr_at x yk 16 (by decide)
@[go_sem ↓] theorem wv_shr17 (x:BitVec 32) (yk:IntKind):Op.shift .shr .u32 (wv x) yk 17=pure (.int .u32 (wv (x >>> 17))):=shr_at x yk 17 (by decide)
@[go_sem ↓] theorem wv_shr18 (x:BitVec 32) (yk:IntKind):Op.shift .shr .u32 (wv x) yk 18=pure (.int .u32 (wv (x >>> 18))):=shr_at x yk 18 (by decide)
@[go_sem ↓] theorem wv_shr19 (x:BitVec 32) (yk:IntKind):Op.shift .shr .u32 (wv x) yk 19=pure (.int .u32 (wv (x >>> 19))):=shr_at x yk 19 (by decide)
@[go_sem ↓] theorem wv_shr22 (x:BitVec 32) (yk:IntKind):Op.shift .shr .u32 (wv x) yk 22=pure (.int .u32 (wv (x >>> 22))):=shr_at x yk 22 (by decide)
@[go_sem ↓] theorem wv_shr24 (x:BitVec 32) (yk:IntKind):Op.shift .shr .u32 (wv x) yk 24=pure (.int .u32 (wv (x >>> 24))):=shr_at x yk 24 (by decide)
@[go_sem ↓] theorem wv_shr25 (x:BitVec 32) (yk:IntKind):Op.shift .shr .u32 (wv x) yk 25=pure (.int .u32 (wv (x >>> 25))):=shr_at x yk 25 (by decide)
@[go_sem ↓] theorem wv_shl8 (x:BitVec 32) (yk:IntKind):Op.shift .shl .u32 (wv x) yk 8=pure (.int .u32 (wv (x <<< 8))):=shl_at x yk 8 (by decide)
@[go_sem ↓] theorem wv_shl16 (x:BitVec 32) (yk:IntKind):Op.shift .shl .u32 (wv x) yk 16=pure (.int .u32 (wv (x <<< 16))):=shl_at x yk 16 (by decide)
@[go_sem ↓] theorem wv_shl24 (x:BitVec 32) (yk:IntKind):Op.shift .shl .u32 (wv x) yk 24=pure (.int .u32 (wv (x <<< 24))):=shl_at x yk 24 (by decide)
@[go_sem ↓] theorem wv_shl30 (x:BitVec 32) (yk:IntKind):Op.shift .shl .u32 (wv x) yk 30=pure (.int .u32 (wv (x <<< 30))):=shl_at x yk 30 (by decide)
@[go_sem ↓] theorem wv_shl26 (x:BitVec 32) (yk:IntKind):Op.shift .shl .u32 (wv x) yk 26=pure (.int .u32 (wv (x <<< 26))):=shl_at x yk 26 (by decide)
@[go_sem ↓] theorem wv_shl25 (x:BitVec 32) (yk:IntKind):Op.shift .shl .u32 (wv x) yk 25=pure (.int .u32 (wv (x <<< 25))):=shl_at x yk 25 (by decide)
@[go_sem ↓] theorem wv_shl21 (x:BitVec 32) (yk:IntKind):Op.shift .shl .u32 (wv x) yk 21=pure (.int .u32 (wv (x <<< 21))):=shl_at x yk 21 (by decide)
@[go_sem ↓] theorem wv_shl19 (x:BitVec 32) (yk:IntKind):Op.shift .shl .u32 (wv x) yk 19=pure (.int .u32 (wv (x <<< 19))):=shl_at x yk 19 (by decide)
@[go_sem ↓] theorem wv_shl15 (x:BitVec 32) (yk:IntKind):Op.shift .shl .u32 (wv x) yk 15=pure (.int .u32 (wv (x <<< 15))):=shl_at x yk 15 (by decide)
@[go_sem ↓] theorem wv_shl14 (x:BitVec 32) (yk:IntKind):Op.shift .shl .u32 (wv x) yk 14=pure (.int .u32 (wv (x <<< 14))):=shl_at x yk 14 (by decide)
@[go_sem ↓] theorem wv_shl13 (x:BitVec 32) (yk:IntKind):Op.shift .shl .u32 (wv x) yk 13=pure (.int .u32 (wv (x <<< 13))):=shl_at x yk 13 (by decide)
@[go_sem ↓] theorem wv_shl10 (x:BitVec 32) (yk:IntKind):Op.shift .shl .u32 (wv x) yk 10=pure (.int .u32 (wv (x <<< 10))):=shl_at x yk 10 (by decide)
@[go_sem ↓] theorem wv_shl7 (x:BitVec 32) (yk:IntKind):Op.shift .shl .u32 (wv x) yk 7=pure (.int .u32 (wv (x <<< 7))):=shl_at x yk 7 (by decide)
@[go_sem ↓] theorem bv_shl8 (b:UInt8) (yk:IntKind):Op.shift .shl .u32 (bv b) yk 8=pure (.int .u32 (wv (bw b <<< 8))):=by rw [bv_wv];exact shl_at _ yk 8 (by decide)
@[go_sem ↓] theorem bv_shl16 (b:UInt8) (yk:IntKind):Op.shift .shl .u32 (bv b) yk 16=pure (.int .u32 (wv (bw b <<< 16))):=by rw [bv_wv];exact shl_at _ yk 16 (by decide)
@[go_sem ↓] theorem bv_shl24 (b:UInt8) (yk:IntKind):Op.shift .shl .u32 (bv b) yk 24=pure (.int .u32 (wv (bw b <<< 24))):=by rw [bv_wv];exact shl_at _ yk 24 (by decide)
@[go_sem] theorem wv_add (x y:BitVec 32):IntKind.u32.wrap (wv x+wv y)=wv (x+y):=by
 unfold wv;rw [IntKind.wrap_u32,BitVec.toNat_add];omega
@[go_sem] theorem wv_add' (x y:BitVec 32):(wv x+wv y)%4294967296=wv (x+y):=by rw [← wv_add,IntKind.wrap_u32]
@[go_sem] theorem bv_mod32 (b:UInt8):bv b%4294967296=bv b:=by have:=bv_bd b;omega
@[go_sem] theorem bv_wrap32 (b:UInt8):IntKind.u32.wrap (bv b)=bv b:=by rw [IntKind.wrap_u32,bv_mod32]
@[go_sem] theorem wv_eq1 (x:BitVec 32):(wv x==1)=decide (x=1#32):=by
 have h:(1:Int)=wv 1#32:=rfl
 rw [h]
 by_cases e:x=1#32
 ·subst e;rfl
 ·have:wv x≠wv 1#32:=fun e'=>e (wv_inj e')
  simp only [e,decide_false,beq_eq_false_iff_ne,ne_eq,this,not_false_eq_true]
@[go_sem] theorem wv_or0b (b:UInt8):bits .or .u32 0 (bv b)=wv (bw b):=by
 have h:(0:Int)=wv 0#32:=rfl
 rw [h,wv_orb,BitVec.zero_or]
@[go_sem] theorem wv_bor (b:UInt8) (y:BitVec 32):bits .or .u32 (bv b) (wv y)=wv (bw b ||| y):=by rw [bv_wv,wv_or]
def word4 (a b c d:UInt8):BitVec 32:=bw a <<< 24 ||| bw b <<< 16 ||| bw c <<< 8 ||| bw d
theorem word4_rev (a b c d:UInt8):bw d ||| bw c <<< 8 ||| bw b <<< 16 ||| bw a <<< 24=word4 a b c d:=by
 unfold word4
 apply BitVec.eq_of_getLsbD_eq
 intro i _
 simp only [BitVec.getLsbD_or]
 cases (bw d).getLsbD i <;> cases (bw c <<< 8).getLsbD i <;> cases (bw b <<< 16).getLsbD i <;> cases (bw a <<< 24).getLsbD i <;> rfl
def lowb (x:BitVec 32):UInt8:=UInt8.ofNat (x.toNat%256)
@[go_sem] theorem wv_low (x:BitVec 32):wv x%256=bv (lowb x):=by
 unfold wv bv lowb
 rw [UInt8.toNat_ofNat_of_lt' (Nat.mod_lt _ (by decide))]
 simp
@[go_sem] theorem wv_low8 (x:BitVec 32):IntKind.u8.wrap (wv x)=bv (lowb x):=by rw [← wv_low];simp [IntKind.wrap,IntKind.bits,IntKind.signed]
def be4 (x:BitVec 32):List UInt8:=[lowb (x >>> 24),lowb (x >>> 16),lowb (x >>> 8),lowb x]
def rotr (x:BitVec 32) (n:Nat):BitVec 32:=(x <<< (32-n)) ||| (x >>> n)
theorem rot2 (x:BitVec 32) (w:World):Calls Tryz.prog 307 #[.int .u32 (wv x),.int .i64 (-2)] w fun e w'=>e=.returned (.int .u32 (wv (rotr x 2)))∧w=w':=by
 have hk:bits BinOp.and IntKind.u64 (IntKind.u64.wrap (-2)) 31=30:=by decide
 go_enter Tryz.func307,Tryz.ntmps307
 go_wp2
 go_ret
 exact ⟨rfl,rfl⟩
theorem rot6 (x:BitVec 32) (w:World):Calls Tryz.prog 307 #[.int .u32 (wv x),.int .i64 (-6)] w fun e w'=>e=.returned (.int .u32 (wv (rotr x 6)))∧w=w':=by
 have hk:bits BinOp.and IntKind.u64 (IntKind.u64.wrap (-6)) 31=26:=by decide
 go_enter Tryz.func307,Tryz.ntmps307
 go_wp2
 go_ret
 exact ⟨rfl,rfl⟩
theorem rot7 (x:BitVec 32) (w:World):Calls Tryz.prog 307 #[.int .u32 (wv x),.int .i64 (-7)] w fun e w'=>e=.returned (.int .u32 (wv (rotr x 7)))∧w=w':=by
 have hk:bits BinOp.and IntKind.u64 (IntKind.u64.wrap (-7)) 31=25:=by decide
 go_enter Tryz.func307,Tryz.ntmps307
 go_wp2
 go_ret
 exact ⟨rfl,rfl⟩
theorem rot11 (x:BitVec 32) (w:World):Calls Tryz.prog 307 #[.int .u32 (wv x),.int .i64 (-11)] w fun e w'=>e=.returned (.int .u32 (wv (rotr x 11)))∧w=w':=by
 have hk:bits BinOp.and IntKind.u64 (IntKind.u64.wrap (-11)) 31=21:=by decide
 go_enter Tryz.func307,Tryz.ntmps307
 go_wp2
 go_ret
 exact ⟨rfl,rfl⟩
theorem rot13 (x:BitVec 32) (w:World):Calls Tryz.prog 307 #[.int .u32 (wv x),.int .i64 (-13)] w fun e w'=>e=.returned (.int .u32 (wv (rotr x 13)))∧w=w':=by
 have hk:bits BinOp.and IntKind.u64 (IntKind.u64.wrap (-13)) 31=19:=by decide
 go_enter Tryz.func307,Tryz.ntmps307
 go_wp2
 go_ret
 exact ⟨rfl,rfl⟩
theorem rot17 (x:BitVec 32) (w:World):Calls Tryz.prog 307 #[.int .u32 (wv x),.int .i64 (-17)] w fun e w'=>e=.returned (.int .u32 (wv (rotr x 17)))∧w=w':=by
 have hk:bits BinOp.and IntKind.u64 (IntKind.u64.wrap (-17)) 31=15:=by decide
 go_enter Tryz.func307,Tryz.ntmps307
 go_wp2
 go_ret
 exact ⟨rfl,rfl⟩
theorem rot18 (x:BitVec 32) (w:World):Calls Tryz.prog 307 #[.int .u32 (wv x),.int .i64 (-18)] w fun e w'=>e=.returned (.int .u32 (wv (rotr x 18)))∧w=w':=by
 have hk:bits BinOp.and IntKind.u64 (IntKind.u64.wrap (-18)) 31=14:=by decide
 go_enter Tryz.func307,Tryz.ntmps307
 go_wp2
 go_ret
 exact ⟨rfl,rfl⟩
theorem rot19 (x:BitVec 32) (w:World):Calls Tryz.prog 307 #[.int .u32 (wv x),.int .i64 (-19)] w fun e w'=>e=.returned (.int .u32 (wv (rotr x 19)))∧w=w':=by
 have hk:bits BinOp.and IntKind.u64 (IntKind.u64.wrap (-19)) 31=13:=by decide
 go_enter Tryz.func307,Tryz.ntmps307
 go_wp2
 go_ret
 exact ⟨rfl,rfl⟩
theorem rot22 (x:BitVec 32) (w:World):Calls Tryz.prog 307 #[.int .u32 (wv x),.int .i64 (-22)] w fun e w'=>e=.returned (.int .u32 (wv (rotr x 22)))∧w=w':=by
 have hk:bits BinOp.and IntKind.u64 (IntKind.u64.wrap (-22)) 31=10:=by decide
 go_enter Tryz.func307,Tryz.ntmps307
 go_wp2
 go_ret
 exact ⟨rfl,rfl⟩
theorem rot25 (x:BitVec 32) (w:World):Calls Tryz.prog 307 #[.int .u32 (wv x),.int .i64 (-25)] w fun e w'=>e=.returned (.int .u32 (wv (rotr x 25)))∧w=w':=by
 have hk:bits BinOp.and IntKind.u64 (IntKind.u64.wrap (-25)) 31=7:=by decide
 go_enter Tryz.func307,Tryz.ntmps307
 go_wp2
 go_ret
 exact ⟨rfl,rfl⟩
def kList:List Nat:=[0x428a2f98,0x71374491,0xb5c0fbcf,0xe9b5dba5,0x3956c25b,0x59f111f1,0x923f82a4,0xab1c5ed5,0xd807aa98,0x12835b01,0x243185be,0x550c7dc3,0x72be5d74,0x80deb1fe,0x9bdc06a7,0xc19bf174,0xe49b69c1,0xefbe4786,0x0fc19dc6,0x240ca1cc,0x2de92c6f,0x4a7484aa,0x5cb0a9dc,0x76f988da,0x983e5152,0xa831c66d,0xb00327c8,0xbf597fc7,0xc6e00bf3,0xd5a79147,0x06ca6351,0x14292967,0x27b70a85,0x2e1b2138,0x4d2c6dfc,0x53380d13,0x650a7354,0x766a0abb,0x81c2c92e,0x92722c85,0xa2bfe8a1,0xa81a664b,0xc24b8b70,0xc76c51a3,0xd192e819,0xd6990624,0xf40e3585,0x106aa070,0x19a4c116,0x1e376c08,0x2748774c,0x34b0bcb5,0x391c0cb3,0x4ed8aa4a,0x5b9cca4f,0x682e6ff3,0x748f82ee,0x78a5636f,0x84c87814,0x8cc70208,0x90befffa,0xa4506ceb,0xbef9a3f7,0xc67178f2]
def hList:List Nat:=[0x6a09e667,0xbb67ae85,0x3c6ef372,0xa54ff53a,0x510e527f,0x9b05688c,0x1f83d9ab,0x5be0cd19]
def kAt (j:Nat):BitVec 32:=BitVec.ofNat 32 (kList.getD j 0)
def hAt (j:Nat):BitVec 32:=BitVec.ofNat 32 (hList.getD j 0)
def sig0 (x:BitVec 32):BitVec 32:=rotr x 7 ^^^ rotr x 18 ^^^ x >>> 3
def sig1 (x:BitVec 32):BitVec 32:=rotr x 17 ^^^ rotr x 19 ^^^ x >>> 10
def Sig0 (x:BitVec 32):BitVec 32:=rotr x 2 ^^^ rotr x 13 ^^^ rotr x 22
def Sig1 (x:BitVec 32):BitVec 32:=rotr x 6 ^^^ rotr x 11 ^^^ rotr x 25
def chf (e f g:BitVec 32):BitVec 32:=(e &&& f) ^^^ (~~~e &&& g)
def maj (a b c:BitVec 32):BitVec 32:=(a &&& b) ^^^ (a &&& c) ^^^ (b &&& c)
def wordAt (bs:List UInt8) (j:Nat):BitVec 32:=word4 (bs.getD (4*j) 0) (bs.getD (4*j+1) 0) (bs.getD (4*j+2) 0) (bs.getD (4*j+3) 0)
def sched (bs:List UInt8) (j:Nat):BitVec 32 :=
 if j<16 then wordAt bs j
 else sched bs (j-16)+sig0 (sched bs (j-15))+sched bs (j-7)+sig1 (sched bs (j-2))
 termination_by j
theorem sched_lt (bs:List UInt8){j:Nat}(h:j<16):sched bs j=wordAt bs j:=by rw [sched,if_pos h]
theorem sched_ge (bs:List UInt8){j:Nat}(h:16≤j):sched bs j=sched bs (j-16)+sig0 (sched bs (j-15))+sched bs (j-7)+sig1 (sched bs (j-2)):=by
 rw [sched,if_neg (by omega)]
structure S8 where
 a:BitVec 32
 b:BitVec 32
 c:BitVec 32
 d:BitVec 32
 e:BitVec 32
 f:BitVec 32
 g:BitVec 32
 h:BitVec 32
def S8.of (s:Nat→BitVec 32):S8:=⟨s 0,s 1,s 2,s 3,s 4,s 5,s 6,s 7⟩
def S8.get (s:S8) (j:Nat):BitVec 32 :=
 if j=0 then s.a else if j=1 then s.b else if j=2 then s.c else if j=3 then s.d else if j=4 then s.e else if j=5 then s.f else if j=6 then s.g else s.h
def S8.t1 (s:S8) (k w:BitVec 32):BitVec 32:=s.h+Sig1 s.e+chf s.e s.f s.g+k+w
def S8.t2 (s:S8):BitVec 32:=Sig0 s.a+maj s.a s.b s.c
def S8.round (s:S8) (k w:BitVec 32):S8:=⟨s.t1 k w+s.t2,s.a,s.b,s.c,s.d+s.t1 k w,s.e,s.f,s.g⟩
def S8.rounds (s:S8) (bs:List UInt8):Nat→S8
 | 0=>s
 | n+1=>(S8.rounds s bs n).round (kAt n) (sched bs n)
def compress (s:Nat→BitVec 32) (bs:List UInt8) (j:Nat):BitVec 32:=s j+((S8.of s).rounds bs 64).get j
def blocks (s:Nat→BitVec 32) (bs:List UInt8):Nat→Nat→BitVec 32
 | 0=>s
 | n+1=>compress (blocks s bs n) ((bs.drop (64*n)).take 64)
def be8 (n:Nat):List UInt8:=(List.range 8).map fun i=>UInt8.ofNat (n/256^(7-i)%256)
def padNoughts (n:Nat):Nat:=(119-n%64)%64
def padded (bs:List UInt8):List UInt8:=bs++[0x80]++List.replicate (padNoughts bs.length) 0++be8 (bs.length*8)
def stateBytes (s:Nat→BitVec 32):List UInt8:=(List.range 8).flatMap fun j=>be4 (s j)
def shaSum (bs:List UInt8):List UInt8:=stateBytes (blocks hAt (padded bs) ((padded bs).length/64))
theorem shaSum_length (bs:List UInt8):(shaSum bs).length=32:=rfl
theorem blocks_append (s:Nat→BitVec 32) (a b:List UInt8):∀ n,64*n≤a.length→blocks s (a++b) n=blocks s a n
 | 0,_=>rfl
 | n+1,h=>by
  show compress (blocks s (a++b) n) _=compress (blocks s a n) _
  rw [blocks_append s a b n (by omega),List.drop_append_of_le_length (by omega),List.take_append_of_le_length (by rw [List.length_drop];omega)]
theorem blocks_snoc (s:Nat→BitVec 32) (done blk:List UInt8) (m:Nat) (hd:done.length=64*m) (hb:blk.length=64):blocks s (done++blk) (m+1)=compress (blocks s done m) blk:=by
 show compress (blocks s (done++blk) m) _=_
 rw [blocks_append s done blk m (by omega),← hd,List.drop_left,List.take_of_length_le (by omega)]
def W32s (w:World) (q o n:Nat) (f:Nat→BitVec 32):Prop:=∀ j,j<n→w.cell? ⟨q,o+j,none⟩=some (.int .u32 (wv (f j)))∧w.frozen? ⟨q,o+j,none⟩=false
section
variable {w w':World}{q o n:Nat}{f g:Nat→BitVec 32}
theorem W32s.cell (h:W32s w q o n f){j:Nat}(hj:j<n):w.cell? ⟨q,o+j,none⟩=some (.int .u32 (wv (f j))):=(h j hj).1
theorem W32s.free (h:W32s w q o n f){j:Nat}(hj:j<n):w.frozen? ⟨q,o+j,none⟩=false:=(h j hj).2
theorem W32s.cell0 (h:W32s w q 0 n f){j:Nat}(hj:j<n):w.cell? ⟨q,j,none⟩=some (.int .u32 (wv (f j))):=by have:=h.cell hj;rwa [Nat.zero_add] at this
theorem W32s.free0 (h:W32s w q 0 n f){j:Nat}(hj:j<n):w.frozen? ⟨q,j,none⟩=false:=by have:=h.free hj;rwa [Nat.zero_add] at this
theorem W32s.congr (h:W32s w q o n f) (hg:∀ j,j<n→f j=g j):W32s w q o n g:=fun j hj=>by rw [← hg j hj];exact h j hj
theorem W32s.lt (h:W32s w q o n f) (hn:0<n):q<w.heap.size:=World.block_lt_of_cell? w _ (h.cell hn)
theorem W32s.keep {D:Nat→Prop}(h:W32s w q o n f) (hk:Keep D w w') (hd:D q):W32s w' q o n f:=fun j hj=>by
 have hq:q<w.heap.size:=World.block_lt_of_cell? w _ (h.cell hj)
 exact ⟨(hk.cell (p:=⟨q,o+j,none⟩) hq hd).trans (h.cell hj),(hk.frozen (p:=⟨q,o+j,none⟩) hq hd).trans (h.free hj)⟩
theorem W32s.drewN (h:W32s w q o n f) (k:Nat):W32s (w.drewN k) q o n f:=h
theorem W32s.set (h:W32s w q o n f){k:Nat}(hk:k<n) (x:BitVec 32):W32s (w.setCell ⟨q,o+k,none⟩ (.int .u32 (wv x))) q o n (fun j=>if j=k then x else f j):=fun j hj=>by
 refine ⟨?_,(World.frozen?_setCell _ _ _ _).trans (h.free hj)⟩
 by_cases e:j=k
 ·subst e;dsimp only;rw [if_pos rfl];exact World.cell?_setCell_same _ _ _ (h.cell hj)
 ·dsimp only;rw [if_neg e,World.cell?_setCell_other _ _ _ _ (by intro hh;injection hh;omega)];exact h.cell hj
theorem W32s.set0 (h:W32s w q 0 n f){k:Nat}(hk:k<n) (x:BitVec 32):W32s (w.setCell ⟨q,k,none⟩ (.int .u32 (wv x))) q 0 n (fun j=>if j=k then x else f j):=by
 have:=h.set hk x;rwa [Nat.zero_add] at this
theorem W32s.far (h:W32s w q o n f){p:Addr}(hp:p.block≠q∨p.off<o∨o+n≤p.off) (u:Value):W32s (w.setCell p u) q o n f:=fun j hj=>by
 refine ⟨?_,(World.frozen?_setCell _ _ _ _).trans (h.free hj)⟩
 rw [World.cell?_setCell_other _ _ _ _ (by rintro rfl;simp at hp;omega)];exact h.cell hj
theorem free_new (w:World) (cs:Array Value) (t j:Nat):(w.alloc (.cells cs t)).frozen? ⟨w.heap.size,j,none⟩=false:=by
 have hh:=heap_alloc_new w (.cells cs t)
 unfold World.frozen?
 rw [hh]
 simp
theorem W32s.zero (w:World) (t n:Nat):W32s (w.alloc (.cells (List.replicate n (Value.int .u32 0)).toArray t)) w.heap.size 0 n (fun _=>0#32):=fun j hj=>by
 refine ⟨?_,free_new w _ t _⟩
 rw [cell_of_row _ _ _ _ t (0,0) (heap_alloc_new w _)]
 simp [hj];rfl
theorem S8.made8 (w:World) (t:Nat) (S:S8):W32s (w.alloc (.cells #[.int .u32 (wv S.a),.int .u32 (wv S.b),.int .u32 (wv S.c),.int .u32 (wv S.d),.int .u32 (wv S.e),.int .u32 (wv S.f),.int .u32 (wv S.g),.int .u32 (wv S.h)] t)) w.heap.size 0 8 S.get:=fun j hj=>by
 refine ⟨?_,free_new w _ t _⟩
 rw [cell_of_row _ _ _ _ t (0,0) (heap_alloc_new w _)]
 match j,hj with
 | 0,_=>rfl
 | 1,_=>rfl
 | 2,_=>rfl
 | 3,_=>rfl
 | 4,_=>rfl
 | 5,_=>rfl
 | 6,_=>rfl
 | 7,_=>rfl
end
end Go.Proofs.YtdodbdednpnddaaGreatDoor
