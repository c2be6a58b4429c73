/-
  PROVED HERE: parts of a law's walk, each under the conditions that its statement names.
-/
import Derived.WalkKit
import Derived.WalkLawsBesides
import Derived.Below
import Derived.OwnWalk
import Derived.Maps.AppendAt
import Derived.Deep.AppendLies
import Derived.Deep.Draws
import Derived.Deep.WholeRow
import Derived.Deep.QuietTactic
import Derived.RegionTactic
import Derived.Laws.OwnMore
import Derived.Laws.Rows
import Derived.KernelRfl
import Derived.Deep.RegionHeld3
import Derived.Lib.Hide
import Derived.Test.YtlopmiaimignkaaGreatDoorChecked
import Derived.WalkSpells
set_option maxRecDepth 100000
namespace Go.Proofs.YtlopmiaimignkaaGreatDoor
open Go.Proofs.Tryz
open Go.RowKit
theorem zx{α:Sort _}(a:α):∃ b,b=a:=⟨a,rfl⟩
theorem zh{p:Prop}(h:p):Hid p:=Lib.hid h
theorem za{p q:Prop}(h:p)(k:q):p∧q:=⟨h,k⟩
theorem zo{p:Prop}(h:p:=by omega):p:=h
theorem Zd{p:Prop}(h:p:=by decide):p:=h
theorem zk{p:Prop}(h:p:=by kernel_rfl):p:=h
theorem J2{p0 p1:Prop}(h0:p0)(h1:p1):Hid (p0∧p1):=⟨h0,h1⟩
theorem J3{p0 p1 p2:Prop}(h0:p0)(h1:p1)(h2:p2):Hid (p0∧p1∧p2):=⟨h0,h1,h2⟩
theorem J4{p0 p1 p2 p3:Prop}(h0:p0)(h1:p1)(h2:p2)(h3:p3):Hid (p0∧p1∧p2∧p3):=⟨h0,h1,h2,h3⟩
theorem J5{p0 p1 p2 p3 p4:Prop}(h0:p0)(h1:p1)(h2:p2)(h3:p3)(h4:p4):Hid (p0∧p1∧p2∧p3∧p4):=⟨h0,h1,h2,h3,h4⟩
theorem J6{p0 p1 p2 p3 p4 p5:Prop}(h0:p0)(h1:p1)(h2:p2)(h3:p3)(h4:p4)(h5:p5):Hid (p0∧p1∧p2∧p3∧p4∧p5):=⟨h0,h1,h2,h3,h4,h5⟩
theorem J7{p0 p1 p2 p3 p4 p5 p6:Prop}(h0:p0)(h1:p1)(h2:p2)(h3:p3)(h4:p4)(h5:p5)(h6:p6):Hid (p0∧p1∧p2∧p3∧p4∧p5∧p6):=⟨h0,h1,h2,h3,h4,h5,h6⟩
theorem J8{p0 p1 p2 p3 p4 p5 p6 p7:Prop}(h0:p0)(h1:p1)(h2:p2)(h3:p3)(h4:p4)(h5:p5)(h6:p6)(h7:p7):Hid (p0∧p1∧p2∧p3∧p4∧p5∧p6∧p7):=⟨h0,h1,h2,h3,h4,h5,h6,h7⟩
theorem J9{p0 p1 p2 p3 p4 p5 p6 p7 p8:Prop}(h0:p0)(h1:p1)(h2:p2)(h3:p3)(h4:p4)(h5:p5)(h6:p6)(h7:p7)(h8:p8):Hid (p0∧p1∧p2∧p3∧p4∧p5∧p6∧p7∧p8):=⟨h0,h1,h2,h3,h4,h5,h6,h7,h8⟩
theorem Zl{α:Type _}{a:Array α}{i:Nat}{x:α}(h:a[i]?=some x):i<a.size:=(Array.getElem?_eq_some_iff.1 h).1
theorem Zb{P:Program}{fn:Func}{R:Ending → World → Prop}{a:Act}{w:World}(v:Value)(hr:(results fn a.tmps).run P w=.ok v w)(hR:R (.returned v) w)(hd:a.defers=[]:=by rfl):bodyPost P fn R .ret a w:=bodyPost_ret hr hd hR
theorem zr{n:Nat}:n≤n:=Nat.le_refl n
theorem zt:True:=trivial
theorem zL{α:Type _}{a b:List α}:(a++b).length=a.length+b.length:=List.length_append
variable{P:Program}{w w':World}{base fuel i id j k n size:Nat}{v:Value}{e t:TypeId}{A:Option Addr}{xs:List Value}{D:Nat->Prop}{Q:Exit->Act->World->Prop}{ops:Array Oper}{rest:List Oper}{oi:Oper}{listed:Array Bool}{cs:Array Value}{a':Act}
theorem AK{f:FuncId}{args:Array Value}(h:Calls P f args (w.drewN n) fun e w'=>e=.returned v/\w.drewN n=w'):Calls P f args (w.drewN n) fun e w''=>e=.returned v/\∃m,w''=w.drewN m :=
  h.mono fun _ _ ⟨he,hm⟩=>⟨he,n,hm.symm⟩
structure b_ (D:Nat->Prop) (w w':World):Prop where
  os:w'.os=w.os
  tape:w'.tape=w.tape
  output:w'.output=w.output
  size:w.heap.size<=w'.heap.size
  block:∀k,k<w.heap.size->D k->w'.heap[k]?=w.heap[k]?
abbrev New(w w':World):Prop:=b_ (fun _=>True) w w'
section
variable {D E:Nat->Prop}{a b c w w':World}
theorem b_.refl(D:Nat->Prop)(w:World):b_ D w w:=⟨rfl,rfl,rfl,zr,fun _ _ _=>rfl⟩
theorem zN(w:World):New w w:=b_.refl _ w
theorem New.refl(w:World):New w w:=zN w
theorem b_.Qd(h:b_ D a b)(k:b_ E b c)(hDE:∀i,i<a.heap.size->D i->E i):b_ D a c :=
  ⟨k.os.trans h.os,k.tape.trans h.tape,k.output.trans h.output,Nat.le_trans h.size k.size,fun i hi hd=>(k.block i (Nat.lt_of_lt_of_le hi h.size) (hDE i hi hd)).trans (h.block i hi hd)⟩
theorem b_.trans(h:b_ D a b)(k:b_ D b c):b_ D a c:=h.Qd k fun _ _ h=>h
theorem b_.new(h:b_ D a b)(k:New b c):b_ D a c:=h.Qd k fun _ _ _=>trivial
theorem b_.imp(h:b_ D a b)(hE:∀i,i<a.heap.size->E i->D i):b_ E a b:=⟨h.os,h.tape,h.output,h.size,fun i hi he=>h.block i hi (hE i hi he)⟩
theorem b_.Qe(h:New a b):b_ D a b:=h.imp fun _ _ _=>trivial
theorem b_.drew(h:b_ D a w):b_ D a w.drew:=⟨h.os,h.tape,h.output,h.size,h.block⟩
theorem b_.drewN(h:b_ D a w)(n:Nat):b_ D a (w.drewN n):=⟨h.os,h.tape,h.output,h.size,h.block⟩
theorem b_.alloc(h:b_ D a w)(o:Obj):b_ D a (w.alloc o) :=
  h.trans ⟨rfl,rfl,rfl,by simp,fun k hk _=>Below.heap_alloc _ _ _ hk⟩
theorem b_.setCell(h:b_ D a w){p:Addr}(hp:D p.block->a.heap.size<=p.block)(u:Value):b_ D a (w.setCell p u) :=
  ⟨h.os,h.tape,h.output,by simpa[World.setCell] using h.size,fun k hk hd=>(Below.heap_setCell _ _ _ _ (by rintro rfl;have:=hp hd;omega)).trans (h.block k hk hd)⟩
theorem b_.grown(h:b_ D a w){row:Option Nat}(hg:w.grownBy w' row)(hr:∀k,row=some k->D k->a.heap.size<=k):b_ D a w' :=
  ⟨hg.os.trans h.os,hg.tape.trans h.tape,hg.output.trans h.output,Nat.le_trans h.size hg.size,fun k hk hd =>
    (hg.block k (Nat.lt_of_lt_of_le hk h.size) (fun e=>by have:=hr k e.symm hd;omega)).trans (h.block k hk hd)⟩
theorem b_.below{B:Nat}(h:Below B a w):b_ (· < B) a w:=⟨h.os,h.tape,h.output,h.size,fun k _ hd=>h.block k hd⟩
theorem New.below(h:New a w):Below a.heap.size a w:=⟨h.os,h.tape,h.output,h.size,fun k hk=>h.block k hk zt⟩
theorem b_.Qi(h:b_ D a w)(hD:∀i,i<a.heap.size->D i):New a w:=h.imp fun i hi _=>hD i hi
theorem b_.cell(h:b_ D a w){p:Addr}(hp:p.block<a.heap.size)(hd:D p.block):w.cell? p=a.cell? p:=World.cell?_of_block (w:=a) (h.block p.block hp hd)
theorem b_.frozen(h:b_ D a w){p:Addr}(hp:p.block<a.heap.size)(hd:D p.block):w.frozen? p=a.frozen? p:=World.frozen?_of_block (w:=a) (h.block p.block hp hd)
theorem b_.Qb(h:b_ D a w){p:Addr}{u:Value}(hc:a.cell? p=some u)(hd:D p.block):w.cell? p=some u:=(h.cell (World.block_lt_of_cell? a p hc) hd).trans hc
end
def blk(A:Option Addr):Option Nat:=A.map (·.block)
theorem yU(w:World)(p:Addr)(u:Value):w.grownBy (w.setCell p u) (some p.block) :=
  ⟨rfl,rfl,rfl,by simp[World.setCell],fun k _ a=>Below.heap_setCell w p u k (fun e=>a (by rw[e]))⟩
theorem le{c:Nat}(h:w.ownsRow base e size (.slice A n c) n xs){p:Addr}(hp:blk A≠some p.block)(u:Value):(w.setCell p u).ownsRow base e size (.slice A n c) n xs :=
  h.kept (yU w p u) (.inr (by rw[show(Value.slice A n c).ownBlock=blk A from by cases A <;> rfl];exact hp))
def Row(w:World)(D:Nat->Prop)(A:Option Addr)(n size:Nat)(vs:List Value):Prop :=
  vs.length=n*size/\(0<n->∃b off,A=some ⟨b,off,none⟩/\D b/\b<w.heap.size/\∀k u,vs[k]?=some u->w.cell? ⟨b,off+k,none⟩=some u)
section
variable {D E:Nat->Prop}{w w':World}{A:Option Addr}{n size:Nat}{vs:List Value}
theorem Row.nil(w:World)(D:Nat->Prop)(A:Option Addr)(size:Nat):Row w D A 0 size []:=⟨by simp,fun h=>absurd h zo⟩
theorem Row.imp(h:Row w D A n size vs)(hE:∀b,b<w.heap.size->D b->E b):Row w E A n size vs :=
  ⟨h.1,fun hn=>let ⟨b,off,e,hd,hl,hc⟩:=h.2 hn;⟨b,off,e,hE b hl hd,hl,hc⟩⟩
theorem Row.keep(h:Row w D A n size vs)(hk:b_ E w w')(hDE:∀b,b<w.heap.size->D b->E b):Row w' D A n size vs :=
  ⟨h.1,fun hn=>let ⟨b,off,e,hd,hl,hc⟩:=h.2 hn;⟨b,off,e,hd,Nat.lt_of_lt_of_le hl hk.size,fun k u a=>(hk.cell (p:=⟨b,off+k,none⟩) hl (hDE b hl hd)).trans (hc k u a)⟩⟩
theorem Row.new(h:Row w D A n size vs)(hk:New w w'):Row w' D A n size vs:=h.keep hk fun _ _ _=>trivial
theorem Row.alloc(h:Row w D A n size vs)(o:Obj):Row (w.alloc o) D A n size vs:=h.new ((zN w).alloc o)
theorem Row.drew(h:Row w D A n size vs):Row w.drew D A n size vs:=h
theorem Row.setCell(h:Row w D A n size vs){p:Addr}(hp:¬D p.block)(u:Value):Row (w.setCell p u) D A n size vs :=
  h.keep ((b_.refl D w).setCell (fun hd=>absurd hd hp) u) fun _ _ h=>h
theorem Row.made(w:World)(t:TypeId)(cs:Array Value)(n size:Nat)(h:cs.size=n*size):Row (w.alloc (.cells cs t)) (fun b=>w.heap.size<=b) (some ⟨w.heap.size,0,none⟩) n size cs.toList:=by
  refine⟨by simpa using h,fun _=>⟨w.heap.size,0,rfl,zr,by simp,fun k u a=>?_⟩⟩
  rw[cell_of_row _ _ _ cs t (0,0) (heap_alloc_new w _)]
  simpa using a
theorem Row.made1(w:World)(t:TypeId)(x:Value):Row (w.alloc (.cells #[x] t)) (fun b=>w.heap.size<=b) (some ⟨w.heap.size,0,none⟩) 1 1 [x]:=Row.made w t #[x] 1 1 rfl
theorem Row.Qk(h:Row w D A n size vs){hi:Nat}(hh:hi<=n):Row w D A hi size (vs.take (hi*size)):=by
  refine⟨by rw[List.length_take,h.1];exact Nat.min_eq_left (Nat.mul_le_mul_right _ hh),fun hn=>?_⟩
  obtain⟨b,off,rfl,hd,hb,a⟩:=h.2 zo
  refine⟨b,off,rfl,hd,hb,fun k u c=>a k u ?_⟩
  rw[List.getElem?_take] at c
  split at c
  · exact c
  cases c
theorem Row.from_(h:Row w D A n size vs){l:Nat}(hl:l<=n):Row w D (Option.map (fun x=>x.add (l*size)) A) (n-l) size (vs.drop (l*size)):=by
  refine⟨by rw[List.length_drop,h.1,Nat.sub_mul],fun hn=>?_⟩
  obtain⟨b,off,rfl,hd,hb,a⟩:=h.2 zo
  by_cases hz:l*size=0
  · refine⟨b,off,by simp[Addr.add,hz],hd,hb,fun k u c=>a k u (by simpa[hz] using c)⟩
  refine⟨b,off+l*size,by simp[Addr.add,hz],hd,hb,fun k u c=>?_⟩
  rw[Nat.add_assoc];exact a _ u (by rw[<- c,List.getElem?_drop])
theorem Row.Qc{c:Nat}(h:w.ownsRow base e size (.slice A n c) n vs):Row w (fun b=>base<=b) A n size vs:=by
  refine⟨h.1,fun hn=>?_⟩
  obtain⟨g,f,a,hb,hlt⟩:=h.form hn
  have hA:A=some ⟨g,0,none⟩:=by injection a
  subst hA
  refine⟨g,0,rfl,hb,hlt,fun k u d=>?_⟩
  have:=h.cells (g:=g) rfl k u d
  simpa[Addr.add_lit] using this
end
abbrev Own(w:World)(base:Nat)(e:TypeId)(size:Nat)(A:Option Addr)(n c:Nat)(xs:List Value):Prop:=w.ownsRow base e size (.slice A n c) n xs
theorem eW{c:Nat}(h:Own w base e size A n c xs):∀k,blk A=some k->base<=k/\k<w.heap.size:=fun k hk =>
  h.lt k (by rw[show(Value.slice A n c).ownBlock=blk A from by cases A <;> rfl];exact hk)
theorem wk{row:Option Nat}(h:w.drew.grownBy w' row):w.grownBy w' row:=⟨h.os,h.tape,h.output,h.size,h.block⟩
theorem eP{c:Nat}(h:Own w base e size A n c xs)(hk:b_ D w w')(hd:∀k,blk A=some k->D k):Own w' base e size A n c xs:=by
  refine⟨h.1,?_⟩
  rcases h.2 with hn|⟨g,b,d,f,hb,a,rest⟩
  · exact .inl hn
  refine .inr ⟨g,b,d,f,hb,?_,rest⟩
  have hA:A=some ⟨g,0,none⟩:=by injection f
  rw[hk.block g (Zl a) (hd g (by rw[hA];rfl))]
  exact a
theorem Own.nil(w:World)(base:Nat)(e:TypeId)(size:Nat):Own w base e size none 0 0 []:=World.ownsRow_nil _ _ _ _
section
variable {P:Program}(w:World)
theorem tm(base:Nat)(t ty e:TypeId)(i:TypeInfo)(size:Nat)(ht:P.underlying t=some (.slice e))(hi:P.info? e=some i)(v:Value)(n:Nat)(xs:List Value)(hown:w.ownsRow base e size v n xs)(c:Nat):(Builtin.append_ #[t,t] ty #[v,.slice none 0 c]).run P w=.ok v w:=by
  rcases hown.2 with⟨rfl,rfl⟩|⟨g,b,d,rfl,_,_,a,_⟩
  · simp[Builtin.append_,run_underlying ht,sizeOf,typeInfo,hi,Builtin.lenOf,Builtin.firstCells]
  simp[Builtin.append_,run_underlying ht,sizeOf,typeInfo,hi,Builtin.lenOf,Builtin.firstCells,a,storeCells]
theorem DK(h:w.ownsRow base e size v n xs):∃A c,v=.slice A n c/\Own w base e size A n c xs/\v.ownBlock=blk A:=by
  rcases h.2 with⟨rfl,rfl⟩|⟨g,a,b,rfl,_⟩
  · exact⟨none,0,rfl,h,rfl⟩
  exact⟨_,_,rfl,h,rfl⟩
theorem jH(base:Nat)(t ty e:TypeId)(i:TypeInfo)(z:Value)(size bytes:Nat)(ht:P.underlying t=some (.slice e))(hi:P.info? e=some i)(hz:i.zero=some z)(hsize:i.size=size)(hby:i.bytes=bytes)(hzs:z.cells.size=size)(hsz:0<size)(A:Option Addr)(n c:Nat)(xs:List Value)(hown:Own w base e size A n c xs)(D:Nat->Prop)(A2:Option Addr)(m c2:Nat)(news:List Value)(hr:Row w D A2 m size news)(h1:∀u∈news,u.oneCell'=true)(h63:n+m<=maxLen)(hbytes:(n+m)*bytes<=140737488355328)(hbase:base<=w.heap.size):
    ∃A' c' w',(Builtin.append_ #[t,t] ty #[.slice A n c,.slice A2 m c2]).run P w=.ok (.slice A' (n+m) c') w'/\Own w' base e size A' (n+m) c' (xs++news)/\w.grownBy w' (blk A) /\
      (blk A'=blk A\/blk A'=some w.heap.size):=by
  rcases A2 with _|f
  · have hm:m=0:=by
      rcases Nat.eq_zero_or_pos m with h0|h0
      · exact h0
      obtain⟨_,_,h,_⟩:=hr.2 h0
      cases h
    subst hm
    have hn:news=[]:=List.eq_nil_of_length_eq_zero (by simpa using hr.1)
    subst hn
    refine⟨A,c,w,tm w base t ty e i size ht hi _ n xs hown c2,by simpa using hown,World.grownBy.refl w _,.inl rfl⟩
  have a:∀j u,news[j]?=some u->w.cell? (f.add j)=some u:=by
    intro j u g
    rcases Nat.eq_zero_or_pos m with h0|h0
    · subst h0
      have hn:news=[]:=List.eq_nil_of_length_eq_zero (by simpa using hr.1)
      subst hn
      simp at g
    obtain⟨b,off,he,_,_,hc⟩:=hr.2 h0
    injection he with he
    subst he
    have:=hc j u g
    by_cases hj:j=0
    · subst hj;simpa[Addr.add] using this
    simpa[Addr.add,hj] using this
  obtain⟨v',w',d,h2,h3,_,h5⟩:=run_append_own_at (P:=P) w base t ty e i z size bytes ht hi hz hsize hby hzs hsz _ n xs hown f m c2 news hr.1 a h1 h63 hbytes hbase
  obtain⟨A',c',rfl,k,hb⟩:=DK w' h2
  have hA:(Value.slice A n c).ownBlock=blk A:=by cases A <;> rfl
  rw[hA] at h3
  refine⟨A',c',w',d,k,h3,?_⟩
  rcases h5 with h5|h5
  · left;rw[<- hb,h5,hA]
  right;rw[<- hb,h5]
theorem lK{o:Oper}{a:Act}{K:Act->World->Prop}(s x:Operand)(t:TypeId)(ho:o.op=.call { callee:=.builtin .append,args:=#[s,x],argTypes:=#[t,t] })(base:Nat)(e:TypeId)(i:TypeInfo)(z:Value)(size bytes:Nat)(ht:P.underlying t=some (.slice e))(hi:P.info? e=some i)(hz:i.zero=some z)(hsize:i.size=size)(hby:i.bytes=bytes)(hzs:z.cells.size=size)(hsz:0<size)(A:Option Addr)(n c:Nat)(xs:List Value)(hs:a.eval s=.slice A n c)(hown:Own w base e size A n c xs)(D:Nat->Prop)(A2:Option Addr)(m c2:Nat)(news:List Value)(hx:a.eval x=.slice A2 m c2)(hr:Row w D A2 m size news)(h1:∀u∈news,u.oneCell'=true)(h63:n+m<=maxLen)(hbytes:(n+m)*bytes<=140737488355328)(hbase:base<=w.heap.size)(h:∀A' c' w',Own w' base e size A' (n+m) c' (xs++news)->w.grownBy w' (blk A)->(blk A'=blk A\/blk A'=some w.heap.size)->K (a.put o.dst (.slice A' (n+m) c')) w'):o.wp P a w K Q:=by
  obtain⟨A',c',w',b,h2,h3,d⟩:=jH (P:=P) w base t o.type e i z size bytes ht hi hz hsize hby hzs hsz A n c xs hown D A2 m c2 news hr h1 h63 hbytes hbase
  unfold Oper.wp execOp
  simp only[ho,resolve,invoke,builtin,Sem.run_bind,Sem.run_pure,Result.andThen_ok,List.map_toArray,List.map_cons,List.map_nil,hs,hx,b]
  exact h A' c' w' h2 h3 d
theorem gW{o:Oper}{a:Act}(hgd:o.guard=none)(s x:Operand)(t:TypeId)(ho:o.op=.call { callee:=.builtin .append,args:=#[s,x],argTypes:=#[t,t] })(base:Nat)(e:TypeId)(i:TypeInfo)(z:Value)(size bytes:Nat)(ht:P.underlying t=some (.slice e))(hi:P.info? e=some i)(hz:i.zero=some z)(hsize:i.size=size)(hby:i.bytes=bytes)(hzs:z.cells.size=size)(hsz:0<size)(A:Option Addr)(n c:Nat)(xs:List Value)(hs:a.eval s=.slice A n c)(hown:Own w base e size A n c xs)(D:Nat->Prop)(A2:Option Addr)(m c2:Nat)(news:List Value)(hx:a.eval x=.slice A2 m c2)(hr:Row w D A2 m size news)(h1:∀u∈news,u.oneCell'=true)(h63:n+m<=maxLen)(hbytes:(n+m)*bytes<=140737488355328)(hbase:base<=w.heap.size)(h:∀A' c' w',Own w' base e size A' (n+m) c' (xs++news)->w.grownBy w' (blk A)->(blk A'=blk A\/blk A'=some w.heap.size)->wpList P ops Q rest (a.put o.dst (.slice A' (n+m) c')) w'):wpList P ops Q (o::rest) a w :=
  wpList_plain hgd fun _ b=>lK w s x t ho base e i z size bytes ht hi hz hsize hby hzs hsz A n c xs hs hown D A2 m c2 news hx hr h1 h63 hbytes hbase fun A' c' w' h2 h3 d=>b _ _ (h A' c' w' h2 h3 d)
end
theorem rh{o:Oper}{a:Act}(hgd:o.guard=none)(ty:TypeId)(x y:Operand)(ho:o.op=.store ty x y)(t:TypeId)(c c':Array Value)(hx:a.eval x=.pointer (some ⟨w.heap.size,0,none⟩))(hy:a.eval y=.agg c')(hi:(P.info? t).map (·.size)=some c'.size)(hty:ty=t)(hs:c.size=c'.size)(h1:c'.all (·.oneCell')=true)(h:wpList P ops Q rest (a.put o.dst undef) (w.alloc (.cells c' t))):wpList P ops Q (o::rest) a (w.alloc (.cells c t)):=by
  subst hty
  refine wpList_plain hgd fun K b=>?_
  unfold Oper.wp execOp
  simp only[ho,hx,hy,Sem.run_bind,run_storeAt_new w ty c c' hi hs h1,Result.andThen,Sem.run_pure]
  exact b _ _ h
theorem sA{o:Oper}{a:Act}(hg:o.guard=none)(t:TypeId)(parts:Array (Nat×Operand))(ho:o.op=.build t parts)(cs:Array Value)(hf:P.built t (parts.map fun(i,x)=>(i,a.eval x)).toList=some cs)(h:wpList P ops Q rest (a.put o.dst (.agg cs)) w):wpList P ops Q (o::rest) a w :=
  wpList_build hg t parts ho (by rw[hf];rfl) (by rw[hf];exact h)
section
variable {P:Program}(w:World)
theorem sB{o:Oper}{a:Act}{K:Act->World->Prop}{E:Prop}(hgd:o.guard=none)(s x:Operand)(t:TypeId)(ho:o.op=.call { callee:=.builtin .append,args:=#[s,x],argTypes:=#[t,t] })(base:Nat)(e:TypeId)(i:TypeInfo)(z:Value)(size bytes:Nat)(ht:P.underlying t=some (.slice e))(hi:P.info? e=some i)(hz:i.zero=some z)(hsize:i.size=size)(hby:i.bytes=bytes)(hzs:z.cells.size=size)(hsz:0<size)(A:Option Addr)(n c:Nat)(xs:List Value)(hs:a.eval s=.slice A n c)(hown:Own w base e size A n c xs)(D:Nat->Prop)(A2:Option Addr)(m c2:Nat)(news:List Value)(hx:a.eval x=.slice A2 m c2)(hr:Row w D A2 m size news)(h1:∀u∈news,u.oneCell'=true)(h63:n+m<=maxLen)(hbytes:(n+m)*bytes<=140737488355328)(hbase:base<=w.heap.size)(h:∀A' c' w',Own w' base e size A' (n+m) c' (xs++news)->w.grownBy w' (blk A)->(blk A'=blk A\/blk A'=some w.heap.size)->K (a.put o.dst (.slice A' (n+m) c')) w'):
    if Region.wanted o (yielded ops a.tmps)=true then Oper.wp P o a w K Q else E:=by
  have hw:Region.wanted o (yielded ops a.tmps)=true:=by simp[Region.wanted,hgd]
  rw[if_pos hw]
  exact lK w s x t ho base e i z size bytes ht hi hz hsize hby hzs hsz A n c xs hs hown D A2 m c2 news hx hr h1 h63 hbytes hbase h
end
def bv(b:UInt8):Int:=b.toNat
theorem Hv(b:UInt8):0<=bv b/\bv b<=255:=by have:=b.toNat_lt;unfold bv;omega
theorem ur{a b:UInt8}(h:bv a=bv b):a=b:=by unfold bv at h;exact UInt8.toNat_inj.1 zo
def eE(b:UInt8):Value:=.int .u8 (bv b)
theorem kT(bs:List UInt8):∀u∈bs.map eE,u.oneCell'=true:=by
  intro u a;obtain⟨b,_,rfl⟩:=List.mem_map.1 a;rfl
abbrev Bs(w:World)(D:Nat->Prop)(A:Option Addr)(n:Nat)(bs:List UInt8):Prop:=Row w D A n 1 (bs.map eE)
section
variable {D E:Nat->Prop}{w w':World}{A:Option Addr}{n:Nat}{bs:List UInt8}
theorem Bs.len(h:Bs w D A n bs):bs.length=n:=by simpa using h.1
theorem Bs.cellAt(h:Bs w D A n bs)(hn:0<n):∃b off,A=some ⟨b,off,none⟩/\D b/\b<w.heap.size/\∀k (hk:k<bs.length),w.cell? ⟨b,off+k,none⟩=some (.int .u8 (bv bs[k])):=by
  obtain⟨b,off,e,hd,hl,hc⟩:=h.2 hn
  exact⟨b,off,e,hd,hl,fun k hk=>hc k _ (by rw[List.getElem?_map,List.getElem?_eq_getElem hk];rfl)⟩
theorem Bs.from_(h:Bs w D A n bs){l:Nat}(hl:l<=n):Bs w D (Option.map (fun x=>x.add l) A) (n-l) (bs.drop l):=by
  have:=Row.from_ h hl
  rw[Nat.mul_one,<- List.map_drop] at this
  exact this
theorem Bs.Qk(h:Bs w D A n bs){hi:Nat}(hh:hi<=n):Bs w D A hi (bs.take hi):=by
  have:=Row.Qk h hh
  rw[Nat.mul_one,<- List.map_take] at this
  exact this
end
abbrev fy(w:World)(base:Nat)(e:TypeId)(A:Option Addr)(n c:Nat)(bs:List UInt8):Prop:=Own w base e 1 A n c (bs.map eE)
section
variable {P:Program}{ops:Array Oper}{Q:Exit->Act->World->Prop}{md:Region.Mode}
theorem sg{S T:World->Prop}(hTS:∀w,T w->S w):∀(fuel:Nat) (listed:Array Bool) (a:Act) (w:World),wpAnyH P md ops Q T fuel listed a w->wpAnyH P md ops Q S fuel listed a w
  | 0,_,_,_,h=>h
  | fuel+1,_,_,_,h=>⟨h.1,fun i hi=>wpOp_mono (fun a' w' h'=>⟨hTS _ h'.1,sg hTS fuel _ a' w' h'.2⟩) (h.2 i hi)⟩
theorem eL{a:Act}(hm:P.follows .mixedOrders=true)(h:wpAnyH P .any ops Q (New w.drew) ops.size (Array.replicate ops.size false) a w.drew):(Code.region id ops true).wp P Q a w :=
  wp_region_held hm h
theorem D7{a:Act}(hi:ops[i]?=some oi)(hs:Region.noSelect ops=true)(hf:Region.free md ops listed i=true)(hr:(Region.ready md ops listed).contains i=true)(hQ:∀c a w,Q (.panic c) (a.put oi.dst v) w->Q (.panic c) a w)(hw:Region.wanted oi (yielded ops a.tmps)=true)(hy:∀w',New w w'->(execOp a.eval oi).run P w'=.ok (.value v) w')(h:wpAnyH P md ops Q (New w) fuel (listed.setIfInBounds i true) (a.put oi.dst v) w):wpAnyH P md ops Q (New w) (fuel+1) listed a w :=
  wpAnyH_take hi hs hf hr hQ (.inl ⟨hw,hy⟩) (zN w) h
theorem D6{a:Act}(hi:ops[i]?=some oi)(hs:Region.noSelect ops=true)(hf:Region.free md ops listed i=true)(hr:(Region.ready md ops listed).contains i=true)(hQ:∀c a w,Q (.panic c) (a.put oi.dst undef) w->Q (.panic c) a w)(hw:Region.wanted oi (yielded ops a.tmps)=false)(h:wpAnyH P md ops Q (New w) fuel (listed.setIfInBounds i true) (a.put oi.dst undef) w):wpAnyH P md ops Q (New w) (fuel+1) listed a w :=
  wpAnyH_take hi hs hf hr hQ (.inr ⟨hw,rfl⟩) (zN w) h
theorem d_{o:Oper}{a:Act}(hr:Region.ready md ops listed=[i])(ho:ops[i]?=some o)(hw:Region.wanted o (yielded ops a.tmps)=true)(h:∀K:Act->World->Prop,Hid (∀a' w',New w w'->wpAnyH P md ops Q (New w') fuel (listed.setIfInBounds i true) a' w'->K a' w')->Oper.wp P o a w K Q):wpAnyH P md ops Q (New w) (fuel+1) listed a w:=by
  refine wpAnyH_all hr (by simp) fun j hj=>?_
  have b:j=i:=by simpa using hj
  subst b
  unfold wpOp
  simp only[ho,hw,if_true]
  exact .inl (h _ (zh fun a' w' c hk=>⟨c,sg (fun d h2=>b_.new c h2) _ _ _ _ hk⟩))
end
theorem dM{g:Nat}(h:w.heap[g]?=some (.cells cs t (0,0)))(i:Nat)(u:Value):(w.setCell ⟨g,i,none⟩ u).heap[g]?=some (.cells (cs.setIfInBounds i u) t (0,0)):=by
 simp[World.setCell,Array.getElem?_modify,h]
theorem dP{g:Nat}(h:w.heap[g]?=some (.cells cs t (0,0)))(i:Nat):w.frozen? ⟨g,i,none⟩=false:=by
 simp[World.frozen?,h]
theorem Own.Qh{c:Nat}(h:Own w base e size A n c xs)(hk:New w w'):Own w' base e size A n c xs:=eP h hk (fun _ _=>zt)
theorem nV:(prog.info? 5).map (fun i=>(i.zero,i.size,i.bytes))=some (some (.int .u8 0),1,1):=zk
theorem fK{o:Oper}{a:Act}(w:World)(hgd:o.guard=none)(s x:Operand)(ho:o.op=.call { callee:=.builtin .append,args:=#[s,x],argTypes:=#[22,22] })(base:Nat)(A:Option Addr)(n c:Nat)(bs:List UInt8)(hs:a.eval s=.slice A n c)(hown:fy w base 5 A n c bs)(D:Nat->Prop)(A2:Option Addr)(m c2:Nat)(bs2:List UInt8)(hx:a.eval x=.slice A2 m c2)(hr:Bs w D A2 m bs2)(h63:n+m<=140737488355328)(hbase:base<=w.heap.size)(h:∀A' c' w',fy w' base 5 A' (n+m) c' (bs++bs2)->w.grownBy w' (blk A)->(blk A'=blk A\/blk A'=some w.heap.size)->wpList prog ops Q rest (a.put o.dst (.slice A' (n+m) c')) w'):wpList prog ops Q (o::rest) a w:=by
 obtain⟨i,hi,b,d,e⟩:=info_parts nV
 refine gW w hgd s x 22 ho base 5 i (.int .u8 0) 1 1 underlying22 hi b d e rfl Zd A n c _ hs hown D A2 m c2 _ hx hr (kT _) (by unfold maxLen;omega) zo hbase ?_
 intro A' c' w' h1 h2 h3
 rw[<- List.map_append] at h1
 exact h A' c' w' h1 h2 h3
theorem nF{o:Oper}{a:Act}{K:Act->World->Prop}{E:Prop}(w:World)(hgd:o.guard=none)(s x:Operand)(ho:o.op=.call { callee:=.builtin .append,args:=#[s,x],argTypes:=#[22,22] })(base:Nat)(A:Option Addr)(n c:Nat)(bs:List UInt8)(hs:a.eval s=.slice A n c)(hown:fy w base 5 A n c bs)(D:Nat->Prop)(A2:Option Addr)(m c2:Nat)(bs2:List UInt8)(hx:a.eval x=.slice A2 m c2)(hr:Bs w D A2 m bs2)(h63:n+m<=140737488355328)(hbase:base<=w.heap.size)(h:∀A' c' w',fy w' base 5 A' (n+m) c' (bs++bs2)->w.grownBy w' (blk A)->(blk A'=blk A\/blk A'=some w.heap.size)->K (a.put o.dst (.slice A' (n+m) c')) w'):
  if Region.wanted o (yielded ops a.tmps)=true then Oper.wp prog o a w K Q else E:=by
 obtain⟨i,hi,b,d,e⟩:=info_parts nV
 refine sB w hgd s x 22 ho base 5 i (.int .u8 0) 1 1 underlying22 hi b d e rfl Zd A n c _ hs hown D A2 m c2 _ hx hr (kT _) (by unfold maxLen;omega) zo hbase ?_
 intro A' c' w' h1 h2 h3
 rw[<- List.map_append] at h1
 exact h A' c' w' h1 h2 h3
theorem ik(D:Nat->Prop)(A:Option Addr)(n c:Nat)(bs:List UInt8)(w:World)(hB:Bs w D A n bs)(hn:n<=140737488355328):
  Calls prog 29 #[.slice A n c] w fun e w'=>(∃A' c',e=.returned (.slice A' n c')/\fy w' w.heap.size 5 A' n c' bs)/\New w w':=by
 have hq:=fun w'=>Lib.run_eql_slice_nil (P:=prog) w' 22 5 A n c 0 0 underlying22
 rcases A with _|d
 ·have h0:n=0:=by
   rcases Nat.eq_zero_or_pos n with h|h
   ·exact h
   obtain⟨_,_,e,_⟩:=hB.2 h;cases e
  subst h0
  have hb:bs=[]:=List.eq_nil_of_length_eq_zero hB.len
  subst hb
  go_in
  go_wp2
  go_ret
  exact⟨⟨_,_,rfl,Own.nil _ _ _ _⟩,zN _⟩
 go_in
 go_wp2_with (at_builtin;refine fK _ rfl _ _ rfl w.heap.size _ _ _ [] rfl (World.ownsRow_made w #[] 0 zr Zd rfl) D _ _ _ bs rfl (hB.alloc _) zo (by simp) ?_;intro A' c' w' a hg b)
 go_ret
 refine⟨⟨A',c',rfl,by simpa using a⟩,((zN w).alloc _).grown hg ?_⟩
 intro k hk _
 simp[blk] at hk
 omega
abbrev Lo(g:Nat):Nat->Prop:=fun b=>b<g
section
variable {P:Program}{ops:Array Oper}{Q:Exit->Act->World->Prop}{md:Region.Mode}
theorem eu(S:World->Prop){a:Act}(hm:P.follows .mixedOrders=true)(h:wpAnyH P .any ops Q S ops.size (Array.replicate ops.size false) a w.drew):(Code.region id ops true).wp P Q a w :=
  wp_region_held hm h
theorem Bu{S:World->Prop}{a:Act}(hS:S w)(hi:ops[i]?=some oi)(hs:Region.noSelect ops=true)(hf:Region.free md ops listed i=true)(hr:(Region.ready md ops listed).contains i=true)(hQ:∀c a w,Q (.panic c) (a.put oi.dst v) w->Q (.panic c) a w)(hw:Region.wanted oi (yielded ops a.tmps)=true)(hy:∀w',S w'->(execOp a.eval oi).run P w'=.ok (.value v) w')(h:wpAnyH P md ops Q S fuel (listed.setIfInBounds i true) (a.put oi.dst v) w):wpAnyH P md ops Q S (fuel+1) listed a w :=
  wpAnyH_take hi hs hf hr hQ (.inl ⟨hw,hy⟩) hS h
theorem Br{S:World->Prop}{a:Act}(hS:S w)(hi:ops[i]?=some oi)(hs:Region.noSelect ops=true)(hf:Region.free md ops listed i=true)(hr:(Region.ready md ops listed).contains i=true)(hQ:∀c a w,Q (.panic c) (a.put oi.dst undef) w->Q (.panic c) a w)(hw:Region.wanted oi (yielded ops a.tmps)=false)(h:wpAnyH P md ops Q S fuel (listed.setIfInBounds i true) (a.put oi.dst undef) w):wpAnyH P md ops Q S (fuel+1) listed a w :=
  wpAnyH_take hi hs hf hr hQ (.inr ⟨hw,rfl⟩) hS h
theorem dQ{S:World->Prop}{o:Oper}{a:Act}(hr:Region.ready md ops listed=[i])(ho:ops[i]?=some o)(hw:Region.wanted o (yielded ops a.tmps)=true)(h:∀K:Act->World->Prop,Hid (∀a' w',S w'->wpAnyH P md ops Q S fuel (listed.setIfInBounds i true) a' w'->K a' w')->Oper.wp P o a w K Q):wpAnyH P md ops Q S (fuel+1) listed a w:=by
  refine wpAnyH_all hr (by simp) fun j hj=>?_
  have b:j=i:=by simpa using hj
  subst b
  unfold wpOp
  simp only[ho,hw,if_true]
  exact .inl (h _ (zh fun a' w' c hk=>⟨c,hk⟩))
end
theorem xm{o:Oper}{a:Act}{K:Act->World->Prop}(w:World)(s x:Operand)(ho:o.op=.call { callee:=.builtin .append,args:=#[s,x],argTypes:=#[22,22] })(base:Nat)(A:Option Addr)(n c:Nat)(bs:List UInt8)(hs:a.eval s=.slice A n c)(hown:fy w base 5 A n c bs)(D:Nat->Prop)(A2:Option Addr)(m c2:Nat)(bs2:List UInt8)(hx:a.eval x=.slice A2 m c2)(hr:Bs w D A2 m bs2)(h63:n+m<=140737488355328)(hbase:base<=w.heap.size)(h:∀A' c' w',fy w' base 5 A' (n+m) c' (bs++bs2)->w.grownBy w' (blk A)->(blk A'=blk A\/blk A'=some w.heap.size)->K (a.put o.dst (.slice A' (n+m) c')) w'):o.wp prog a w K Q:=by
  obtain⟨i,hi,b,d,e⟩:=info_parts nV
  refine lK w s x 22 ho base 5 i (.int .u8 0) 1 1 underlying22 hi b d e rfl Zd A n c _ hs hown D A2 m c2 _ hx hr (kT _) (by unfold maxLen;omega) zo hbase ?_
  intro A' c' w' h1 h2 h3
  rw[<- List.map_append] at h1
  exact h A' c' w' h1 h2 h3
theorem ly1{α:Type}{xs:List α}(h:i<xs.toArray.size):xs.toArray[i]=xs[i]'(by simpa using h):=List.getElem_toArray h
theorem ly2{α:Type}{a:α}{xs:List α}(h:i+1<(a::xs).length):(a::xs)[i+1]=xs[i]'(Nat.lt_of_succ_lt_succ h):=List.getElem_cons_succ a xs i h
theorem ly3{α:Type}{a:α}{xs:List α}(h:0<(a::xs).length):(a::xs)[0]=a:=List.getElem_cons_zero a xs h
theorem ly4{α:Type}{l:List α}{a:α}:l.toArray.setIfInBounds i a=(l.set i a).toArray:=List.setIfInBounds_toArray ..
theorem ly5{α:Type}{x a:α}{xs:List α}:(x::xs).set 0 a=a::xs:=List.set_cons_zero
theorem ly6{α:Type}{x a:α}{xs:List α}:(x::xs).set (i+1) a=x::xs.set i a:=List.set_cons_succ
theorem zy:(∀{α:Type}{xs:List α}{i:Nat}(h:i<xs.toArray.size),xs.toArray[i]=xs[i]'(by simpa using h))/\(∀{α:Type}{a:α}{xs:List α}{i:Nat}(h:i+1<(a::xs).length),(a::xs)[i+1]=xs[i]'(Nat.lt_of_succ_lt_succ h))/\(∀{α:Type}{a:α}{xs:List α}(h:0<(a::xs).length),(a::xs)[0]=a)/\(∀{α:Type}{l:List α}{i:Nat}{a:α},l.toArray.setIfInBounds i a=(l.set i a).toArray)/\(∀{α:Type}{x a:α}{xs:List α},(x::xs).set 0 a=a::xs)/\(∀{α:Type}{x a:α}{xs:List α}{i:Nat},(x::xs).set (i+1) a=x::xs.set i a)/\(∀(a:Act)(d:Tmp)(v:Value),a.put (some d) v={a with tmps:=a.tmps.setIfInBounds d v})/\(∀(a:Act)(v:Value),a.put none v=a):=⟨ly1,ly2,ly3,ly4,ly5,ly6,fun _ _ _=>rfl,fun _ _=>rfl⟩
section
variable {P:Program}{ops:Array Oper}{Q:Exit->Act->World->Prop}{md:Region.Mode}{fuel:Nat}{listed:Array Bool}{a:Act}{w:World}
theorem cL(i:Nat)(h:wpAnyH P md ops Q (New w) fuel (listed.setIfInBounds i true) a' w)(hi:ops[i]?=some oi:=by rfl)(hs:Region.noSelect ops=true:=by kernel_rfl)(hf:Region.free md ops listed i=true:=by kernel_rfl)(hr:(Region.ready md ops listed).contains i=true:=by kernel_rfl)(hQ:∀c a w,Q (.panic c) (a.put oi.dst v) w->Q (.panic c) a w:=by exact fun _ _ _ h=>h)(hw:Region.wanted oi (yielded ops a.tmps)=true:=by rfl)(hy:∀w',New w w'->(execOp a.eval oi).run P w'=.ok (.value v) w':=by intro w' hN;go_simp;try with_reducible rfl)(ha:a.put oi.dst v=a':=by (conv=>lhs;simp only[Act.put,List.getElem_toArray,List.getElem_cons_succ,List.getElem_cons_zero,List.setIfInBounds_toArray,List.set_cons_zero,List.set_cons_succ]);try exact rfl):wpAnyH P md ops Q (New w) (fuel+1) listed a w :=
  D7 hi hs hf hr hQ hw hy (ha▸h)
theorem gc(i:Nat)(h:wpAnyH P md ops Q (New w) fuel (listed.setIfInBounds i true) a' w)(hi:ops[i]?=some oi:=by rfl)(hs:Region.noSelect ops=true:=by kernel_rfl)(hf:Region.free md ops listed i=true:=by kernel_rfl)(hr:(Region.ready md ops listed).contains i=true:=by kernel_rfl)(hQ:∀c a w,Q (.panic c) (a.put oi.dst undef) w->Q (.panic c) a w:=by exact fun _ _ _ h=>h)(hw:Region.wanted oi (yielded ops a.tmps)=false:=by rfl)(ha:a.put oi.dst undef=a':=by (conv=>lhs;simp only[Act.put,List.getElem_toArray,List.getElem_cons_succ,List.getElem_cons_zero,List.setIfInBounds_toArray,List.set_cons_zero,List.set_cons_succ]);try exact rfl):wpAnyH P md ops Q (New w) (fuel+1) listed a w :=
  D6 hi hs hf hr hQ hw (ha▸h)
theorem c_(i:Nat){S:World->Prop}(hS:S w)(h:wpAnyH P md ops Q S fuel (listed.setIfInBounds i true) a' w)(hi:ops[i]?=some oi:=by rfl)(hs:Region.noSelect ops=true:=by kernel_rfl)(hf:Region.free md ops listed i=true:=by kernel_rfl)(hr:(Region.ready md ops listed).contains i=true:=by kernel_rfl)(hQ:∀c a w,Q (.panic c) (a.put oi.dst v) w->Q (.panic c) a w:=by exact fun _ _ _ h=>h)(hw:Region.wanted oi (yielded ops a.tmps)=true:=by rfl)(hy:∀w',S w'->(execOp a.eval oi).run P w'=.ok (.value v) w':=by intro w' hN;go_simp;try with_reducible rfl)(ha:a.put oi.dst v=a':=by (conv=>lhs;simp only[Act.put,List.getElem_toArray,List.getElem_cons_succ,List.getElem_cons_zero,List.setIfInBounds_toArray,List.set_cons_zero,List.set_cons_succ]);try exact rfl):wpAnyH P md ops Q S (fuel+1) listed a w :=
  Bu hS hi hs hf hr hQ hw hy (ha▸h)
theorem JK(i:Nat){S:World->Prop}(hS:S w)(h:wpAnyH P md ops Q S fuel (listed.setIfInBounds i true) a' w)(hi:ops[i]?=some oi:=by rfl)(hs:Region.noSelect ops=true:=by kernel_rfl)(hf:Region.free md ops listed i=true:=by kernel_rfl)(hr:(Region.ready md ops listed).contains i=true:=by kernel_rfl)(hQ:∀c a w,Q (.panic c) (a.put oi.dst undef) w->Q (.panic c) a w:=by exact fun _ _ _ h=>h)(hw:Region.wanted oi (yielded ops a.tmps)=false:=by rfl)(ha:a.put oi.dst undef=a':=by (conv=>lhs;simp only[Act.put,List.getElem_toArray,List.getElem_cons_succ,List.getElem_cons_zero,List.setIfInBounds_toArray,List.set_cons_zero,List.set_cons_succ]);try exact rfl):wpAnyH P md ops Q S (fuel+1) listed a w :=
  Br hS hi hs hf hr hQ hw (ha▸h)
end
def wv(x:BitVec 32):Int:=x.toNat
theorem uY(x:BitVec 32):0<=wv x/\wv x<=4294967295:=by have:=x.isLt;unfold wv;omega
theorem H'{x y:BitVec 32}(h:wv x=wv y):x=y:=by unfold wv at h;exact BitVec.eq_of_toNat_eq zo
def bw(b:UInt8):BitVec 32:=BitVec.ofNat 32 b.toNat
theorem vU(b:UInt8):bv b=wv (bw b):=by
 unfold bv wv bw;have:=b.toNat_lt;rw[BitVec.toNat_ofNat,Nat.mod_eq_of_lt zo]
@[go_sem] theorem wh(x y:BitVec 32):bits .xor .u32 (wv x) (wv y)=wv (x ^^^ y):=by
 unfold wv;rw[u32_xor_nat _ _ x.isLt y.isLt,BitVec.toNat_xor]
@[go_sem] theorem Ia(x y:BitVec 32):bits .and .u32 (wv x) (wv y)=wv (x &&& y):=by
 unfold wv;rw[u32_and_nat _ _ x.isLt y.isLt,BitVec.toNat_and]
@[go_sem] theorem Hr(x y:BitVec 32):bits .or .u32 (wv x) (wv y)=wv (x ||| y):=by
 unfold wv;rw[u32_or_nat _ _ x.isLt y.isLt,BitVec.toNat_or]
@[go_sem] theorem Jv(x:BitVec 32):bits .and .u32 (wv x) 1=wv (x &&& 1#32):=Ia x 1#32
@[go_sem] theorem Jh(x:BitVec 32):bits .xor .u32 (wv x) 3988292384=wv (x ^^^ 3988292384#32):=wh x 3988292384#32
@[go_sem] theorem Ji(x:BitVec 32):bits .xor .u32 (wv x) 4294967295=wv (~~~x):=by
 have h:(4294967295:Int)=wv (BitVec.allOnes 32):=Zd
 rw[h,wh,BitVec.xor_allOnes]
@[go_sem] theorem H8(x:BitVec 32):bits .xor .u32 IntKind.u32.max (wv x)=wv (~~~x):=by
 have h:IntKind.u32.max=wv (BitVec.allOnes 32):=Zd
 rw[h,wh,BitVec.allOnes_xor]
@[go_sem] theorem Jt(x:BitVec 32):bits .xor .u32 (if IntKind.u32.signed=true then -1 else IntKind.u32.max) (wv x)=wv (~~~x):=H8 x
@[go_sem] theorem Jj(x:BitVec 32)(b:UInt8):bits .xor .u32 (wv x) (bv b)=wv (x ^^^ bw b):=by rw[vU,wh]
@[go_sem] theorem Hy(x:BitVec 32)(b:UInt8):bits .or .u32 (wv x) (bv b)=wv (x ||| bw b):=by rw[vU,Hr]
theorem zS(x:BitVec 32)(n:Nat):wv x/((2^n:Nat):Int)=wv (x >>> n):=by
 unfold wv;rw[BitVec.toNat_ushiftRight,Nat.shiftRight_eq_div_pow];exact(Int.natCast_ediv _ _).symm
theorem GB(x:BitVec 32)(n:Nat):IntKind.u32.wrap (wv x*((2^n:Nat):Int))=wv (x <<< n):=by
 unfold wv
 rw[IntKind.wrap_u32,BitVec.toNat_shiftLeft,Nat.shiftLeft_eq,<- Int.natCast_mul]
 exact(Int.natCast_emod _ _).symm
theorem j7(x:BitVec 32)(yk:IntKind)(n:Nat)(hn:n<=32):Op.shift .shr .u32 (wv x) yk (n:Int)=pure (.int .u32 (wv (x >>> n))) :=
 (shift_shr_u32 (x:=wv x) (yk:=yk) (y:=(n:Int)) zo zo).trans (congrArg (fun z=>pure (Value.int .u32 z)) (by rw[Int.toNat_natCast,<- zS];simp))
theorem j8(x:BitVec 32)(yk:IntKind)(n:Nat)(hn:n<=32):Op.shift .shl .u32 (wv x) yk (n:Int)=pure (.int .u32 (wv (x <<< n))) :=
 (shift_shl_u32 (x:=wv x) (yk:=yk) (y:=(n:Int)) zo zo).trans (congrArg (fun z=>pure (Value.int .u32 z)) (by rw[Int.toNat_natCast,<- GB];simp))
@[go_sem ↓] theorem Jp(x:BitVec 32)(yk:IntKind):Op.shift .shr .u32 (wv x) yk 1=pure (.int .u32 (wv (x >>> 1))):=j7 x yk 1 Zd
@[go_sem ↓] theorem Jo(x:BitVec 32)(yk:IntKind):Op.shift .shr .u32 (wv x) yk 2=pure (.int .u32 (wv (x >>> 2))):=j7 x yk 2 Zd
@[go_sem ↓] theorem Jn(x:BitVec 32)(yk:IntKind):Op.shift .shr .u32 (wv x) yk 3=pure (.int .u32 (wv (x >>> 3))):=j7 x yk 3 Zd
@[go_sem ↓] theorem Jm(x:BitVec 32)(yk:IntKind):Op.shift .shr .u32 (wv x) yk 6=pure (.int .u32 (wv (x >>> 6))):=j7 x yk 6 Zd
@[go_sem ↓] theorem Jl(x:BitVec 32)(yk:IntKind):Op.shift .shr .u32 (wv x) yk 7=pure (.int .u32 (wv (x >>> 7))):=j7 x yk 7 Zd
@[go_sem ↓] theorem Jk(x:BitVec 32)(yk:IntKind):Op.shift .shr .u32 (wv x) yk 8=pure (.int .u32 (wv (x >>> 8))):=j7 x yk 8 Zd
@[go_sem ↓] theorem IH(x:BitVec 32)(yk:IntKind):Op.shift .shr .u32 (wv x) yk 10=pure (.int .u32 (wv (x >>> 10))):=j7 x yk 10 Zd
@[go_sem ↓] theorem IG(x:BitVec 32)(yk:IntKind):Op.shift .shr .u32 (wv x) yk 11=pure (.int .u32 (wv (x >>> 11))):=j7 x yk 11 Zd
@[go_sem ↓] theorem IF(x:BitVec 32)(yk:IntKind):Op.shift .shr .u32 (wv x) yk 13=pure (.int .u32 (wv (x >>> 13))):=j7 x yk 13 Zd
@[go_sem ↓] theorem IE(x:BitVec 32)(yk:IntKind):Op.shift .shr .u32 (wv x) yk 16=pure (.int .u32 (wv (x >>> 16))):=j7 x yk 16 Zd
@[go_sem ↓] theorem ID(x:BitVec 32)(yk:IntKind):Op.shift .shr .u32 (wv x) yk 17=pure (.int .u32 (wv (x >>> 17))):=j7 x yk 17 Zd
@[go_sem ↓] theorem IC(x:BitVec 32)(yk:IntKind):Op.shift .shr .u32 (wv x) yk 18=pure (.int .u32 (wv (x >>> 18))):=j7 x yk 18 Zd
@[go_sem ↓] theorem IB(x:BitVec 32)(yk:IntKind):Op.shift .shr .u32 (wv x) yk 19=pure (.int .u32 (wv (x >>> 19))):=j7 x yk 19 Zd
@[go_sem ↓] theorem IA(x:BitVec 32)(yk:IntKind):Op.shift .shr .u32 (wv x) yk 22=pure (.int .u32 (wv (x >>> 22))):=j7 x yk 22 Zd
@[go_sem ↓] theorem Iz(x:BitVec 32)(yk:IntKind):Op.shift .shr .u32 (wv x) yk 24=pure (.int .u32 (wv (x >>> 24))):=j7 x yk 24 Zd
@[go_sem ↓] theorem Iy(x:BitVec 32)(yk:IntKind):Op.shift .shr .u32 (wv x) yk 25=pure (.int .u32 (wv (x >>> 25))):=j7 x yk 25 Zd
@[go_sem ↓] theorem Jq(x:BitVec 32)(yk:IntKind):Op.shift .shl .u32 (wv x) yk 8=pure (.int .u32 (wv (x <<< 8))):=j8 x yk 8 Zd
@[go_sem ↓] theorem IP(x:BitVec 32)(yk:IntKind):Op.shift .shl .u32 (wv x) yk 16=pure (.int .u32 (wv (x <<< 16))):=j8 x yk 16 Zd
@[go_sem ↓] theorem IL(x:BitVec 32)(yk:IntKind):Op.shift .shl .u32 (wv x) yk 24=pure (.int .u32 (wv (x <<< 24))):=j8 x yk 24 Zd
@[go_sem ↓] theorem II(x:BitVec 32)(yk:IntKind):Op.shift .shl .u32 (wv x) yk 30=pure (.int .u32 (wv (x <<< 30))):=j8 x yk 30 Zd
@[go_sem ↓] theorem IJ(x:BitVec 32)(yk:IntKind):Op.shift .shl .u32 (wv x) yk 26=pure (.int .u32 (wv (x <<< 26))):=j8 x yk 26 Zd
@[go_sem ↓] theorem IK(x:BitVec 32)(yk:IntKind):Op.shift .shl .u32 (wv x) yk 25=pure (.int .u32 (wv (x <<< 25))):=j8 x yk 25 Zd
@[go_sem ↓] theorem IM(x:BitVec 32)(yk:IntKind):Op.shift .shl .u32 (wv x) yk 21=pure (.int .u32 (wv (x <<< 21))):=j8 x yk 21 Zd
@[go_sem ↓] theorem IN(x:BitVec 32)(yk:IntKind):Op.shift .shl .u32 (wv x) yk 19=pure (.int .u32 (wv (x <<< 19))):=j8 x yk 19 Zd
@[go_sem ↓] theorem IQ(x:BitVec 32)(yk:IntKind):Op.shift .shl .u32 (wv x) yk 15=pure (.int .u32 (wv (x <<< 15))):=j8 x yk 15 Zd
@[go_sem ↓] theorem IR(x:BitVec 32)(yk:IntKind):Op.shift .shl .u32 (wv x) yk 14=pure (.int .u32 (wv (x <<< 14))):=j8 x yk 14 Zd
@[go_sem ↓] theorem IS(x:BitVec 32)(yk:IntKind):Op.shift .shl .u32 (wv x) yk 13=pure (.int .u32 (wv (x <<< 13))):=j8 x yk 13 Zd
@[go_sem ↓] theorem IT(x:BitVec 32)(yk:IntKind):Op.shift .shl .u32 (wv x) yk 10=pure (.int .u32 (wv (x <<< 10))):=j8 x yk 10 Zd
@[go_sem ↓] theorem Jr(x:BitVec 32)(yk:IntKind):Op.shift .shl .u32 (wv x) yk 7=pure (.int .u32 (wv (x <<< 7))):=j8 x yk 7 Zd
@[go_sem ↓] theorem Jy(b:UInt8)(yk:IntKind):Op.shift .shl .u32 (bv b) yk 8=pure (.int .u32 (wv (bw b <<< 8))):=by rw[vU];exact j8 _ yk 8 Zd
@[go_sem ↓] theorem I9(b:UInt8)(yk:IntKind):Op.shift .shl .u32 (bv b) yk 16=pure (.int .u32 (wv (bw b <<< 16))):=by rw[vU];exact j8 _ yk 16 Zd
@[go_sem ↓] theorem I8(b:UInt8)(yk:IntKind):Op.shift .shl .u32 (bv b) yk 24=pure (.int .u32 (wv (bw b <<< 24))):=by rw[vU];exact j8 _ yk 24 Zd
@[go_sem] theorem Ib(x y:BitVec 32):IntKind.u32.wrap (wv x+wv y)=wv (x+y):=by
 unfold wv;rw[IntKind.wrap_u32,BitVec.toNat_add];omega
@[go_sem] theorem Jw(x y:BitVec 32):(wv x+wv y)%4294967296=wv (x+y):=by rw[<- Ib,IntKind.wrap_u32]
@[go_sem] theorem Gc(b:UInt8):bv b%4294967296=bv b:=by have:=Hv b;omega
@[go_sem] theorem Ix(b:UInt8):IntKind.u32.wrap (bv b)=bv b:=by rw[IntKind.wrap_u32,Gc]
@[go_sem] theorem Jz(x:BitVec 32):(wv x==1)=decide (x=1#32):=by
 have h:(1:Int)=wv 1#32:=rfl
 rw[h]
 by_cases e:x=1#32
 ·subst e;rfl
 have:wv x≠wv 1#32:=fun e'=>e (H' e')
 simp only[e,decide_false,beq_eq_false_iff_ne,ne_eq,this,not_false_eq_true]
@[go_sem] theorem Js(b:UInt8):bits .or .u32 0 (bv b)=wv (bw b):=by
 have h:(0:Int)=wv 0#32:=rfl
 rw[h,Hy,BitVec.zero_or]
@[go_sem] theorem JA(b:UInt8)(y:BitVec 32):bits .or .u32 (bv b) (wv y)=wv (bw b ||| y):=by rw[vU,Hr]
def Ce(a b c d:UInt8):BitVec 32:=bw a <<< 24 ||| bw b <<< 16 ||| bw c <<< 8 ||| bw d
theorem CP(a b c d:UInt8):bw d ||| bw c <<< 8 ||| bw b <<< 16 ||| bw a <<< 24=Ce a b c d:=by
 unfold Ce
 apply BitVec.eq_of_getLsbD_eq
 intro i _
 simp only[BitVec.getLsbD_or]
 cases (bw d).getLsbD i <;> cases (bw c <<< 8).getLsbD i <;> cases (bw b <<< 16).getLsbD i <;> cases (bw a <<< 24).getLsbD i <;> rfl
def mV(x:BitVec 32):UInt8:=UInt8.ofNat (x.toNat%256)
@[go_sem] theorem H_(x:BitVec 32):wv x%256=bv (mV x):=by
 unfold wv bv mV
 rw[UInt8.toNat_ofNat_of_lt' (Nat.mod_lt _ Zd)]
 simp
@[go_sem] theorem Ju(x:BitVec 32):IntKind.u8.wrap (wv x)=bv (mV x):=by rw[<- H_];simp[IntKind.wrap,IntKind.bits,IntKind.signed]
def be4(x:BitVec 32):List UInt8:=[mV (x >>> 24),mV (x >>> 16),mV (x >>> 8),mV x]
def l5(x:BitVec 32)(n:Nat):BitVec 32:=(x <<< (32-n)) ||| (x >>> n)
theorem JD(x:BitVec 32)(w:World):Calls prog 319 #[.int .u32 (wv x),.int .i64 (-2)] w fun e w'=>e=.returned (.int .u32 (wv (l5 x 2)))/\w=w':=by
 have hk:bits BinOp.and IntKind.u64 (IntKind.u64.wrap (-2)) 31=30:=by decide
 go_in
 go_wp2
 go_ret
 exact⟨rfl,rfl⟩
theorem JC(x:BitVec 32)(w:World):Calls prog 319 #[.int .u32 (wv x),.int .i64 (-6)] w fun e w'=>e=.returned (.int .u32 (wv (l5 x 6)))/\w=w':=by
 have hk:bits BinOp.and IntKind.u64 (IntKind.u64.wrap (-6)) 31=26:=by decide
 go_in
 go_wp2
 go_ret
 exact⟨rfl,rfl⟩
theorem JB(x:BitVec 32)(w:World):Calls prog 319 #[.int .u32 (wv x),.int .i64 (-7)] w fun e w'=>e=.returned (.int .u32 (wv (l5 x 7)))/\w=w':=by
 have hk:bits BinOp.and IntKind.u64 (IntKind.u64.wrap (-7)) 31=25:=by decide
 go_in
 go_wp2
 go_ret
 exact⟨rfl,rfl⟩
theorem I3(x:BitVec 32)(w:World):Calls prog 319 #[.int .u32 (wv x),.int .i64 (-11)] w fun e w'=>e=.returned (.int .u32 (wv (l5 x 11)))/\w=w':=by
 have hk:bits BinOp.and IntKind.u64 (IntKind.u64.wrap (-11)) 31=21:=by decide
 go_in
 go_wp2
 go_ret
 exact⟨rfl,rfl⟩
theorem I2(x:BitVec 32)(w:World):Calls prog 319 #[.int .u32 (wv x),.int .i64 (-13)] w fun e w'=>e=.returned (.int .u32 (wv (l5 x 13)))/\w=w':=by
 have hk:bits BinOp.and IntKind.u64 (IntKind.u64.wrap (-13)) 31=19:=by decide
 go_in
 go_wp2
 go_ret
 exact⟨rfl,rfl⟩
theorem I1(x:BitVec 32)(w:World):Calls prog 319 #[.int .u32 (wv x),.int .i64 (-17)] w fun e w'=>e=.returned (.int .u32 (wv (l5 x 17)))/\w=w':=by
 have hk:bits BinOp.and IntKind.u64 (IntKind.u64.wrap (-17)) 31=15:=by decide
 go_in
 go_wp2
 go_ret
 exact⟨rfl,rfl⟩
theorem IZ(x:BitVec 32)(w:World):Calls prog 319 #[.int .u32 (wv x),.int .i64 (-18)] w fun e w'=>e=.returned (.int .u32 (wv (l5 x 18)))/\w=w':=by
 have hk:bits BinOp.and IntKind.u64 (IntKind.u64.wrap (-18)) 31=14:=by decide
 go_in
 go_wp2
 go_ret
 exact⟨rfl,rfl⟩
theorem IY(x:BitVec 32)(w:World):Calls prog 319 #[.int .u32 (wv x),.int .i64 (-19)] w fun e w'=>e=.returned (.int .u32 (wv (l5 x 19)))/\w=w':=by
 have hk:bits BinOp.and IntKind.u64 (IntKind.u64.wrap (-19)) 31=13:=by decide
 go_in
 go_wp2
 go_ret
 exact⟨rfl,rfl⟩
theorem IX(x:BitVec 32)(w:World):Calls prog 319 #[.int .u32 (wv x),.int .i64 (-22)] w fun e w'=>e=.returned (.int .u32 (wv (l5 x 22)))/\w=w':=by
 have hk:bits BinOp.and IntKind.u64 (IntKind.u64.wrap (-22)) 31=10:=by decide
 go_in
 go_wp2
 go_ret
 exact⟨rfl,rfl⟩
theorem IW(x:BitVec 32)(w:World):Calls prog 319 #[.int .u32 (wv x),.int .i64 (-25)] w fun e w'=>e=.returned (.int .u32 (wv (l5 x 25)))/\w=w':=by
 have hk:bits BinOp.and IntKind.u64 (IntKind.u64.wrap (-25)) 31=7:=by decide
 go_in
 go_wp2
 go_ret
 exact⟨rfl,rfl⟩
def Cn:List Nat:=[0x428a2f98,0x71374491,0xb5c0fbcf,0xe9b5dba5,0x3956c25b,0x59f111f1,0x923f82a4,0xab1c5ed5,0xd807aa98,0x12835b01,0x243185be,0x550c7dc3,0x72be5d74,0x80deb1fe,0x9bdc06a7,0xc19bf174,0xe49b69c1,0xefbe4786,0x0fc19dc6,0x240ca1cc,0x2de92c6f,0x4a7484aa,0x5cb0a9dc,0x76f988da,0x983e5152,0xa831c66d,0xb00327c8,0xbf597fc7,0xc6e00bf3,0xd5a79147,0x06ca6351,0x14292967,0x27b70a85,0x2e1b2138,0x4d2c6dfc,0x53380d13,0x650a7354,0x766a0abb,0x81c2c92e,0x92722c85,0xa2bfe8a1,0xa81a664b,0xc24b8b70,0xc76c51a3,0xd192e819,0xd6990624,0xf40e3585,0x106aa070,0x19a4c116,0x1e376c08,0x2748774c,0x34b0bcb5,0x391c0cb3,0x4ed8aa4a,0x5b9cca4f,0x682e6ff3,0x748f82ee,0x78a5636f,0x84c87814,0x8cc70208,0x90befffa,0xa4506ceb,0xbef9a3f7,0xc67178f2]
def ua:List Nat:=[0x6a09e667,0xbb67ae85,0x3c6ef372,0xa54ff53a,0x510e527f,0x9b05688c,0x1f83d9ab,0x5be0cd19]
def kAt(j:Nat):BitVec 32:=BitVec.ofNat 32 (Cn.getD j 0)
def hAt(j:Nat):BitVec 32:=BitVec.ofNat 32 (ua.getD j 0)
def IV(x:BitVec 32):BitVec 32:=l5 x 7 ^^^ l5 x 18 ^^^ x >>> 3
def IU(x:BitVec 32):BitVec 32:=l5 x 17 ^^^ l5 x 19 ^^^ x >>> 10
def JJ(x:BitVec 32):BitVec 32:=l5 x 2 ^^^ l5 x 13 ^^^ l5 x 22
def JI(x:BitVec 32):BitVec 32:=l5 x 6 ^^^ l5 x 11 ^^^ l5 x 25
def chf(e f g:BitVec 32):BitVec 32:=(e &&& f) ^^^ (~~~e &&& g)
def maj(a b c:BitVec 32):BitVec 32:=(a &&& b) ^^^ (a &&& c) ^^^ (b &&& c)
def mj(bs:List UInt8)(j:Nat):BitVec 32:=Ce (bs.getD (4*j) 0) (bs.getD (4*j+1) 0) (bs.getD (4*j+2) 0) (bs.getD (4*j+3) 0)
def ly(bs:List UInt8)(j:Nat):BitVec 32 :=
 if j<16 then mj bs j
 else ly bs (j-16)+IV (ly bs (j-15))+ly bs (j-7)+IU (ly bs (j-2))
 termination_by j
theorem ES(bs:List UInt8)(h:j<16):ly bs j=mj bs j:=by rw[ly,if_pos h]
theorem ET(bs:List UInt8)(h:16<=j):ly bs j=ly bs (j-16)+IV (ly bs (j-15))+ly bs (j-7)+IU (ly bs (j-2)):=by
 rw[ly,if_neg zo]
structure S8 where
 a:BitVec 32
 b:BitVec 32
 c:BitVec 32
 d:BitVec 32
 e:BitVec 32
 f:BitVec 32
 g:BitVec 32
 h:BitVec 32
def S8.of(s:Nat->BitVec 32):S8:=⟨s 0,s 1,s 2,s 3,s 4,s 5,s 6,s 7⟩
def S8.get(s:S8)(j:Nat):BitVec 32 :=
 if j=0 then s.a else if j=1 then s.b else if j=2 then s.c else if j=3 then s.d else if j=4 then s.e else if j=5 then s.f else if j=6 then s.g else s.h
def S8.t1(s:S8)(k w:BitVec 32):BitVec 32:=s.h+JI s.e+chf s.e s.f s.g+k+w
def S8.t2(s:S8):BitVec 32:=JJ s.a+maj s.a s.b s.c
def S8.round(s:S8)(k w:BitVec 32):S8:=⟨s.t1 k w+s.t2,s.a,s.b,s.c,s.d+s.t1 k w,s.e,s.f,s.g⟩
def S8.rounds(s:S8)(bs:List UInt8):Nat->S8
 | 0=>s
 | n+1=>(S8.rounds s bs n).round (kAt n) (ly bs n)
def lS(s:Nat->BitVec 32)(bs:List UInt8)(j:Nat):BitVec 32:=s j+((S8.of s).rounds bs 64).get j
def i9(s:Nat->BitVec 32)(bs:List UInt8):Nat->Nat->BitVec 32
 | 0=>s
 | n+1=>lS (i9 s bs n) ((bs.drop (64*n)).take 64)
def be8(n:Nat):List UInt8:=(List.range 8).map fun i=>UInt8.ofNat (n/256^(7-i)%256)
def jm(n:Nat):Nat:=(119-n%64)%64
def oK(bs:List UInt8):List UInt8:=bs++[0x80]++List.replicate (jm bs.length) 0++be8 (bs.length*8)
def sZ(s:Nat->BitVec 32):List UInt8:=(List.range 8).flatMap fun j=>be4 (s j)
def gL(bs:List UInt8):List UInt8:=sZ (i9 hAt (oK bs) ((oK bs).length/64))
theorem gy(bs:List UInt8):(gL bs).length=32:=rfl
theorem pP(s:Nat->BitVec 32)(a b:List UInt8):∀n,64*n<=a.length->i9 s (a++b) n=i9 s a n
 | 0,_=>rfl
 | n+1,h=>by
  show lS (i9 s (a++b) n) _=lS (i9 s a n) _
  rw[pP s a b n zo,List.drop_append_of_le_length zo,List.take_append_of_le_length (by rw[List.length_drop];omega)]
theorem oQ(s:Nat->BitVec 32)(done blk:List UInt8)(m:Nat)(hd:done.length=64*m)(hb:blk.length=64):i9 s (done++blk) (m+1)=lS (i9 s done m) blk:=by
 show lS (i9 s (done++blk) m) _=_
 rw[pP s done blk m zo,<- hd,List.drop_left,List.take_of_length_le zo]
def h_(w:World)(q o n:Nat)(f:Nat->BitVec 32):Prop:=∀j,j<n->w.cell? ⟨q,o+j,none⟩=some (.int .u32 (wv (f j)))/\w.frozen? ⟨q,o+j,none⟩=false
section
variable {w w':World}{q o n:Nat}{f g:Nat->BitVec 32}
theorem h_.cell(h:h_ w q o n f){j:Nat}(hj:j<n):w.cell? ⟨q,o+j,none⟩=some (.int .u32 (wv (f j))):=(h j hj).1
theorem h_.free(h:h_ w q o n f)(hj:j<n):w.frozen? ⟨q,o+j,none⟩=false:=(h j hj).2
theorem h_.cell0(h:h_ w q 0 n f)(hj:j<n):w.cell? ⟨q,j,none⟩=some (.int .u32 (wv (f j))):=by have:=h.cell hj;rwa[Nat.zero_add] at this
theorem h_.free0(h:h_ w q 0 n f)(hj:j<n):w.frozen? ⟨q,j,none⟩=false:=by have:=h.free hj;rwa[Nat.zero_add] at this
theorem h_.congr(h:h_ w q o n f)(hg:∀j,j<n->f j=g j):h_ w q o n g:=fun j hj=>by rw[<- hg j hj];exact h j hj
theorem h_.lt(h:h_ w q o n f)(hn:0<n):q<w.heap.size:=World.block_lt_of_cell? w _ (h.cell hn)
theorem h_.keep(h:h_ w q o n f)(hk:b_ D w w')(hd:D q):h_ w' q o n f:=fun j hj=>by
 have hq:q<w.heap.size:=World.block_lt_of_cell? w _ (h.cell hj)
 exact⟨(hk.cell (p:=⟨q,o+j,none⟩) hq hd).trans (h.cell hj),(hk.frozen (p:=⟨q,o+j,none⟩) hq hd).trans (h.free hj)⟩
theorem h_.drewN(h:h_ w q o n f)(k:Nat):h_ (w.drewN k) q o n f:=h
theorem h_.set(h:h_ w q o n f)(hk:k<n)(x:BitVec 32):h_ (w.setCell ⟨q,o+k,none⟩ (.int .u32 (wv x))) q o n (fun j=>if j=k then x else f j):=fun j hj=>by
 refine⟨?_,(World.frozen?_setCell _ _ _ _).trans (h.free hj)⟩
 by_cases e:j=k
 ·subst e;dsimp only;rw[if_pos rfl];exact World.cell?_setCell_same _ _ _ (h.cell hj)
 dsimp only;rw[if_neg e,World.cell?_setCell_other _ _ _ _ (by intro hh;injection hh;omega)];exact h.cell hj
theorem h_.set0(h:h_ w q 0 n f)(hk:k<n)(x:BitVec 32):h_ (w.setCell ⟨q,k,none⟩ (.int .u32 (wv x))) q 0 n (fun j=>if j=k then x else f j):=by
 have:=h.set hk x;rwa[Nat.zero_add] at this
theorem h_.far(h:h_ w q o n f){p:Addr}(hp:p.block≠q\/p.off<o\/o+n<=p.off)(u:Value):h_ (w.setCell p u) q o n f:=fun j hj=>by
 refine⟨?_,(World.frozen?_setCell _ _ _ _).trans (h.free hj)⟩
 rw[World.cell?_setCell_other _ _ _ _ (by rintro rfl;simp at hp;omega)];exact h.cell hj
theorem lQ(w:World)(cs:Array Value)(t j:Nat):(w.alloc (.cells cs t)).frozen? ⟨w.heap.size,j,none⟩=false:=by
 have hh:=heap_alloc_new w (.cells cs t)
 unfold World.frozen?
 rw[hh]
 simp
theorem h_.zero(w:World)(t n:Nat):h_ (w.alloc (.cells (List.replicate n (Value.int .u32 0)).toArray t)) w.heap.size 0 n (fun _=>0#32):=fun j hj=>by
 refine⟨?_,lQ w _ t _⟩
 rw[cell_of_row _ _ _ _ t (0,0) (heap_alloc_new w _)]
 simp[hj];rfl
theorem S8.made8(w:World)(t:Nat)(S:S8):h_ (w.alloc (.cells #[.int .u32 (wv S.a),.int .u32 (wv S.b),.int .u32 (wv S.c),.int .u32 (wv S.d),.int .u32 (wv S.e),.int .u32 (wv S.f),.int .u32 (wv S.g),.int .u32 (wv S.h)] t)) w.heap.size 0 8 S.get:=fun j hj=>by
 refine⟨?_,lQ w _ t _⟩
 rw[cell_of_row _ _ _ _ t (0,0) (heap_alloc_new w _)]
 match j,hj with
 | 0,_=>rfl
 | 1,_=>rfl
 | 2,_=>rfl
 | 3,_=>rfl
 | 4,_=>rfl
 | 5,_=>rfl
 | 6,_=>rfl
 | 7,_=>rfl
end
