/-
  PROVED HERE: texts that belong together, one behind the other; what each proves, and under which conditions, its own opening remark says: ChainMem, Hold4, Hold5, Elt, Float, HoldW, Elt2.
-/
import Derived.Test.YtdodbdednpnddaaGreatDoorPkT15
import Derived.Test.YtdodbdednpnddaaGreatDoorPkT16
namespace Go.Proofs.YtdodbdednpnddaaGreatDoor
open Go.RowKit
section
variable {w w':World}{base:Nat}{A A':Option Addr}{n c n' c':Nat}{ls:List (List UInt8)}{rs:List RecP}
end
theorem fits_right:∀ {left:Nat}{rs:List RecP},(∀ r∈rs,recRight r=true)→(leavesOf rs).flatten.length≤left→rs.length≤fitsIn left rs
 | left,[],_,_=>Nat.zero_le _
 | left,r::rs,h,hl=>by
  have h1:=h r (by simp)
  rw [leavesOf_cons h1,List.flatten_cons,List.length_append,recEnc_size r h1] at hl
  have:=fits_right (left:=left-recSize r) (rs:=rs) (fun x hx=>h x (by simp [hx])) (by omega)
  unfold fitsIn
  rw [if_pos ⟨h1,by omega⟩,List.length_cons]
  omega
section
variable {P:Program}{ops:Array Oper}{Q:Exit→Act→World→Prop}{md:Region.Mode}
end
structure Like (w w':World):Prop where
 size:w.heap.size=w'.heap.size
 cell:∀ p,w'.cell? p=w.cell? p
theorem Row.like {w w':World}{D:Nat→Prop}{A:Option Addr}{n s:Nat}{vs:List Value}(h:Row w D A n s vs) (hl:Like w w'):Row w' D A n s vs :=
 ⟨h.1,fun hn=>let ⟨b,off,e,hd,hlt,hc⟩:=h.2 hn;⟨b,off,e,hd,hl.size▸hlt,fun k u hu=>(hl.cell _).trans (hc k u hu)⟩⟩
theorem conv_mark {w:World}{g:Nat}{C:Array Value}{e:TypeId}(n c:Nat) (h:w.heap[g]?=some (.cells C e (0,0))):
  ∃ w',(convert 24 24 (.slice (some ⟨g,0,none⟩) n c)).run Tryz.prog w=.ok (.slice (some ⟨g,0,none⟩) n c) w'∧Keep (fun b=>b≠g) w w'∧Like w w':=by
 have hsh:w.shape? g=some (e,C.size):=by
  unfold World.shape?
  rw [h]
 refine ⟨w.freeze ⟨g,C.size,none⟩ 1,?_,?_,?_⟩
 ·simp [convert,run_underlying Tryz.underlying24,run_underlying Tryz.underlying5,markStringish,hsh]
 ·unfold World.freeze
  rw [if_neg (by decide)]
  refine ⟨rfl,rfl,rfl,by simp,fun k hk hne=>?_⟩
  show (w.heap.modify g _)[k]?=w.heap[k]?
  rw [Array.getElem?_modify]
  rw [if_neg (fun e=>hne e.symm)]
 ·unfold World.freeze
  rw [if_neg (by decide)]
  refine ⟨by simp,fun p=>?_⟩
  by_cases hp:p.block=g
  ·simp [World.cell?,Array.getElem?_modify,hp,h]
  ·have hp':¬ g=p.block:=fun e=>hp e.symm
   simp [World.cell?,Array.getElem?_modify,hp']
section
variable {P:Program}{ops:Array Oper}{Q:Exit→Act→World→Prop}{md:Region.Mode}{S:World→Prop}{σ:Type}
end
def waits (md:Region.Mode) (ops:Array Oper) (i j:Nat):Bool:=(ops[i]?).any fun o=>o.after.any fun e=>Region.binds md e&&e.on==j
def only (md:Region.Mode) (ops:Array Oper) (i:Nat) (L:List Nat):Bool:=(ops[i]?).any fun o=>o.after.all fun e => !Region.binds md e||L.contains e.on
structure Elt (α:Type) where
 size:Nat
 At:World→(Nat→Prop)→List Value→Nat→α→Prop
 pos:0<size
 keep:∀ {w w':World} {D E:Nat→Prop} {vs:List Value} {i:Nat} {a:α},At w D vs i a→Keep E w w'→(∀ b,b<w.heap.size→D b→E b)→At w' D vs i a
 imp:∀ {w:World} {D E:Nat→Prop} {vs:List Value} {i:Nat} {a:α},At w D vs i a→(∀ b,b<w.heap.size→D b→E b)→At w E vs i a
 shift:∀ {w:World} {D:Nat→Prop} {vs us:List Value} {i j:Nat} {a:α},At w D vs i a→(∀ k,k<size→∀ u,vs[i+k]?=some u→us[j+k]?=some u)→At w D us j a
 one:∀ {w:World} {D:Nat→Prop} {vs:List Value} {i:Nat} {a:α},At w D vs i a→∀ k,k<size→∃ u,vs[i+k]?=some u∧u.oneCell'=true
section
variable {α:Type}{E:Elt α}{w w':World}{base base':Nat}{t:TypeId}{D F:Nat→Prop}{A:Option Addr}{n c:Nat}{ls:List α}
def Sl (E:Elt α) (w:World) (D:Nat→Prop) (A:Option Addr) (n:Nat) (ls:List α):Prop :=
 ∃ vs:List Value,Row w D A n E.size vs∧ls.length=n∧∀ k (h:k<ls.length),E.At w D vs (k*E.size) ls[k]
theorem Sl.len (h:Sl E w D A n ls):ls.length=n:=by obtain ⟨_,_,h,_⟩:=h;exact h
theorem Sl.keep (h:Sl E w D A n ls) (hk:Keep F w w') (hE:∀ b,b<w.heap.size→D b→F b):Sl E w' D A n ls:=by
 obtain ⟨vs,h1,h2,h3⟩:=h
 exact ⟨vs,h1.keep hk hE,h2,fun k hk'=>E.keep (h3 k hk') hk hE⟩
theorem Sl.new (h:Sl E w D A n ls) (hk:New w w'):Sl E w' D A n ls:=h.keep hk fun _ _ _=>trivial
theorem Sl.imp (h:Sl E w D A n ls) (hE:∀ b,b<w.heap.size→D b→F b):Sl E w F A n ls:=by
 obtain ⟨vs,h1,h2,h3⟩:=h
 exact ⟨vs,h1.imp hE,h2,fun k hk=>E.imp (h3 k hk) hE⟩
def OwnSl (t:TypeId) (E:Elt α) (w:World) (base:Nat) (D:Nat→Prop) (A:Option Addr) (n c:Nat) (ls:List α):Prop :=
 ∃ vs:List Value,Own w base t E.size A n c vs∧ls.length=n∧∀ k (h:k<ls.length),E.At w (fun b=>D b∧some b≠blk A) vs (k*E.size) ls[k]
theorem OwnSl.nil (t:TypeId) (E:Elt α) (w:World) (base:Nat) (D:Nat→Prop):OwnSl t E w base D none 0 0 []:=⟨[],Own.nil _ _ _ _,rfl,fun k hk=>absurd hk (by simp)⟩
theorem OwnSl.new (h:OwnSl t E w base D A n c ls) (hk:New w w'):OwnSl t E w' base D A n c ls:=by
 obtain ⟨vs,h1,h2,h3⟩:=h
 exact ⟨vs,own_keep h1 hk (fun _ _=>trivial),h2,fun k hk'=>E.keep (h3 k hk') hk fun _ _ _=>trivial⟩
theorem OwnSl.lt (h:OwnSl t E w base D A n c ls):∀ k,blk A=some k→base≤k∧k<w.heap.size:=by obtain ⟨_,h,_⟩:=h;exact own_lt h
theorem OwnSl.imp (h:OwnSl t E w base D A n c ls) (hE:∀ b,b<w.heap.size→D b→F b):OwnSl t E w base F A n c ls:=by
 obtain ⟨vs,h1,h2,h3⟩:=h
 exact ⟨vs,h1,h2,fun k hk=>E.imp (h3 k hk) fun b hb hd=>⟨hE b hb hd.1,hd.2⟩⟩
theorem OwnSl.rebase (h:OwnSl t E w base' D A n c ls) (hb:base≤base'):OwnSl t E w base D A n c ls:=by
 obtain ⟨vs,h1,h2,h3⟩:=h
 exact ⟨vs,own_base h1 hb,h2,h3⟩
theorem OwnSl.keepE (h:OwnSl t E w base D A n c ls) (hk:Keep F w w') (hb:∀ k,blk A=some k→F k) (hD:∀ b,D b→F b):OwnSl t E w' base D A n c ls:=by
 obtain ⟨vs,h1,h2,h3⟩:=h
 exact ⟨vs,own_keep h1 hk hb,h2,fun k hk'=>E.keep (h3 k hk') hk fun b _ hd=>hD b hd.1⟩
theorem OwnSl.sl (h:OwnSl t E w base D A n c ls):Sl E w (fun b=>base≤b∨D b) A n ls:=by
 obtain ⟨vs,h1,h2,h3⟩:=h
 exact ⟨vs,(Row.of_own h1).imp (fun _ _ h=>.inl h),h2,fun k hk=>E.imp (h3 k hk) fun _ _ h=>.inr h.1⟩
theorem OwnSl.own (h:OwnSl t E w base D A n c ls):∃ xs,Own w base t E.size A n c xs:=by obtain ⟨vs,h,_⟩:=h;exact ⟨vs,h⟩
theorem app_slM {P:Program}{ops:Array Oper}{rest:List Oper}{o:Oper}{a:Act}{Q:Exit→Act→World→Prop}(w:World) (hgd:o.guard=none) (s x:Operand) (T t:TypeId)
  (ho:o.op=.call { callee:=.builtin .append,args:=#[s,x],argTypes:=#[T,T] })
  (i:TypeInfo) (z:Value) (bytes:Nat) (ht:P.underlying T=some (.slice t)) (hi:P.info? t=some i) (hz:i.zero=some z) (hsize:i.size=E.size) (hby:i.bytes=bytes) (hzs:z.cells.size=E.size)
  (base:Nat) (D:Nat→Prop) (A:Option Addr) (n c:Nat) (ls:List α) (hs:a.eval s=.slice A n c) (hown:OwnSl t E w base D A n c ls)
  (D2:Nat→Prop) (A2:Option Addr) (m c2:Nat) (us:List Value) (ms:List α) (hx:a.eval x=.slice A2 m c2) (hr:Row w D2 A2 m E.size us) (hm:ms.length=m) (hy:∀ k (h:k<ms.length),E.At w (fun b=>D b∧some b≠blk A) us (k*E.size) ms[k])
  (h63:n+m≤9223372036854775807) (hbytes:(n+m)*bytes≤140737488355328) (hbase:base≤w.heap.size)
  (h:∀ A3 c3 w3,OwnSl t E w3 base D A3 (n+m) c3 (ls++ms)→w.grownBy w3 (blk A)→(blk A3=blk A∨blk A3=some w.heap.size)→wpList P ops Q rest (a.put o.dst (.slice A3 (n+m) c3)) w3):wpList P ops Q (o::rest) a w:=by
 obtain ⟨vs,h1,h2,h3⟩:=hown
 have hul:us.length=m*E.size:=hr.1
 have hp:=E.pos
 have hone:∀ u∈us,u.oneCell'=true:=by
  intro u hu
  obtain ⟨j,hj,rfl⟩:=List.mem_iff_getElem.1 hu
  have hjm:j/E.size<ms.length:=by rw [hm];exact Nat.div_lt_of_lt_mul (by rw [Nat.mul_comm];omega)
  obtain ⟨u,hu1,hu2⟩:=E.one (hy (j/E.size) hjm) (j%E.size) (Nat.mod_lt _ hp)
  rw [Nat.mul_comm,Nat.div_add_mod,List.getElem?_eq_getElem hj] at hu1
  injection hu1 with hu1
  rw [hu1]
  exact hu2
 refine wpList_append_row w hgd s x T ho base t i z E.size bytes ht hi hz hsize hby hzs hp A n c vs hs h1 D2 A2 m c2 us hx hr hone (by unfold maxLen;exact h63) hbytes hbase ?_
 intro A3 c3 w3 hown3 hg3 hbk3
 refine h A3 c3 w3 ⟨vs++us,hown3,by rw [List.length_append];omega,fun k hk=>?_⟩ hg3 hbk3
 have hvl:vs.length=n*E.size:=h1.1
 have move:∀ {xs:List Value} {j:Nat} {y:α},E.At w (fun b=>D b∧some b≠blk A) xs j y→E.At w3 (fun b=>D b∧some b≠blk A3) xs j y:=fun {xs j y} hb=>by
  have hb3:=E.imp hb (E:=fun b=>(D b∧some b≠blk A)∧some b≠blk A3) fun b hlt hd=>⟨hd,ne_blk hbk3 hlt hd.2⟩
  exact E.imp (E.keep hb3 (keep_blk hg3) (fun b _ hd=>hd.1.2)) fun b _ hd=>⟨hd.1.1,hd.2⟩
 by_cases hkn:k<ls.length
 ·rw [List.getElem_append_left hkn]
  refine move (E.shift (h3 k hkn) fun j hj u hu=>?_)
  have h4:=Nat.mul_le_mul_right E.size (show k+1≤n by omega)
  rw [Nat.add_mul] at h4
  rw [List.getElem?_append_left (by omega)]
  exact hu
 ·rw [List.getElem_append_right (by omega)]
  have hkl:k-ls.length<ms.length:=by rw [List.length_append] at hk;omega
  refine move (E.shift (hy (k-ls.length) hkl) fun j hj u hu=>?_)
  have h4:k*E.size=vs.length+(k-ls.length)*E.size:=by rw [hvl,← h2,← Nat.add_mul];congr 1;omega
  rw [h4,Nat.add_assoc,List.getElem?_append_right (by omega),Nat.add_sub_cancel_left]
  exact hu
theorem app_sl {P:Program}{ops:Array Oper}{rest:List Oper}{o:Oper}{a:Act}{Q:Exit→Act→World→Prop}(w:World) (hgd:o.guard=none) (s x:Operand) (T t:TypeId)
  (ho:o.op=.call { callee:=.builtin .append,args:=#[s,x],argTypes:=#[T,T] })
  (i:TypeInfo) (z:Value) (bytes:Nat) (ht:P.underlying T=some (.slice t)) (hi:P.info? t=some i) (hz:i.zero=some z) (hsize:i.size=E.size) (hby:i.bytes=bytes) (hzs:z.cells.size=E.size)
  (base:Nat) (D:Nat→Prop) (A:Option Addr) (n c:Nat) (ls:List α) (hs:a.eval s=.slice A n c) (hown:OwnSl t E w base D A n c ls)
  (D2:Nat→Prop) (A2:Option Addr) (c2:Nat) (us:List Value) (y:α) (hx:a.eval x=.slice A2 1 c2) (hr:Row w D2 A2 1 E.size us) (hy:E.At w (fun b=>D b∧some b≠blk A) us 0 y)
  (h63:n+1≤9223372036854775807) (hbytes:(n+1)*bytes≤140737488355328) (hbase:base≤w.heap.size)
  (h:∀ A3 c3 w3,OwnSl t E w3 base D A3 (n+1) c3 (ls++[y])→w.grownBy w3 (blk A)→(blk A3=blk A∨blk A3=some w.heap.size)→wpList P ops Q rest (a.put o.dst (.slice A3 (n+1) c3)) w3):wpList P ops Q (o::rest) a w:=by
 refine app_slM w hgd s x T t ho i z bytes ht hi hz hsize hby hzs base D A n c ls hs hown D2 A2 1 c2 us [y] hx hr rfl (fun k hk=>?_) h63 hbytes hbase h
 obtain rfl:k=0:=by simpa using hk
 rw [Nat.zero_mul]
 exact hy
end
def recElt:Elt RecP where
 size:=3
 At:=RecAt
 pos:=by decide
 keep:=RecAt.keep
 imp:=RecAt.imp
 shift:=by
  rintro w D vs us i j a ⟨A,c,e0,e1,e2,rest⟩ h
  exact ⟨A,c,h 0 (by decide) _ e0,h 1 (by decide) _ e1,h 2 (by decide) _ e2,rest⟩
 one:=by
  rintro w D vs i a ⟨A,c,e0,e1,e2,rest⟩ k hk
  match k,hk with
  | 0,_=>exact ⟨_,e0,rfl⟩
  | 1,_=>exact ⟨_,e1,rfl⟩
  | 2,_=>exact ⟨_,e2,rfl⟩
def slElt {α:Type} (E:Elt α):Elt (List α) where
 size:=1
 At w D vs i ls:=∃ A c,vs[i]?=some (.slice A ls.length c)∧ls.length≤c∧c≤9223372036854775807∧Sl E w D A ls.length ls
 pos:=by decide
 keep:=by
  rintro w w' D F vs i a ⟨A,c,e,h1,h2,h3⟩ hk hE
  exact ⟨A,c,e,h1,h2,h3.keep hk hE⟩
 imp:=by
  rintro w D F vs i a ⟨A,c,e,h1,h2,h3⟩ hE
  exact ⟨A,c,e,h1,h2,h3.imp hE⟩
 shift:=by
  rintro w D vs us i j a ⟨A,c,e0,rest⟩ h
  exact ⟨A,c,h 0 (by decide) _ e0,rest⟩
 one:=by
  rintro w D vs i a ⟨A,c,e0,rest⟩ k hk
  match k,hk with
  | 0,_=>exact ⟨_,e0,rfl⟩
theorem recs_sl {w:World}{D:Nat→Prop}{A:Option Addr}{n:Nat}{rs:List RecP}:Recs w D A n rs↔Sl recElt w D A n rs:=Iff.rfl
section
variable {P:Program}{ops:Array Oper}{Q:Exit→Act→World→Prop}{md:Region.Mode}{S:World→Prop}
theorem hold_fork0 {i j:Nat}{o o':Oper}{fuel:Nat}{listed:Array Bool}{a:Act}{w:World}(hr:Region.ready md ops listed=[i,j]) (ho:ops[i]?=some o) (hw:Region.wanted o (yielded ops a.tmps)=true) (ho':ops[j]?=some o') (hw':Region.wanted o' (yielded ops a.tmps)=true)
  (h:∀ K:Act→World→Prop,Hid (∀ a' w',S w'→wpAnyH P md ops Q S fuel (listed.setIfInBounds i true) a' w'→K a' w')→Oper.wp P o a w K Q)
  (h':∀ K:Act→World→Prop,Hid (∀ a' w',S w'→wpAnyH P md ops Q S fuel (listed.setIfInBounds j true) a' w'→K a' w')→Oper.wp P o' a w K Q):wpAnyH P md ops Q S (fuel+1) listed a w:=by
 refine wpAnyH_all hr (by simp) fun k hk=>?_
 have hk':k=i∨k=j:=by simpa using hk
 unfold wpOp
 rcases hk' with rfl|rfl
 ·simp only [ho,hw,if_true]
  exact .inl (h _ (Lib.hid fun a' w' hN hk=>⟨hN,hk⟩))
 ·simp only [ho',hw',if_true]
  exact .inl (h' _ (Lib.hid fun a' w' hN hk=>⟨hN,hk⟩))
end
def clearB (Ws:List Nat) (l:Array Bool):Bool:=Ws.all fun k=>l.getD k true==false
def chkW (md:Region.Mode) (ops:Array Oper) (Ws:List Nat) (i:Nat):Bool :=
 !Ws.contains i&&Ws.all fun j=>match ops[j]? with
  | some o=>o.after.any fun e=>Region.binds md e&&(e.on==i||Ws.contains e.on)
  | none=>false
section
variable {P:Program}{ops:Array Oper}{Q:Exit→Act→World→Prop}{md:Region.Mode}{Ws:List Nat}{S T:World→Prop}
def wpAnyW (P:Program) (md:Region.Mode) (ops:Array Oper) (Q:Exit→Act→World→Prop) (Ws:List Nat) (S T:World→Prop):Nat→Array Bool→Act→World→Prop
 | 0,listed,a,w=>Region.ready md ops listed=[]∧Q .normal a w
 | fuel+1,listed,a,w =>
  (Region.ready md ops listed=[]→Q .normal a w) ∧
  ∀ i∈Region.ready md ops listed,wpOp P ops Q i (fun a' w'=>(S w'∧(clearB Ws (listed.setIfInBounds i true)=true→T w'))∧wpAnyW P md ops Q Ws S T fuel (listed.setIfInBounds i true) a' w') a w
theorem wpAny_of_W:∀ (fuel:Nat) (listed:Array Bool) (a:Act) (w:World),wpAnyW P md ops Q Ws S T fuel listed a w→wpAny P md ops Q fuel listed a w
 | 0,_,_,_,h=>h
 | fuel+1,_,_,_,h=>⟨h.1,fun i hi=>wpOp_mono (fun a' w' h'=>wpAny_of_W fuel _ a' w' h'.2) (h.2 i hi)⟩
theorem clear_get {l:Array Bool}(h:clearB Ws l=true){k:Nat}(hk:k∈Ws):l.getD k true=false:=by
 have:=List.all_eq_true.1 h k hk
 simpa using this
theorem clear_set {l:Array Bool}(h:clearB Ws l=true){j:Nat}(hj:j∉Ws):clearB Ws (l.setIfInBounds j true)=true:=by
 refine List.all_eq_true.2 fun k hk=>?_
 have hne:j≠k:=fun e=>hj (e▸hk)
 have h1:=clear_get h hk
 rw [getD_set_ne true hne,h1]
 rfl
theorem chk_not {l:Array Bool}{i j:Nat}(hc:chkW md ops Ws i=true) (h:clearB Ws l=true) (hi:l.getD i true=false) (hj:j∈Region.ready md ops l):j∉Ws:=by
 intro hjw
 obtain ⟨_,oj,hoj,hall⟩:=mem_ready.1 hj
 have h1:=List.all_eq_true.1 (Bool.and_eq_true_iff.1 hc).2 j hjw
 rw [hoj] at h1
 obtain ⟨e,he,h2⟩:=Array.any_eq_true'.1 h1
 have h3:=Bool.and_eq_true_iff.1 h2
 have h4:=hall e he h3.1
 have hun:l.getD e.on true=false:=by
  rcases Bool.or_eq_true_iff.1 h3.2 with h5|h5
  ·have:e.on=i:=by simpa using h5
   rw [this];exact hi
  ·exact clear_get h (by simpa using h5)
 rcases Nat.lt_or_ge e.on l.size with h'|h'
 ·simp [h'] at h4 hun;rw [h4] at hun;cases hun
 ·simp [Array.getElem?_eq_none h'] at h4
theorem wpAnyW_first {i:Nat}{oi:Oper}{v:Value}(hi:ops[i]?=some oi) (hsel:∀ (j:Nat) (o:Oper) cs b,ops[j]?=some o→o.op≠.select cs b)
  (hQ:∀ c a w,Q (.panic c) (a.put oi.dst v) w→Q (.panic c) a w) (hc:chkW md ops Ws i=true):
  ∀ (fuel:Nat) (listed:Array Bool) (a:Act) (w:World),
   (∀ j oj,ops[j]?=some oj→j≠i→listed.getD j true=false→(∀ e∈oj.after,Region.binds md e=true→e.on≠i)→oi.apart ops oj=true) →
   i∈Region.ready md ops listed→clearB Ws listed=true→YieldsIf P ops T oi v a→S w→T w →
   wpAnyW P md ops Q Ws S T fuel (listed.setIfInBounds i true) (a.put oi.dst v) w→wpAnyW P md ops Q Ws S T (fuel+1) listed a w:=by
 have hiW:i∉Ws:=by
  have:=(Bool.and_eq_true_iff.1 hc).1
  simpa using this
 intro fuel
 induction fuel with
 | zero =>
  intro listed a w _ hr _ hy hS hT H
  refine ⟨fun h=>(by rw [h] at hr;cases hr),fun j hj=>?_⟩
  by_cases hji:j=i
  ·subst hji;exact hy.wpOp hi hT ⟨⟨hS,fun _=>hT⟩,H⟩
  ·have:=ready_mono hj hji
   rw [H.1] at this
   cases this
 | succ fuel ih =>
  intro listed a w hfree hr hcl hy hS hT H
  refine ⟨fun h=>(by rw [h] at hr;cases hr),fun j hj=>?_⟩
  by_cases hji:j=i
  ·subst hji;exact hy.wpOp hi hT ⟨⟨hS,fun _=>hT⟩,H⟩
  ·have h1:=H.2 j (ready_mono hj hji)
   obtain ⟨hjun,oj,hoj,hall⟩:=mem_ready.1 hj
   have hiun:=(mem_ready.1 hr).1
   have hjW:j∉Ws:=chk_not hc hcl hiun hj
   have hnot:∀ e∈oj.after,Region.binds md e=true→e.on≠i:=fun e he hb heq=>by
    have h1:=hall e he hb
    have h0:=hiun
    rw [heq] at h1
    rcases Nat.lt_or_ge i listed.size with h'|h'
    ·simp [h'] at h0 h1;rw [h0] at h1;cases h1
    ·simp [Array.getElem?_eq_none h'] at h1
   have h2:=wpOp_putIf hoj (hfree j oj hoj hji hjun hnot) (fun cs b=>hsel i oi cs b hi) (fun cs b=>hsel j oj cs b hoj) hQ hy h1
   have hfree':∀ k ok,ops[k]?=some ok→k≠i→(listed.setIfInBounds j true).getD k true=false →
     (∀ e∈ok.after,Region.binds md e=true→e.on≠i)→oi.apart ops ok=true:=fun k ok hk hki hun hno=>by
    refine hfree k ok hk hki ?_ hno
    by_cases hjk:j=k
    ·subst hjk;exact hjun
    ·rw [getD_set_ne true hjk] at hun;exact hun
   have hcl2:clearB Ws (listed.setIfInBounds j true)=true:=clear_set hcl hjW
   have hcl3:clearB Ws ((listed.setIfInBounds i true).setIfInBounds j true)=true:=clear_set (clear_set hcl hiW) hjW
   refine wpOp_mono (fun a' w' h3=>⟨⟨h3.2.1.1,fun _=>h3.2.1.2 hcl3⟩,ih (listed.setIfInBounds j true) a' w' hfree' (ready_mono hr (Ne.symm hji)) hcl2 h3.1 h3.2.1.1 (h3.2.1.2 hcl3) ?_⟩) h2
   rw [Array.setIfInBounds_comm _ _ hji]
   exact h3.2.2
theorem clear_same {l:Array Bool}{i:Nat}(hi:i∉Ws):clearB Ws (l.setIfInBounds i true)=clearB Ws l:=by
 rw [Bool.eq_iff_iff]
 refine ⟨fun h=>List.all_eq_true.2 fun k hk=>?_,fun h=>clear_set h hi⟩
 have h1:=clear_get h hk
 have hne:i≠k:=fun e=>hi (by rw [e];exact hk)
 rw [getD_set_ne true hne] at h1
 rw [h1]
 rfl
theorem wpAnyW_firstS {i:Nat}{oi:Oper}{v:Value}(hi:ops[i]?=some oi) (hsel:∀ (j:Nat) (o:Oper) cs b,ops[j]?=some o→o.op≠.select cs b)
  (hQ:∀ c a w,Q (.panic c) (a.put oi.dst v) w→Q (.panic c) a w) (hiW:i∉Ws):
  ∀ (fuel:Nat) (listed:Array Bool) (a:Act) (w:World),
   (∀ j oj,ops[j]?=some oj→j≠i→listed.getD j true=false→(∀ e∈oj.after,Region.binds md e=true→e.on≠i)→oi.apart ops oj=true) →
   i∈Region.ready md ops listed→YieldsIf P ops S oi v a→S w→(clearB Ws listed=true→T w) →
   wpAnyW P md ops Q Ws S T fuel (listed.setIfInBounds i true) (a.put oi.dst v) w→wpAnyW P md ops Q Ws S T (fuel+1) listed a w:=by
 intro fuel
 induction fuel with
 | zero =>
  intro listed a w _ hr hy hS hT H
  refine ⟨fun h=>(by rw [h] at hr;cases hr),fun j hj=>?_⟩
  by_cases hji:j=i
  ·subst hji;exact hy.wpOp hi hS ⟨⟨hS,fun h=>hT (by rwa [clear_same hiW] at h)⟩,H⟩
  ·have:=ready_mono hj hji
   rw [H.1] at this
   cases this
 | succ fuel ih =>
  intro listed a w hfree hr hy hS hT H
  refine ⟨fun h=>(by rw [h] at hr;cases hr),fun j hj=>?_⟩
  by_cases hji:j=i
  ·subst hji;exact hy.wpOp hi hS ⟨⟨hS,fun h=>hT (by rwa [clear_same hiW] at h)⟩,H⟩
  ·have h1:=H.2 j (ready_mono hj hji)
   obtain ⟨hjun,oj,hoj,hall⟩:=mem_ready.1 hj
   have hiun:=(mem_ready.1 hr).1
   have hnot:∀ e∈oj.after,Region.binds md e=true→e.on≠i:=fun e he hb heq=>by
    have h1:=hall e he hb
    have h0:=hiun
    rw [heq] at h1
    rcases Nat.lt_or_ge i listed.size with h'|h'
    ·simp [h'] at h0 h1;rw [h0] at h1;cases h1
    ·simp [Array.getElem?_eq_none h'] at h1
   have h2:=wpOp_putIf hoj (hfree j oj hoj hji hjun hnot) (fun cs b=>hsel i oi cs b hi) (fun cs b=>hsel j oj cs b hoj) hQ hy h1
   have hfree':∀ k ok,ops[k]?=some ok→k≠i→(listed.setIfInBounds j true).getD k true=false →
     (∀ e∈ok.after,Region.binds md e=true→e.on≠i)→oi.apart ops ok=true:=fun k ok hk hki hun hno=>by
    refine hfree k ok hk hki ?_ hno
    by_cases hjk:j=k
    ·subst hjk;exact hjun
    ·rw [getD_set_ne true hjk] at hun;exact hun
   have hcc:clearB Ws ((listed.setIfInBounds i true).setIfInBounds j true)=clearB Ws (listed.setIfInBounds j true):=by
    rw [Array.setIfInBounds_comm _ _ (Ne.symm hji),clear_same hiW]
   refine wpOp_mono (fun a' w' h3=>⟨⟨h3.2.1.1,fun h=>h3.2.1.2 (by rw [hcc];exact h)⟩,ih (listed.setIfInBounds j true) a' w' hfree' (ready_mono hr (Ne.symm hji)) h3.1 h3.2.1.1 (fun h=>h3.2.1.2 (by rw [hcc];exact h)) ?_⟩) h2
   rw [Array.setIfInBounds_comm _ _ hji]
   exact h3.2.2
theorem holdW_begin (Ws:List Nat) (S T:World→Prop){id:Nat}{a:Act}{w:World}(hm:P.follows .mixedOrders=true) (h:wpAnyW P .any ops Q Ws S T ops.size (Array.replicate ops.size false) a w.drew):(Code.region id ops true).wp P Q a w :=
 wp_region_any hm (wpAny_of_W _ _ _ _ h)
theorem holdW_read {i:Nat}{oi:Oper}{v:Value}{fuel:Nat}{listed:Array Bool}{a:Act}{w:World}(hST:S w∧(clearB Ws listed=true→T w)) (hi:ops[i]?=some oi)
  (hs:Region.noSelect ops=true) (hf:Region.free md ops listed i=true) (hr:(Region.ready md ops listed).contains i=true) (hc:Ws.contains i=false)
  (hQ:∀ c a w,Q (.panic c) (a.put oi.dst v) w→Q (.panic c) a w) (hw:Region.wanted oi (yielded ops a.tmps)=true)
  (hy:∀ w',S w'→(execOp a.eval oi).run P w'=.ok (.value v) w')
  (h:wpAnyW P md ops Q Ws S T fuel (listed.setIfInBounds i true) (a.put oi.dst v) w):wpAnyW P md ops Q Ws S T (fuel+1) listed a w :=
 wpAnyW_firstS hi (Region.noSelect_spec hs) hQ (by simpa using hc) fuel listed a w (Region.free_spec hi hf) (by simpa using hr) (.inl ⟨hw,hy⟩) hST.1 hST.2 h
theorem holdW_readT {i:Nat}{oi:Oper}{v:Value}{fuel:Nat}{listed:Array Bool}{a:Act}{w:World}(hST:S w∧(clearB Ws listed=true→T w)) (hi:ops[i]?=some oi)
  (hs:Region.noSelect ops=true) (hf:Region.free md ops listed i=true) (hr:(Region.ready md ops listed).contains i=true) (hc:chkW md ops Ws i=true) (hcl:clearB Ws listed=true)
  (hQ:∀ c a w,Q (.panic c) (a.put oi.dst v) w→Q (.panic c) a w) (hw:Region.wanted oi (yielded ops a.tmps)=true)
  (hy:∀ w',T w'→(execOp a.eval oi).run P w'=.ok (.value v) w')
  (h:wpAnyW P md ops Q Ws S T fuel (listed.setIfInBounds i true) (a.put oi.dst v) w):wpAnyW P md ops Q Ws S T (fuel+1) listed a w :=
 wpAnyW_first hi (Region.noSelect_spec hs) hQ hc fuel listed a w (Region.free_spec hi hf) (by simpa using hr) hcl (.inl ⟨hw,hy⟩) hST.1 (hST.2 hcl) h
theorem holdW_step {i:Nat}{o:Oper}{fuel:Nat}{listed:Array Bool}{a:Act}{w:World}(hr:Region.ready md ops listed=[i]) (ho:ops[i]?=some o) (hw:Region.wanted o (yielded ops a.tmps)=true)
  (h:∀ K:Act→World→Prop,Hid (∀ a' w',(S w'∧(clearB Ws (listed.setIfInBounds i true)=true→T w'))→wpAnyW P md ops Q Ws S T fuel (listed.setIfInBounds i true) a' w'→K a' w')→Oper.wp P o a w K Q):wpAnyW P md ops Q Ws S T (fuel+1) listed a w:=by
 refine ⟨fun h0=>absurd (hr▸h0) (by simp),fun j hj=>?_⟩
 rw [hr] at hj
 have hj':j=i:=by simpa using hj
 subst hj'
 unfold wpOp
 simp only [ho,hw,if_true]
 exact .inl (h _ (Lib.hid fun a' w' hN hk=>⟨hN,hk⟩))
theorem wpAnyW_done {listed:Array Bool}{a:Act}{w:World}(hr:Region.ready md ops listed=[]) (h:Q .normal a w):∀ fuel,wpAnyW P md ops Q Ws S T fuel listed a w
 | 0=>⟨hr,h⟩
 | _+1=>⟨fun _=>h,by rw [hr];simp⟩
end
section
variable {α:Type}{E:Elt α}
theorem wp_slM {P:Program}{o:Oper}{a:Act}{K:Act→World→Prop}{Q:Exit→Act→World→Prop}(w:World) (s x:Operand) (T t:TypeId)
  (ho:o.op=.call { callee:=.builtin .append,args:=#[s,x],argTypes:=#[T,T] })
  (i:TypeInfo) (z:Value) (bytes:Nat) (ht:P.underlying T=some (.slice t)) (hi:P.info? t=some i) (hz:i.zero=some z) (hsize:i.size=E.size) (hby:i.bytes=bytes) (hzs:z.cells.size=E.size)
  (base:Nat) (D:Nat→Prop) (A:Option Addr) (n c:Nat) (ls:List α) (hs:a.eval s=.slice A n c) (hown:OwnSl t E w base D A n c ls)
  (D2:Nat→Prop) (A2:Option Addr) (m c2:Nat) (us:List Value) (ms:List α) (hx:a.eval x=.slice A2 m c2) (hr:Row w D2 A2 m E.size us) (hm:ms.length=m) (hy:∀ k (h:k<ms.length),E.At w (fun b=>D b∧some b≠blk A) us (k*E.size) ms[k])
  (h63:n+m≤9223372036854775807) (hbytes:(n+m)*bytes≤140737488355328) (hbase:base≤w.heap.size)
  (h:∀ A3 c3 w3,OwnSl t E w3 base D A3 (n+m) c3 (ls++ms)→w.grownBy w3 (blk A)→(blk A3=blk A∨blk A3=some w.heap.size)→K (a.put o.dst (.slice A3 (n+m) c3)) w3):o.wp P a w K Q:=by
 obtain ⟨vs,h1,h2,h3⟩:=hown
 have hul:us.length=m*E.size:=hr.1
 have hp:=E.pos
 have hone:∀ u∈us,u.oneCell'=true:=by
  intro u hu
  obtain ⟨j,hj,rfl⟩:=List.mem_iff_getElem.1 hu
  have hjm:j/E.size<ms.length:=by rw [hm];exact Nat.div_lt_of_lt_mul (by rw [Nat.mul_comm];omega)
  obtain ⟨u,hu1,hu2⟩:=E.one (hy (j/E.size) hjm) (j%E.size) (Nat.mod_lt _ hp)
  rw [Nat.mul_comm,Nat.div_add_mod,List.getElem?_eq_getElem hj] at hu1
  injection hu1 with hu1
  rw [hu1]
  exact hu2
 refine wp_append_row w s x T ho base t i z E.size bytes ht hi hz hsize hby hzs hp A n c vs hs h1 D2 A2 m c2 us hx hr hone (by unfold maxLen;exact h63) hbytes hbase ?_
 intro A3 c3 w3 hown3 hg3 hbk3
 refine h A3 c3 w3 ⟨vs++us,hown3,by rw [List.length_append];omega,fun k hk=>?_⟩ hg3 hbk3
 have hvl:vs.length=n*E.size:=h1.1
 have move:∀ {xs:List Value} {j:Nat} {y:α},E.At w (fun b=>D b∧some b≠blk A) xs j y→E.At w3 (fun b=>D b∧some b≠blk A3) xs j y:=fun {xs j y} hb=>by
  have hb3:=E.imp hb (E:=fun b=>(D b∧some b≠blk A)∧some b≠blk A3) fun b hlt hd=>⟨hd,ne_blk hbk3 hlt hd.2⟩
  exact E.imp (E.keep hb3 (keep_blk hg3) (fun b _ hd=>hd.1.2)) fun b _ hd=>⟨hd.1.1,hd.2⟩
 by_cases hkn:k<ls.length
 ·rw [List.getElem_append_left hkn]
  refine move (E.shift (h3 k hkn) fun j hj u hu=>?_)
  have h4:=Nat.mul_le_mul_right E.size (show k+1≤n by omega)
  rw [Nat.add_mul] at h4
  rw [List.getElem?_append_left (by omega)]
  exact hu
 ·rw [List.getElem_append_right (by omega)]
  have hkl:k-ls.length<ms.length:=by rw [List.length_append] at hk;omega
  refine move (E.shift (hy (k-ls.length) hkl) fun j hj u hu=>?_)
  have h4:k*E.size=vs.length+(k-ls.length)*E.size:=by rw [hvl,← h2,← Nat.add_mul];congr 1;omega
  rw [h4,Nat.add_assoc,List.getElem?_append_right (by omega),Nat.add_sub_cancel_left]
  exact hu
theorem wp_sl {P:Program}{o:Oper}{a:Act}{K:Act→World→Prop}{Q:Exit→Act→World→Prop}(w:World) (s x:Operand) (T t:TypeId)
  (ho:o.op=.call { callee:=.builtin .append,args:=#[s,x],argTypes:=#[T,T] })
  (i:TypeInfo) (z:Value) (bytes:Nat) (ht:P.underlying T=some (.slice t)) (hi:P.info? t=some i) (hz:i.zero=some z) (hsize:i.size=E.size) (hby:i.bytes=bytes) (hzs:z.cells.size=E.size)
  (base:Nat) (D:Nat→Prop) (A:Option Addr) (n c:Nat) (ls:List α) (hs:a.eval s=.slice A n c) (hown:OwnSl t E w base D A n c ls)
  (D2:Nat→Prop) (A2:Option Addr) (c2:Nat) (us:List Value) (y:α) (hx:a.eval x=.slice A2 1 c2) (hr:Row w D2 A2 1 E.size us) (hy:E.At w (fun b=>D b∧some b≠blk A) us 0 y)
  (h63:n+1≤9223372036854775807) (hbytes:(n+1)*bytes≤140737488355328) (hbase:base≤w.heap.size)
  (h:∀ A3 c3 w3,OwnSl t E w3 base D A3 (n+1) c3 (ls++[y])→w.grownBy w3 (blk A)→(blk A3=blk A∨blk A3=some w.heap.size)→K (a.put o.dst (.slice A3 (n+1) c3)) w3):o.wp P a w K Q:=by
 refine wp_slM w s x T t ho i z bytes ht hi hz hsize hby hzs base D A n c ls hs hown D2 A2 1 c2 us [y] hx hr rfl (fun k hk=>?_) h63 hbytes hbase h
 obtain rfl:k=0:=by simpa using hk
 rw [Nat.zero_mul]
 exact hy
end
end Go.Proofs.YtdodbdednpnddaaGreatDoor
