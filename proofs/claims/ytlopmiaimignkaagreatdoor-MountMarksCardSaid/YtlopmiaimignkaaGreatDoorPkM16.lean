/-
  PROVED HERE: the laws of append at rows of elements for one operation alone; no condition; no program is named.
-/
import Derived.Test.YtlopmiaimignkaaGreatDoorPkM15
namespace Go.Proofs.YtlopmiaimignkaaGreatDoor
open Go.RowKit
variable{P:Program}{o:Oper}{a:Act}{Q:Exit->Act->World->Prop}
section
variable {α:Type}{E:Elt α}
theorem Ic{K:Act->World->Prop}(w:World)(s x:Operand)(T t:TypeId)(ho:o.op=.call { callee:=.builtin .append,args:=#[s,x],argTypes:=#[T,T] })(i:TypeInfo)(z:Value)(bytes:Nat)(ht:P.underlying T=some (.slice t))(hi:P.info? t=some i)(hz:i.zero=some z)(hsize:i.size=E.size)(hby:i.bytes=bytes)(hzs:z.cells.size=E.size)(base:Nat)(D:Nat->Prop)(A:Option Addr)(n c:Nat)(ls:List α)(hs:a.eval s=.slice A n c)(hown:gJ t E w base D A n c ls)(D2:Nat->Prop)(A2:Option Addr)(m c2:Nat)(us:List Value)(ms:List α)(hx:a.eval x=.slice A2 m c2)(hr:Row w D2 A2 m E.size us)(hm:ms.length=m)(hy:∀k (h:k<ms.length),E.At w (fun b=>D b/\some b≠blk A) us (k*E.size) ms[k])(h63:n+m<=9223372036854775807)(hbytes:(n+m)*bytes<=140737488355328)(hbase:base<=w.heap.size)(h:∀A3 c3 w3,gJ t E w3 base D A3 (n+m) c3 (ls++ms)->w.grownBy w3 (blk A)->(blk A3=blk A\/blk A3=some w.heap.size)->K (a.put o.dst (.slice A3 (n+m) c3)) w3):o.wp P a w K Q:=by
 obtain⟨l,h1,h2,h3⟩:=hown
 have M:us.length=m*E.size:=hr.1
 have F:=E.pos
 have v:∀u∈us,u.oneCell'=true:=by
  intro u e
  obtain⟨j,hj,rfl⟩:=List.mem_iff_getElem.1 e
  have G:j/E.size<ms.length:=by rw[hm];exact Nat.div_lt_of_lt_mul (by rw[Nat.mul_comm];omega)
  obtain⟨u,d,H⟩:=E.one (hy (j/E.size) G) (j%E.size) (Nat.mod_lt _ F)
  rw[Nat.mul_comm,Nat.div_add_mod,List.getElem?_eq_getElem hj] at d
  injection d with d
  rw[d]
  exact H
 refine lK w s x T ho base t i z E.size bytes ht hi hz hsize hby hzs F A n c l hs h1 D2 A2 m c2 us hx hr v (by unfold maxLen;exact h63) hbytes hbase ?_
 intro A3 c3 w3 p q f
 refine h A3 c3 w3 ⟨l++us,p,by rw[zL];omega,fun k hk=>?_⟩ q f
 have I:l.length=n*E.size:=h1.1
 have g:∀ {B:List Value} {j:Nat} {y:α},E.At w (fun b=>D b/\some b≠blk A) B j y->E.At w3 (fun b=>D b/\some b≠blk A3) B j y:=fun {B j y} hb=>by
  have J:=E.imp hb (E:=fun b=>(D b/\some b≠blk A)/\some b≠blk A3) fun b hlt hd=>⟨hd,Fk f hlt hd.2⟩
  exact E.imp (E.keep J (yN q) (fun b _ hd=>hd.1.2)) fun b _ hd=>⟨hd.1.1,hd.2⟩
 by_cases r:k<ls.length
 ·rw[List.getElem_append_left r]
  refine g (E.shift (h3 k r) fun j hj u e=>?_)
  have C:=Nat.mul_le_mul_right E.size (show k+1<=n by omega)
  rw[Nat.add_mul] at C
  rw[List.getElem?_append_left zo]
  exact e
 rw[List.getElem_append_right zo]
 have L:k-ls.length<ms.length:=by rw[zL] at hk;omega
 refine g (E.shift (hy (k-ls.length) L) fun j hj u e=>?_)
 have C:k*E.size=l.length+(k-ls.length)*E.size:=by rw[I,<- h2,<- Nat.add_mul];congr 1;omega
 rw[C,Nat.add_assoc,List.getElem?_append_right zo,Nat.add_sub_cancel_left]
 exact e
theorem EE{K:Act->World->Prop}(w:World)(s x:Operand)(T t:TypeId)(ho:o.op=.call { callee:=.builtin .append,args:=#[s,x],argTypes:=#[T,T] })(i:TypeInfo)(z:Value)(bytes:Nat)(ht:P.underlying T=some (.slice t))(hi:P.info? t=some i)(hz:i.zero=some z)(hsize:i.size=E.size)(hby:i.bytes=bytes)(hzs:z.cells.size=E.size)(base:Nat)(D:Nat->Prop)(A:Option Addr)(n c:Nat)(ls:List α)(hs:a.eval s=.slice A n c)(hown:gJ t E w base D A n c ls)(D2:Nat->Prop)(A2:Option Addr)(c2:Nat)(us:List Value)(y:α)(hx:a.eval x=.slice A2 1 c2)(hr:Row w D2 A2 1 E.size us)(hy:E.At w (fun b=>D b/\some b≠blk A) us 0 y)(h63:n+1<=9223372036854775807)(hbytes:(n+1)*bytes<=140737488355328)(hbase:base<=w.heap.size)(h:∀A3 c3 w3,gJ t E w3 base D A3 (n+1) c3 (ls++[y])->w.grownBy w3 (blk A)->(blk A3=blk A\/blk A3=some w.heap.size)->K (a.put o.dst (.slice A3 (n+1) c3)) w3):o.wp P a w K Q:=by
 refine Ic w s x T t ho i z bytes ht hi hz hsize hby hzs base D A n c ls hs hown D2 A2 1 c2 us [y] hx hr rfl (fun k hk=>?_) h63 hbytes hbase h
 obtain rfl:k=0:=by simpa using hk
 rw[Nat.zero_mul]
 exact hy
end
