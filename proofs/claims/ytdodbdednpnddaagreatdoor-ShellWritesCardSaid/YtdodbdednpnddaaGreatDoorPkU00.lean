/-
  PROVED HERE: texts that belong together, one behind the other; what each proves, and under which conditions, its own opening remark says: Digits28, Text28, ShText28, Known28.
-/
import Derived.Lib.ItoaMem
import Derived.Lib.ItoaLen
import Derived.Deep.MidRow
import Derived.Test.YtdodbdednpnddaaGreatDoorPkT34
import Derived.Test.YtdodbdednpnddaaGreatDoorPkT35
set_option maxRecDepth 100000
set_option maxHeartbeats 4000000
namespace Go.Proofs.YtdodbdednpnddaaGreatDoor
open Go.RowKit
theorem dec_step (n:Nat) (h:¬ n<10):Lib.decDigits n=Lib.decDigits (n/10)++[UInt8.ofNat (48+n%10)]:=by rw [Lib.decDigits,dif_neg h]
theorem dec_utf (d:Nat) (h:d<10):Utf8.encode (48+(d:Int))=strOf [UInt8.ofNat (48+d)]:=by
 have:=(by decide:∀ d:Fin 10,Utf8.encode (48+((d:Nat):Int))=strOf [UInt8.ofNat (48+(d:Nat))])
 exact this ⟨d,h⟩
theorem strOf_size (s:List UInt8):(strOf s).size=s.length:=by simp [strOf,ByteArray.size]
theorem strOf_app (s t:List UInt8):strOf s++strOf t=strOf (s++t):=by
 apply ByteArray.ext
 simp [strOf]
def noStr (v:Value):Nat:=match v with|.string s=>(if s.size=0 then 1 else 0)|_=>0
theorem dec_len (n:Nat) (h:n≤9223372036854775807):(Lib.decDigits n).length≤21:=by
 have:=Lib.itoa_length_le (n:Int) (by omega) (by omega)
 rwa [Lib.itoa_nonneg] at this
def DigRel (N n:Nat) (s:List UInt8):Prop:=s=[]∧n=N∨s≠[]∧n=0∧s=Lib.decDigits N∨s≠[]∧0<n∧n≤N∧Lib.decDigits N=Lib.decDigits n++s
theorem DigRel.len {N n:Nat}{s:List UInt8}(h:DigRel N n s) (hN:N≤9223372036854775807):s.length≤21∧n≤N:=by
 have hd:=dec_len N hN
 rcases h with ⟨rfl,rfl⟩|⟨-,rfl,rfl⟩|⟨-,-,hn,h⟩
 ·exact ⟨Nat.zero_le _,Nat.le_refl _⟩
 ·exact ⟨hd,Nat.zero_le _⟩
 ·rw [h,List.length_append] at hd
  exact ⟨by omega,hn⟩
theorem DigRel.step {N n:Nat}{s:List UInt8}(h:DigRel N n s) (hn:0<n∨s=[]):DigRel N (n/10) (UInt8.ofNat (48+n%10)::s):=by
 have hd:Lib.decDigits N=Lib.decDigits n++s∧n≤N∧(n=0→s=[]):=by
  rcases h with ⟨rfl,rfl⟩|⟨h1,h2,h3⟩|⟨h1,h2,h3,h4⟩
  ·exact ⟨(List.append_nil _).symm,Nat.le_refl _,fun _=>rfl⟩
  ·rcases hn with h|h
   ·omega
   ·exact absurd h h1
  ·exact ⟨h4,h3,fun e=>by omega⟩
 by_cases h9:n<10
 ·refine .inr (.inl ⟨List.cons_ne_nil _ _,by omega,?_⟩)
  rw [hd.1,Lib.decDigits_one h9,Nat.mod_eq_of_lt h9]
  rfl
 ·refine .inr (.inr ⟨List.cons_ne_nil _ _,by omega,by omega,?_⟩)
  rw [hd.1,dec_step n h9,List.append_assoc]
  rfl
theorem digits_any (N:Nat) (hN:N≤9223372036854775807) (w:World):Calls Tryz.prog 8 #[.int .i64 N] w fun e w'=>e=.returned (.string (strOf (Lib.decDigits N)))∧w'=w:=by
 go_enter Tryz.func8,Tryz.ntmps8
 go_wp2_with fail
 go_loopw [0,3] (fun s0 s3 wx=>∃ (n:Nat) (s:List UInt8),s0=.int .i64 n∧s3=.string (strOf s)∧DigRel N n s∧wx=w) (fun s s3 _=>2*(intOf s).toNat+noStr s3)
 case atStart=>exact ⟨N,[],rfl,rfl,.inl ⟨rfl,rfl⟩,rfl⟩
 case round =>
  obtain ⟨n,s,rfl,rfl,hs,rfl⟩:=hrel
  have hl:=hs.len hN
  have hlt:(n:Int)≤9223372036854775807:=by have:=hl.2;omega
  have hsz:(strOf s).size≤21:=by rw [strOf_size];exact hl.1
  have hen:Utf8.encode (48+(n:Int)%10)=strOf [UInt8.ofNat (48+n%10)]:=dec_utf (n%10) (by omega)
  have h1:(strOf [UInt8.ofNat (48+n%10)]).size=1:=strOf_size _
  have HS:=Lib.hid hs
  have HE:=Lib.hid hen
  have hsz':(Utf8.encode (48+(n:Int)%10)).size=1:=by rw [hen];exact h1
  clear hs hl hen h1
  by_cases hp:0<n
  ·have hpi:(0:Int)<n:=by omega
   go_wp2_with fail
   refine ⟨⟨n/10,UInt8.ofNat (48+n%10)::s,by simp,by rw [HE.out,strOf_app];rfl,HS.out.step (.inl hp),by trivial⟩,?_⟩
   have hm:noStr (.string (Utf8.encode (48+(n:Int)%10)++strOf s))=0:=by simp only [noStr,ByteArray.size_append,hsz'];rw [if_neg (by omega)]
   rw [hm]
   simp only [intOf]
   omega
  ·have hz:n=0:=by omega
   subst hz
   clear hlt hp
   by_cases he:s=[]
   ·subst he
    go_wp2_with fail
    refine ⟨⟨0,[UInt8.ofNat (48+0%10)],by simp,by first|rfl|(rw [HE.out];rfl),HS.out.step (.inr rfl),by trivial⟩,?_⟩
    exact of_decide_eq_true (by rfl)
   ·have hq:s=Lib.decDigits N:=by
     rcases HS.out with ⟨h,-⟩|⟨-,-,h⟩|⟨-,h,-⟩
     ·exact absurd h he
     ·exact h
     ·omega
    have hb:s.isEmpty=false:=by cases s with|nil=>exact absurd rfl he|cons=>rfl
    have HQ:=Lib.hid hq
    clear hq he
    go_wp2_with fail
    go_ret
    exact ⟨congrArg (fun x=>Ending.returned (.string (strOf x))) HQ.out,rfl⟩
theorem tabIs_keep {P:Program}{w w':World}{name:String}{k:IntKind}{zs:List Int}(h:Lib.TabIs P w name k zs) (hk:Keep (fun b=>b<w.heap.size) w w'):Lib.TabIs P w' name k zs:=by
 unfold Lib.TabIs World.var? at *
 cases hg:P.globalNamed name with
 | none=>simp [hg] at h
 | some g =>
  simp only [hg,Option.bind_some] at h ⊢
  have hlt:g<w.heap.size:=by
   rcases Nat.lt_or_ge g w.heap.size with h'|h'
   ·exact h'
   ·rw [Array.getElem?_eq_none h'] at h;simp at h
  rw [hk.block g hlt hlt]
  exact h
def Bld (w:World) (B b:Nat) (l:List UInt8):Prop:=Lib.IsBuilderF 64 5 B b (Lib.byteCells l) w
theorem Bld.new {w w':World}{B b:Nat}{l:List UInt8}(h:Bld w B b l) (hk:New w w'):Bld w' B b l:=by
 have one:∀ p,Lib.BuilderAtF 64 5 B b p (Lib.byteCells l) w→Lib.BuilderAtF 64 5 B b p (Lib.byteCells l) w':=fun p h=>by
  obtain ⟨hB,v,hb,⟨h1,h2⟩,hne⟩:=h
  refine ⟨hB,v,hk.blockAt hb trivial,⟨h1,?_⟩,hne⟩
  rcases h2 with h2|⟨g,cap,cur,fz,hv,hg,hc,hr⟩
  ·exact .inl h2
  ·refine .inr ⟨g,cap,cur,fz,hv,hg,?_,hr⟩
   rw [hk.block g (Array.getElem?_eq_some_iff.1 hc).1 trivial]
   exact hc
 exact h.elim (fun h=>.inl (one _ h)) (fun h=>.inr (one _ h))
theorem Bld.start {w:World}{B b:Nat}(hB:B≤b) (hb:w.heap[b]?=some (.cells #[.pointer none,.slice none 0 0] 64 (0,0))):Bld w B b [] :=
 .inl ⟨hB,_,hb,World.ownsRowF_nil _ _ _ _,by simp [Value.ownBlock]⟩
theorem keep_below {B:Nat}{w w':World}(h:Below B w w'):Keep (fun b=>b<B) w w':=⟨h.os,h.tape,h.output,h.size,fun k _ hk=>h.block k hk⟩
theorem oth_block {w w':World}{b k:Nat}{c:Array Value}{t:TypeId}(h:Lib.OthersKept 5 (some b) w w') (hk:w.heap[k]?=some (.cells c t (0,0))) (hb:k≠b) (ht:t≠5):w'.heap[k]?=some (.cells c t (0,0)) :=
 h k _ hk (fun e=>hb (Option.some.inj e)) fun c' fz e=>by injection e with _ e _;exact ht e
theorem wrstr_any {w:World}{B b:Nat}{l:List UInt8}(h:Bld w B b l) (hB:B≤w.heap.size) (s:List UInt8) (hl:l.length+s.length≤140737488355328):
  Calls Tryz.prog 22 #[.pointer (some ⟨b,0,none⟩),.string (strOf s)] w fun e w'=>(e=.returned (.tuple #[.int .i64 (strOf s).size,.nilIface]))∧Bld w' B b (l++s)∧Keep (fun k=>k<B) w w'∧Lib.OthersKept 5 (some b) w w':=by
 refine (Any.Builder_WriteString_k lWriteStr lWriteStrX B b (Lib.byteCells l) (strOf s) w h (by rw [Lib.byteCells_length,strOf_size];exact hl) hB).mono ?_
 rintro e w' ⟨rfl,h1,h2,h3⟩
 refine ⟨rfl,.inr ?_,keep_below h2,h3⟩
 rw [Lib.byteCells_append]
 exact h1
theorem bstr_any {w:World}{B b:Nat}{l:List UInt8}(h:Bld w B b l) (hB:B≤w.heap.size):
  Calls Tryz.prog 24 #[.pointer (some ⟨b,0,none⟩)] w fun e w'=>e=.returned (.string (strOf l))∧Keep (fun k=>k<B) w w':=by
 refine (Any.Builder_String_any_k lBString lBStringX B b l w h hB).mono ?_
 rintro e w' ⟨rfl,-,h2,-⟩
 exact ⟨rfl,keep_below h2⟩
theorem itoa_any {w : World} (n : Nat) (hn : n ≤ 9223372036854775807) (ht : Lib.TabIs Tryz.prog w "internal/strconv.uint64pow10" .u64 Lib.pow10Tab) :
  Calls Tryz.prog 23 #[.int .i64 n] w fun e w'=>e=.returned (.string (strOf (Lib.decDigits n)))∧New w w':=by
 refine (Any.strconv_Itoa lItoa n (by omega) (by omega) w ht).mono ?_
 rintro e w' ⟨rfl,k,os,rfl⟩
 refine ⟨by rw [Lib.itoa_nonneg];rfl,⟨rfl,rfl,rfl,by simp [Sort.grow],fun j hj _=>?_⟩⟩
 simp only [Sort.grow]
 rw [Array.getElem?_append_left (by simpa using hj)]
 rfl
structure OutP where
 err:Nat
 fd:Nat
 dn:Nat
 nn:Nat
 xn:Nat
def numsOf (o:OutP):List Nat:=[o.err,o.fd,o.dn,o.nn,o.xn]
def OutP.Few (o:OutP):Prop:=∀ i,(numsOf o).getD i 0≤9223372036854775807
def lineTo (ns:List Nat):Nat→List UInt8
 | 0=>[]
 | i+1=>lineTo ns i++((if i=0 then [] else [32])++Lib.decDigits (ns.getD i 0))
def lineOf (o:OutP):List UInt8:=lineTo (numsOf o) 5++[10]
def textTo (os:List OutP) (k:Nat):List UInt8:=(os.take k).flatMap lineOf
def textOf (os:List OutP):List UInt8:=os.flatMap lineOf
theorem textTo_step (os:List OutP) (k:Nat){o:OutP}(h:os[k]?=some o):textTo os (k+1)=textTo os k++lineOf o:=by
 unfold textTo
 rw [List.take_add_one,h,List.flatMap_append]
 simp
theorem lineTo_len (o:OutP) (h:o.Few) (i:Nat):(lineTo (numsOf o) i).length≤22*i:=by
 induction i with
 | zero=>exact Nat.le_refl _
 | succ i ih =>
  unfold lineTo
  rw [List.length_append,List.length_append]
  have:=dec_len _ (h i)
  have:(if i=0 then ([]:List UInt8) else [32]).length≤1:=by split <;> simp
  omega
theorem textTo_len (os:List OutP) (h:∀ o∈os,o.Few) (k:Nat) (hk:k≤os.length):(textTo os k).length≤111*k:=by
 induction k with
 | zero=>simp [textTo]
 | succ k ih =>
  rw [textTo_step os k (List.getElem?_eq_getElem (by omega)),List.length_append]
  have:=ih (by omega)
  have:=lineTo_len os[k] (h _ (List.getElem_mem _)) 5
  unfold lineOf
  rw [List.length_append,List.length_singleton]
  omega
def OutsAt (vs:List Value) (os:List OutP):Prop:=∀ k (h:k<os.length),∃ A c B d E f,vs[k*20]?=some (.int .i64 os[k].err)∧vs[k*20+1]?=some (.int .i64 os[k].fd)∧vs[k*20+2]?=some (.slice A os[k].dn c)∧vs[k*20+3]?=some (.slice B os[k].nn d)∧vs[k*20+10]?=some (.slice E os[k].xn f)
theorem outs_cells {w:World}{D:Nat→Prop}{O:Option Addr}{n:Nat}{vs:List Value}{os:List OutP}(hr:Row w D O n 20 vs) (hv:OutsAt vs os) (hn:os.length=n) (h1:∀ u∈vs,u.oneCell'=true) (k:Nat) (h:k<n):∃ g off,O=some ⟨g,off,none⟩∧D g∧g<w.heap.size∧∃ t0 t1 t2 t3 t4 t5 t6 t7 t8 t9 t10 t11 t12 t13 t14 t15 t16 t17 t18 t19 A c B d E f o,w.rangeAt g (off+k*20) [t0,t1,t2,t3,t4,t5,t6,t7,t8,t9,t10,t11,t12,t13,t14,t15,t16,t17,t18,t19]∧os[k]?=some o∧t0=.int .i64 o.err∧t1=.int .i64 o.fd∧t2=.slice A o.dn c∧t3=.slice B o.nn d∧t10=.slice E o.xn f∧(∀ u∈[t0,t1,t2,t3,t4,t5,t6,t7,t8,t9,t10,t11,t12,t13,t14,t15,t16,t17,t18,t19],u.oneCell'=true):=by
 obtain ⟨hl,hc⟩:=hr
 obtain ⟨g,off,rfl,hg,hlt,hcell⟩:=hc (by omega)
 have hi:∀ i,i<20→k*20+i<vs.length:=fun i h=>by omega
 have hat:∀ i (h:i<20),w.cell? ⟨g,off+k*20+i,none⟩=some (vs[k*20+i]'(hi i h)):=fun i h=>by
  rw [Nat.add_assoc]
  exact hcell _ _ (List.getElem?_eq_getElem _)
 obtain ⟨A,c,B,d,E,f,e0,e1,e2,e3,e4⟩:=hv k (by omega)
 have eq:∀ i (h:i<20) v,vs[k*20+i]?=some v→vs[k*20+i]'(hi i h)=v:=fun i h v e=>by
  rw [List.getElem?_eq_getElem (hi i h)] at e
  exact Option.some.inj e
 have key:∀ j (h:j<20),[vs[k*20+0]'(hi 0 (by decide)),vs[k*20+1]'(hi 1 (by decide)),vs[k*20+2]'(hi 2 (by decide)),vs[k*20+3]'(hi 3 (by decide)),vs[k*20+4]'(hi 4 (by decide)),vs[k*20+5]'(hi 5 (by decide)),vs[k*20+6]'(hi 6 (by decide)),vs[k*20+7]'(hi 7 (by decide)),vs[k*20+8]'(hi 8 (by decide)),vs[k*20+9]'(hi 9 (by decide)),vs[k*20+10]'(hi 10 (by decide)),vs[k*20+11]'(hi 11 (by decide)),vs[k*20+12]'(hi 12 (by decide)),vs[k*20+13]'(hi 13 (by decide)),vs[k*20+14]'(hi 14 (by decide)),vs[k*20+15]'(hi 15 (by decide)),vs[k*20+16]'(hi 16 (by decide)),vs[k*20+17]'(hi 17 (by decide)),vs[k*20+18]'(hi 18 (by decide)),vs[k*20+19]'(hi 19 (by decide))][j]?=some (vs[k*20+j]'(hi j h)):=fun j h=>by
  match j,h with
  | 0,_=>rfl
  | 1,_=>rfl
  | 2,_=>rfl
  | 3,_=>rfl
  | 4,_=>rfl
  | 5,_=>rfl
  | 6,_=>rfl
  | 7,_=>rfl
  | 8,_=>rfl
  | 9,_=>rfl
  | 10,_=>rfl
  | 11,_=>rfl
  | 12,_=>rfl
  | 13,_=>rfl
  | 14,_=>rfl
  | 15,_=>rfl
  | 16,_=>rfl
  | 17,_=>rfl
  | 18,_=>rfl
  | 19,_=>rfl
  | j+20,h=>exact absurd h (by omega)
 have hrg:w.rangeAt g (off+k*20) [vs[k*20+0]'(hi 0 (by decide)),vs[k*20+1]'(hi 1 (by decide)),vs[k*20+2]'(hi 2 (by decide)),vs[k*20+3]'(hi 3 (by decide)),vs[k*20+4]'(hi 4 (by decide)),vs[k*20+5]'(hi 5 (by decide)),vs[k*20+6]'(hi 6 (by decide)),vs[k*20+7]'(hi 7 (by decide)),vs[k*20+8]'(hi 8 (by decide)),vs[k*20+9]'(hi 9 (by decide)),vs[k*20+10]'(hi 10 (by decide)),vs[k*20+11]'(hi 11 (by decide)),vs[k*20+12]'(hi 12 (by decide)),vs[k*20+13]'(hi 13 (by decide)),vs[k*20+14]'(hi 14 (by decide)),vs[k*20+15]'(hi 15 (by decide)),vs[k*20+16]'(hi 16 (by decide)),vs[k*20+17]'(hi 17 (by decide)),vs[k*20+18]'(hi 18 (by decide)),vs[k*20+19]'(hi 19 (by decide))]:=fun j v hj=>by
  have hj20:j<20:=by simpa using (List.getElem?_eq_some_iff.1 hj).1
  rw [key j hj20] at hj
  injection hj with hj
  rw [← hj]
  exact hat j hj20
 refine ⟨g,off,rfl,hg,hlt,vs[k*20+0]'(hi 0 (by decide)),vs[k*20+1]'(hi 1 (by decide)),vs[k*20+2]'(hi 2 (by decide)),vs[k*20+3]'(hi 3 (by decide)),vs[k*20+4]'(hi 4 (by decide)),vs[k*20+5]'(hi 5 (by decide)),vs[k*20+6]'(hi 6 (by decide)),vs[k*20+7]'(hi 7 (by decide)),vs[k*20+8]'(hi 8 (by decide)),vs[k*20+9]'(hi 9 (by decide)),vs[k*20+10]'(hi 10 (by decide)),vs[k*20+11]'(hi 11 (by decide)),vs[k*20+12]'(hi 12 (by decide)),vs[k*20+13]'(hi 13 (by decide)),vs[k*20+14]'(hi 14 (by decide)),vs[k*20+15]'(hi 15 (by decide)),vs[k*20+16]'(hi 16 (by decide)),vs[k*20+17]'(hi 17 (by decide)),vs[k*20+18]'(hi 18 (by decide)),vs[k*20+19]'(hi 19 (by decide)),A,c,B,d,E,f,os[k]'(by omega),hrg,List.getElem?_eq_getElem (by omega),eq 0 (by decide) _ e0,eq 1 (by decide) _ e1,eq 2 (by decide) _ e2,eq 3 (by decide) _ e3,eq 10 (by decide) _ e4,?_⟩
 intro u hu
 simp only [List.mem_cons,List.not_mem_nil,or_false] at hu
 apply h1
 rcases hu with rfl|rfl|rfl|rfl|rfl|rfl|rfl|rfl|rfl|rfl|rfl|rfl|rfl|rfl|rfl|rfl|rfl|rfl|rfl|rfl <;> exact List.getElem_mem _
theorem Bld.lt {w:World}{B b:Nat}{l:List UInt8}(h:Bld w B b l):b<w.heap.size:=by
 rcases h with ⟨-,v,hb,-⟩|⟨-,v,hb,-⟩ <;> exact (Array.getElem?_eq_some_iff.1 hb).1
theorem num_cell {W:World}{gS:Nat}{o:OutP}(x:W.heap[gS]?=some (.cells #[.int .i64 o.err,.int .i64 o.fd,.int .i64 o.dn,.int .i64 o.nn,.int .i64 o.xn] 3 (0,0))) (i:Nat) (h:i<5):∃ v:Nat,v=(numsOf o).getD i 0∧W.cell? ⟨gS,i,none⟩=some (.int .i64 v):=by
 match i,h with
 | 0,_=>exact ⟨_,rfl,cellOf x rfl⟩
 | 1,_=>exact ⟨_,rfl,cellOf x rfl⟩
 | 2,_=>exact ⟨_,rfl,cellOf x rfl⟩
 | 3,_=>exact ⟨_,rfl,cellOf x rfl⟩
 | 4,_=>exact ⟨_,rfl,cellOf x rfl⟩
 | j+5,h=>exact absurd h (by omega)
theorem shtext_any {w : World} {D : Nat → Prop} {O : Option Addr} {n c : Nat} {vs : List Value} {os : List OutP} (hr : Row w D O n 20 vs) (hD : ∀ b, D b → b < w.heap.size) (hv : OutsAt vs os) (hn : os.length = n) (h1 : ∀ u ∈ vs, u.oneCell' = true) (hf : ∀ o ∈ os, o.Few) (hn2 : n ≤ 100000) (htab : Lib.TabIs Tryz.prog w "internal/strconv.uint64pow10" .u64 Lib.pow10Tab) :
  Calls Tryz.prog 9 #[.slice O n c] w fun e w'=>e=.returned (.string (strOf (textOf os)))∧New w w':=by
 have k0:=(New.refl w).alloc (.cells #[.pointer none,.slice none 0 0] 64)
 have x0:=heap_alloc_new w (.cells #[.pointer none,.slice none 0 0] 64)
 obtain ⟨w1,hw1⟩:∃ w1,w1=w.alloc (.cells #[.pointer none,.slice none 0 0] 64):=⟨_,rfl⟩
 obtain ⟨gb,hgb⟩:∃ gb,gb=w.heap.size:=⟨_,rfl⟩
 rw [← hw1] at k0 x0
 rw [← hgb] at x0
 have HB:Hid (Keep (fun b=>b<w.heap.size) w w1∧Bld w1 w.heap.size gb (textTo os 0)):=Lib.hid ⟨Keep.of_new k0,Bld.start (by omega) x0⟩
 have HC:=Lib.hid (fun k (h:k<n)=>outs_cells hr hv hn h1 k h)
 have HL:=Lib.hid (fun k (h:k≤n)=>textTo_len os hf k (by omega))
 have HF:=Lib.hid (fun k o (h:os[k]?=some o)=>hf o (List.mem_of_getElem? h))
 have HN:=Lib.hid (And.intro hn (And.intro hD htab))
 clear hr hD hv hn h1 hf htab k0 x0
 go_enter Tryz.func9,Tryz.ntmps9
 go_upto_region 2 with fail
 rw [← hw1,← hgb]
 have HG:=Lib.hid (And.intro hw1 hgb)
 clear hw1 hgb
 go_wp2_with fail
 go_loopw [10] (fun s10 wx=>∃ k:Nat,s10=.int .i64 k∧k≤n∧Keep (fun b=>b<w.heap.size) w wx∧Bld wx w.heap.size gb (textTo os k)) (fun s _=>n-(intOf s).toNat)
 case atStart=>exact ⟨0,rfl,Nat.zero_le _,HB.out⟩
 case round =>
  obtain ⟨k,rfl,hk,hK,hB⟩:=hrel
  have HK:=Lib.hid (And.intro hK hB)
  clear hB
  by_cases h2:k=n
  rotate_left
  ·have hlt:k<n:=by omega
   have hli:(k:Int)<n:=by omega
   obtain ⟨g,off,hO,hg,hgl,t0,t1,t2,t3,t4,t5,t6,t7,t8,t9,t10,t11,t12,t13,t14,t15,t16,t17,t18,t19,A,ca,B,cb,E,ce,o,hcs,ho,rfl,rfl,rfl,rfl,rfl,hone⟩:=HC.out k hlt
   subst hO
   have hcs':wr.rangeAt g (off+k*20) [.int .i64 o.err,.int .i64 o.fd,.slice A o.dn ca,.slice B o.nn cb,t4,t5,t6,t7,t8,t9,.slice E o.xn ce,t11,t12,t13,t14,t15,t16,t17,t18,t19]:=fun j v hj=>hK.cell_some (hcs j v hj) hgl
   have HO:=Lib.hid hone
   have HOK:=Lib.hid (And.intro ho (HF.out k o ho))
   have HLT:=Lib.hid (And.intro hk (And.intro h2 hlt))
   have HR:=Lib.hid hcs'
   clear hcs hcs' hone hk h2 hg hgl hK ho
   go_upto_region 6 with (first|(refine wpList_load_mid rfl _ _ rfl g (off+k*20) rfl _ _ HR.out Tryz.underlying37 rfl (by kernel_rfl) ?_)|(refine st_all (heap_alloc_new wr _) (fun wE hE hKE=>?_) (h1:=by rw [Array.all_eq_true_iff_forall_mem];intro u hu;exact HO.out u (by simpa using hu));have c0:wE.cell? ⟨wr.heap.size,0,none⟩=some (.int .i64 o.err):=cellOf hE (k:=0) rfl;have c1:wE.cell? ⟨wr.heap.size,1,none⟩=some (.int .i64 o.fd):=cellOf hE (k:=1) rfl;have c2:wE.cell? ⟨wr.heap.size,2,none⟩=some (.slice A o.dn ca):=cellOf hE (k:=2) rfl;have c3:wE.cell? ⟨wr.heap.size,3,none⟩=some (.slice B o.nn cb):=cellOf hE (k:=3) rfl;have c10:wE.cell? ⟨wr.heap.size,10,none⟩=some (.slice E o.xn ce):=cellOf hE (k:=10) rfl))
   have kS:=(New.refl wE).alloc (.cells #[.int .i64 o.err,.int .i64 o.fd,.int .i64 o.dn,.int .i64 o.nn,.int .i64 o.xn] 3)
   have xS:=heap_alloc_new wE (.cells #[.int .i64 o.err,.int .i64 o.fd,.int .i64 o.dn,.int .i64 o.nn,.int .i64 o.xn] 3)
   obtain ⟨wS,hwS⟩:∃ wS,wS=wE.alloc (.cells #[.int .i64 o.err,.int .i64 o.fd,.int .i64 o.dn,.int .i64 o.nn,.int .i64 o.xn] 3):=⟨_,rfl⟩
   obtain ⟨gS,hgS⟩:∃ gS,gS=wE.heap.size:=⟨_,rfl⟩
   obtain ⟨gO,hgO⟩:∃ gO,gO=wr.heap.size:=⟨_,rfl⟩
   rw [← hwS] at kS xS ⊢
   rw [← hgS] at xS ⊢
   rw [← hgO]
   have n0:New wr wE:=((New.refl wr).alloc _).trans2 hKE fun b hb _=>Nat.ne_of_lt hb
   have n1:New wr wS:=n0.new kS
   have hne:gS≠gb:=by have:=HK.out.2.lt;have:=n0.size;omega
   have HI:=Lib.hid (And.intro (HK.out.1.new n1) (And.intro (HK.out.2.new n1) (And.intro xS hne)))
   clear kS xS hwS hgS hgO n0 n1 hne hE hKE c0 c1 c2 c3 c10 HR HO hli
   go_loopw [33] (fun s33 wy=>∃ i:Nat,s33=.int .i64 i∧i≤5∧Keep (fun b=>b<w.heap.size) w wy∧Bld wy w.heap.size gb (textTo os k++lineTo (numsOf o) i)∧wy.heap[gS]?=some (.cells #[.int .i64 o.err,.int .i64 o.fd,.int .i64 o.dn,.int .i64 o.nn,.int .i64 o.xn] 3 (0,0))) (fun s _=>5-(intOf s).toNat)
   case atStart=>exact ⟨0,rfl,by decide,HI.out.1,by rw [show lineTo (numsOf o) 0=[] from rfl,List.append_nil];exact HI.out.2.1,HI.out.2.2.1⟩
   case round =>
    obtain ⟨i,rfl,hi,hK,hB,hS⟩:=hrel
    have hlen:(textTo os k++lineTo (numsOf o) i).length≤11100110:=by
     rw [List.length_append]
     have h1:=HL.out k HLT.out.1
     have h2:=lineTo_len o HOK.out.2 i
     omega
    have HJ:=Lib.hid (And.intro hK (And.intro hB (And.intro hS hlen)))
    clear hB hlen
    by_cases h5:i=5
    rotate_left
    ·have hi5:i<5:=by omega
     have hii:(i:Int)<5:=by omega
     obtain ⟨v,hv,cv⟩:=num_cell hS i hi5
     have HV:=Lib.hid (And.intro hv (And.intro hi5 (hv▸HOK.out.2 i:v≤9223372036854775807)))
     clear hK hS hv hi h5 hi5
     by_cases h0:i=0
     ·subst h0
      go_wp2_with fail
      refine (itoa_any v HV.out.2.2 (tabIs_keep HN.out.2.2 HJ.out.1)).mono ?_
      rintro e wa ⟨rfl,ka⟩
      have HA:=Lib.hid ka
      clear ka
      go_wp2_with fail
      refine (wrstr_any (HJ.out.2.1.new HA.out) (Nat.le_trans (HJ.out.1).size HA.out.size) (Lib.decDigits v) (by have:=dec_len v HV.out.2.2;have:=HJ.out.2.2.2;omega)).mono ?_
      rintro e wb ⟨rfl,hb,kb,ob⟩
      have HB2:=Lib.hid (And.intro hb (And.intro kb ob))
      clear hb kb ob
      go_wp2_with fail
      go_roundw
      case rel=>exact ⟨1,rfl,by decide,(HJ.out.1.new HA.out).trans HB2.out.2.1,by rw [show lineTo (numsOf o) 1=lineTo (numsOf o) 0++([]++Lib.decDigits v) from by rw [HV.out.1];rfl,List.nil_append,← List.append_assoc];exact HB2.out.1,oth_block HB2.out.2.2 (HA.out.blockAt HJ.out.2.2.1 trivial) HI.out.2.2.2 (by decide)⟩
      case measure=>simp [intOf]
     ·have hp:(0:Int)<i:=by omega
      go_wp2_with fail
      refine (wrstr_any HJ.out.2.1 HJ.out.1.size [32] (by have:=HJ.out.2.2.2;simp only [List.length_singleton];omega)).mono ?_
      rintro e wc ⟨rfl,hc,kc,oc⟩
      have HC2:=Lib.hid (And.intro hc (And.intro (HJ.out.1.trans kc) (oth_block oc HJ.out.2.2.1 HI.out.2.2.2 (by decide))))
      clear hc kc oc
      go_wp2_with fail
      refine (itoa_any v HV.out.2.2 (tabIs_keep HN.out.2.2 HC2.out.2.1)).mono ?_
      rintro e wa ⟨rfl,ka⟩
      have HA:=Lib.hid ka
      clear ka
      go_wp2_with fail
      refine (wrstr_any (HC2.out.1.new HA.out) (Nat.le_trans (HC2.out.2.1).size HA.out.size) (Lib.decDigits v) (by have:=dec_len v HV.out.2.2;have:=HJ.out.2.2.2;simp only [List.length_append,List.length_singleton] at *;omega)).mono ?_
      rintro e wb ⟨rfl,hb,kb,ob⟩
      have HB2:=Lib.hid (And.intro hb (And.intro kb ob))
      clear hb kb ob
      go_wp2_with fail
      go_roundw
      case rel=>exact ⟨i+1,rfl,by have:=HV.out.2.1;omega,(HC2.out.2.1.new HA.out).trans HB2.out.2.1,by rw [show lineTo (numsOf o) (i+1)=lineTo (numsOf o) i++([32]++Lib.decDigits v) from by rw [HV.out.1];show lineTo (numsOf o) i++((if i=0 then [] else [32])++_)=_;rw [if_neg h0],← List.append_assoc,← List.append_assoc];exact HB2.out.1,oth_block HB2.out.2.2 (HA.out.blockAt HC2.out.2.2 trivial) HI.out.2.2.2 (by decide)⟩
      case measure=>simp [intOf];have:=HV.out.2.1;omega
    ·have hni:¬ ((i:Int)<5):=by omega
     subst h5
     clear hK hS hi
     go_wp2_with fail
     clear hni
     refine (wrstr_any HJ.out.2.1 HJ.out.1.size [10] (by have:=HJ.out.2.2.2;simp only [List.length_singleton];omega)).mono ?_
     rintro e wc ⟨rfl,hc,kc,oc⟩
     have HC2:=Lib.hid (And.intro hc (HJ.out.1.trans kc))
     clear hc kc oc
     go_wp2_with fail
     go_roundw
     case rel=>exact ⟨k+1,rfl,by have:=HLT.out;omega,HC2.out.2,by rw [textTo_step os k HOK.out.1];unfold lineOf;rw [← List.append_assoc];exact HC2.out.1⟩
     case measure=>simp [intOf];have:=HLT.out;omega
  ·have hnl:¬ ((k:Int)<n):=by omega
   have HE:=Lib.hid h2
   clear hK hk h2
   go_wp2_with fail
   clear hnl
   refine (bstr_any HK.out.2 HK.out.1.size).mono ?_
   rintro e wc ⟨rfl,kc⟩
   go_wp2_with fail
   go_ret
   have he:textTo os k=textOf os:=by
    rw [HE.out,← HN.out.1]
    unfold textTo textOf
    rw [List.take_length]
   exact ⟨congrArg (fun x=>Ending.returned (.string (strOf x))) he,(HK.out.1.trans kc).toNew fun b hb=>hb⟩
theorem text_30:textOf [⟨30,0,0,0,0⟩]=[51,48,32,48,32,48,32,48,32,48,10]:=by
 simp [textOf,lineOf,lineTo,numsOf,Lib.decDigits]
def V30:List Value:=[.int .i64 30,.int .i64 0,.slice none 0 0,.slice none 0 0,.int .i64 0,.int .i64 0,.int .i64 0,.int .i64 0,.int .u64 0,.bool false,.slice none 0 0,.int .i64 0,.int .i64 0,.int .i64 0,.slice none 0 0,.int .u64 0,.int .u64 0,.int .i64 0,.int .i64 0,.slice none 0 0]
theorem text_row {w : World} {D : Nat → Prop} {gO off c : Nat} (hr : Row w D (some ⟨gO, off, none⟩) 1 20 V30) (htab : Lib.TabIs Tryz.prog w "internal/strconv.uint64pow10" .u64 Lib.pow10Tab) :
  Calls Tryz.prog 9 #[.slice (some ⟨gO,off,none⟩) 1 c] w fun e w'=>e=.returned (.string ⟨#[51,48,32,48,32,48,32,48,32,48,10]⟩)∧New w w':=by
 refine (shtext_any (os:=[⟨30,0,0,0,0⟩]) (hr.imp (E:=fun b=>b<w.heap.size) fun b h _=>h) (fun b h=>h) (fun k h=>?_) rfl (by unfold V30;simp [Value.oneCell']) (fun o h=>?_) (by decide) htab).mono ?_
 ·obtain rfl:k=0:=by simpa using h
  exact ⟨none,0,none,0,none,0,rfl,rfl,rfl,rfl,rfl⟩
 ·obtain rfl:=List.mem_singleton.1 h
  intro i
  match i with
  | 0=>decide
  | 1=>decide
  | 2=>decide
  | 3=>decide
  | 4=>decide
  | i+5=>exact Nat.zero_le _
 ·rintro e w' ⟨rfl,k⟩
  exact ⟨by rw [text_30];rfl,k⟩
theorem known28_any (w : World) (hMx : MaxLenAt w) (htab : Lib.TabIs Tryz.prog w "internal/strconv.uint64pow10" .u64 Lib.pow10Tab) :
  Calls Tryz.prog 10 #[] w fun e w'=>e=.returned (.bool true)∧New w w':=by
 have hmk:∀ w,(Instr.makeSlice 24 (.int .i64 16) (.int .i64 16)).run Tryz.prog w=.ok (.slice (some ⟨w.heap.size,0,none⟩) 16 16) (w.alloc (.cells (id28.map byteVal).toArray 5)):=fun w=>make_noughts 16 (by decide) w
 have k0:=(New.refl w).alloc (.cells (id28.map byteVal).toArray 5)
 have r0:=(Row.made w 5 (id28.map byteVal).toArray 16 1 (by decide)).imp (E:=fun b=>b<w.heap.size+1) fun b hb h=>by simpa using hb
 obtain ⟨w1,hw1⟩:∃ w1,w1=w.alloc (.cells (id28.map byteVal).toArray 5):=⟨_,rfl⟩
 obtain ⟨gi,hgi⟩:∃ gi,gi=w.heap.size:=⟨_,rfl⟩
 have z1:w1.heap.size=w.heap.size+1:=by rw [hw1];simp
 rw [← hw1] at k0 r0
 rw [← hgi] at r0
 have r0':Bs w1 (fun b=>b<w1.heap.size) (some ⟨gi,0,none⟩) 16 id28:=r0.imp fun b _ h=>by omega
 have HDO:=Lib.hid (shdo_any (L:=none) (n:=0) r0' (fun b h=>h) (by decide:16≤16) (hMx.new k0) (.inl rfl))
 have H0:=Lib.hid (And.intro k0 (And.intro r0' (And.intro hMx htab)))
 clear k0 r0 r0' z1 hMx htab
 have e28:id28=List.replicate 16 0:=rfl
 go_enter Tryz.func10,Tryz.ntmps10
 go_upto_region 2 with fail
 have hw1':w1=w.alloc (.cells #[byteVal 0,byteVal 0,byteVal 0,byteVal 0,byteVal 0,byteVal 0,byteVal 0,byteVal 0,byteVal 0,byteVal 0,byteVal 0,byteVal 0,byteVal 0,byteVal 0,byteVal 0,byteVal 0] 5):=hw1
 rw [← hw1',← hgi]
 clear hmk e28 hw1 hw1' hgi
 go_wp2_with fail
 refine HDO.out.mono ?_
 rintro e w2 ⟨base,O,cO,D,cd,N,cn,A1,n1,c1,A2,n2,c2,A3,c3,rfl,hb,ho,k2⟩
 have H2:=Lib.hid k2
 clear hb ho k2 HDO
 go_upto_region 3 with (refine st_all (heap_alloc_new w2 _) (fun wE hE hKE=>?_))
 have hE':wE.heap[w2.heap.size]?=some (.cells #[.int .i64 0,.slice O 0 cO,.slice A1 n1 c1,.slice A2 n2 c2,.slice A3 8192 c3] 72 (0,0)):=hE
 have n3:New w1 wE:=H2.out.new (((New.refl w2).alloc _).trans2 hKE fun b hb _=>Nat.ne_of_lt hb)
 obtain ⟨gA,hgA⟩:∃ gA,gA=w2.heap.size:=⟨_,rfl⟩
 rw [← hgA] at hE' ⊢
 have HE:=Lib.hid (And.intro n3 hE')
 clear hE hKE hE' n3 hgA
 obtain ⟨wI,hwI⟩:∃ wI,wI=wE.alloc (.cells #[.int .i64 1,.int .i64 2,.string ⟨#[47,97]⟩,.string ⟨#[]⟩,.int .i64 0,.int .i64 0,.int .i64 0,.int .u64 0,.int .i64 0,.slice none 0 0,.slice none 0 0,.int .i64 0,.int .i64 0,.int .i64 4,.int .i64 0,.string ⟨#[]⟩,.string ⟨#[]⟩,.int .i64 0,.int .i64 0,.int .i64 0,.int .u64 0,.int .i64 0,.slice none 0 0,.slice none 0 0,.int .i64 0,.int .i64 0,.int .i64 9,.int .i64 0,.string ⟨#[]⟩,.string ⟨#[]⟩,.int .i64 0,.int .i64 0,.int .i64 0,.int .u64 0,.int .i64 0,.slice none 0 0,.slice none 0 0,.int .i64 0,.int .i64 0] 49):=⟨_,rfl⟩
 obtain ⟨gI,hgI⟩:∃ gI,gI=wE.heap.size:=⟨_,rfl⟩
 have kI:New wE wI:=by rw [hwI];exact (New.refl wE).alloc _
 have xI:wI.heap[gI]?=some (.cells items28.toArray 49 (0,0)):=by rw [hwI,hgI];exact heap_alloc_new wE _
 have nI:New w1 wI:=HE.out.1.new kI
 have HDO:=Lib.hid (shdo_any (L:=some ⟨gI,0,none⟩) (n:=3) (H0.out.2.1.new nI) (fun b (h:b<w1.heap.size)=>Nat.lt_of_lt_of_le h nI.size) (by decide:16≤16) ((H0.out.2.2.1.new H0.out.1).new nI) (.inr ⟨rfl,gI,rfl,xI⟩))
 have HI:=Lib.hid (And.intro nI (kI.blockAt HE.out.2 trivial))
 clear kI xI nI
 go_wp2_with fail
 rw [← hwI,← hgI]
 clear hwI hgI
 refine HDO.out.mono ?_
 rintro e w3 ⟨base,P,cP,D,cd,N,cn,B1,m1,d1,B2,m2,d2,B3,d3,rfl,hb,ho,k3⟩
 have H3:=Lib.hid (And.intro (HI.out.1.new k3) (And.intro (k3.blockAt HI.out.2 trivial) ho))
 clear hb ho k3 HDO HE HI
 go_upto_region 4 with (refine st_all (heap_alloc_new w3 _) (fun wF hF hKF=>?_))
 have hF':wF.heap[w3.heap.size]?=some (.cells #[.int .i64 0,.slice P 3 cP,.slice B1 m1 d1,.slice B2 m2 d2,.slice B3 8192 d3] 72 (0,0)):=hF
 have n4:New w3 wF:=((New.refl w3).alloc _).trans2 hKF fun b hb _=>Nat.ne_of_lt hb
 obtain ⟨gB,hgB⟩:∃ gB,gB=w3.heap.size:=⟨_,rfl⟩
 rw [← hgB] at hF' ⊢
 have hA:=n4.blockAt H3.out.2.1 trivial
 have hoF:=own_keep H3.out.2.2 n4 fun _ _=>trivial
 have nF:New w wF:=(H0.out.1.new H3.out.1).new n4
 have hrow:=Row.of_own hoF
 have hcap:3≤cP:=own_cap hoF
 obtain ⟨gO,off,hP,hgO,hlt,hcell⟩:=hrow.2 (by decide)
 subst hP
 have a0:wF.cell? ⟨gA,0,none⟩=some (.int .i64 0):=cellOf hA rfl
 have a1:wF.cell? ⟨gA,1,none⟩=some (.slice O 0 cO):=cellOf hA rfl
 have a4:wF.cell? ⟨gA,4,none⟩=some (.slice A3 8192 c3):=cellOf hA rfl
 have b0:wF.cell? ⟨gB,0,none⟩=some (.int .i64 0):=cellOf hF' rfl
 have b1:wF.cell? ⟨gB,1,none⟩=some (.slice (some ⟨gO,off,none⟩) 3 cP):=cellOf hF' rfl
 have q0:wF.cell? ⟨gO,off,none⟩=some (.int .i64 0):=hcell 0 _ rfl
 have q30:wF.cell? ⟨gO,off+30,none⟩=some (.slice none 0 0):=hcell 30 _ rfl
 have q40:wF.cell? ⟨gO,off+40,none⟩=some (.int .i64 30):=hcell 40 _ rfl
 have HT0:=Lib.hid (shtext_any (w:=wF) (O:=none) (c:=0) (os:=[]) (Row.nil wF (fun _=>False) none 20) (fun b h=>h.elim) (fun k h=>absurd h (by simp)) rfl (fun u h=>nomatch h) (fun o h=>nomatch h) (by decide) (tabIs_keep H0.out.2.2.2 (Keep.of_new nF)))
 have HR:=Lib.hid (show Row wF (fun _=>True) (some ⟨gO,off+40,none⟩) 1 20 V30 from ⟨rfl,fun _=>⟨gO,off+40,rfl,trivial,hlt,fun k u hu=>by rw [Nat.add_assoc];exact hcell (40+k) u (by have h:((outsOf 3 D cd N cn).drop 40)[k]?=some u:=hu;rwa [List.getElem?_drop] at h)⟩⟩)
 have HF:=Lib.hid (And.intro nF hrow)
 clear hF hF' hKF n4 hgB hA hoF nF hrow hcell
 go_wp2_with fail
 refine HT0.out.mono ?_
 rintro e w4 ⟨he,k4⟩
 obtain rfl:e=.returned (.string ⟨#[]⟩):=he
 have b1':=k4.cell_some b1 trivial
 have HT1:=Lib.hid (text_row (c:=cP-2) (HR.out.new k4) (tabIs_keep H0.out.2.2.2 (Keep.of_new (HF.out.1.new k4))))
 have HK:=Lib.hid (HF.out.1.new k4)
 clear k4 b1 HT0 a0 a1 a4 b0 q0 q30 q40 HF HR hlt
 go_wp2_with fail
 refine HT1.out.mono ?_
 rintro e w5 ⟨rfl,k5⟩
 go_wp2_with fail
 go_ret
 exact ⟨rfl,HK.out.new k5⟩
end Go.Proofs.YtdodbdednpnddaaGreatDoor
