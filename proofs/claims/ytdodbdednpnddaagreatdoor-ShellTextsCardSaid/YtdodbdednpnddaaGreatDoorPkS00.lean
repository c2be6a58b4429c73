/-
  PROVED HERE: texts that belong together, one behind the other; what each proves, and under which conditions, its own opening remark says: ShTexts28, Leaf28, OutsIn28, Laid28, ClaimShellTexts.
-/
import Derived.BigQuiet
import Derived.Deep.SlicePairs
import Derived.Lib.ItoaNum
import Derived.Shelf.Vars
import Derived.Stop.LaidErr
import Derived.Test.YtdodbdednpnddaaGreatDoorPkT08
import Derived.Test.YtdodbdednpnddaaGreatDoorPkT15
import Derived.Test.YtdodbdednpnddaaGreatDoorPkT16
import Derived.Test.YtdodbdednpnddaaGreatDoorPkU00
set_option maxRecDepth 100000
set_option maxHeartbeats 4000000
namespace Go.Proofs.YtdodbdednpnddaaGreatDoor
open Go.RowKit
def OutsIn (vs:List Value) (n:Nat):Prop:=∀ k,k<n→∃ (e f:Int) (A:Option Addr) (dn ca:Nat) (B:Option Addr) (nn cb:Nat) (E:Option Addr) (xn ce:Nat),vs[k*20]?=some (.int .i64 e)∧vs[k*20+1]?=some (.int .i64 f)∧vs[k*20+2]?=some (.slice A dn ca)∧vs[k*20+3]?=some (.slice B nn cb)∧vs[k*20+10]?=some (.slice E xn ce)∧(-9223372036854775808≤e∧e≤9223372036854775807)∧(-9223372036854775808≤f∧f≤9223372036854775807)∧dn≤9223372036854775807∧nn≤9223372036854775807∧xn≤9223372036854775807
theorem in_cells {w:World}{D:Nat→Prop}{O:Option Addr}{n:Nat}{vs:List Value}(hr:Row w D O n 20 vs) (hv:OutsIn vs n) (h1:∀ u∈vs,u.oneCell'=true) (k:Nat) (h:k<n):∃ g off,O=some ⟨g,off,none⟩∧D g∧g<w.heap.size∧∃ (e f:Int) (A:Option Addr) (dn ca:Nat) (B:Option Addr) (nn cb:Nat) (E:Option Addr) (xn ce:Nat) (t4 t5 t6 t7 t8 t9 t11 t12 t13 t14 t15 t16 t17 t18 t19:Value),
  w.rangeAt g (off+k*20) [.int .i64 e,.int .i64 f,.slice A dn ca,.slice B nn cb,t4,t5,t6,t7,t8,t9,.slice E xn ce,t11,t12,t13,t14,t15,t16,t17,t18,t19]∧(-9223372036854775808≤e∧e≤9223372036854775807)∧(-9223372036854775808≤f∧f≤9223372036854775807)∧(dn≤9223372036854775807∧nn≤9223372036854775807∧xn≤9223372036854775807)∧(∀ u∈[.int .i64 e,.int .i64 f,.slice A dn ca,.slice B nn cb,t4,t5,t6,t7,t8,t9,.slice E xn ce,t11,t12,t13,t14,t15,t16,t17,t18,t19],u.oneCell'=true):=by
 obtain ⟨hl,hc⟩:=hr
 obtain ⟨g,off,rfl,hg,hlt,hcell⟩:=hc (by omega)
 have hi:∀ i,i<20→k*20+i<vs.length:=fun i h=>by omega
 have hat:∀ i (h:i<20),w.cell? ⟨g,off+k*20+i,none⟩=some (vs[k*20+i]'(hi i h)):=fun i h=>by
  rw [Nat.add_assoc]
  exact hcell _ _ (List.getElem?_eq_getElem _)
 obtain ⟨e,f,A,dn,ca,B,nn,cb,E,xn,ce,e0,e1,e2,e3,e4,r0,r1,r2⟩:=hv k h
 have eq:∀ i (h:i<20) v,vs[k*20+i]?=some v→vs[k*20+i]'(hi i h)=v:=fun i h v e=>by
  rw [List.getElem?_eq_getElem (hi i h)] at e
  exact Option.some.inj e
 have key:∀ j (h:j<20),[vs[k*20+0]'(hi 0 (by decide)),vs[k*20+1]'(hi 1 (by decide)),vs[k*20+2]'(hi 2 (by decide)),vs[k*20+3]'(hi 3 (by decide)),vs[k*20+4]'(hi 4 (by decide)),vs[k*20+5]'(hi 5 (by decide)),vs[k*20+6]'(hi 6 (by decide)),vs[k*20+7]'(hi 7 (by decide)),vs[k*20+8]'(hi 8 (by decide)),vs[k*20+9]'(hi 9 (by decide)),vs[k*20+10]'(hi 10 (by decide)),vs[k*20+11]'(hi 11 (by decide)),vs[k*20+12]'(hi 12 (by decide)),vs[k*20+13]'(hi 13 (by decide)),vs[k*20+14]'(hi 14 (by decide)),vs[k*20+15]'(hi 15 (by decide)),vs[k*20+16]'(hi 16 (by decide)),vs[k*20+17]'(hi 17 (by decide)),vs[k*20+18]'(hi 18 (by decide)),vs[k*20+19]'(hi 19 (by decide))][j]?=some (vs[k*20+j]'(hi j h)):=fun j h=>by
  match j,h with
  | 0,_=>rfl
  | 1,_=>rfl
  | 2,_=>rfl
  | 3,_=>rfl
  | 4,_=>rfl
  | 5,_=>rfl
  | 6,_=>rfl
  | 7,_=>rfl
  | 8,_=>rfl
  | 9,_=>rfl
  | 10,_=>rfl
  | 11,_=>rfl
  | 12,_=>rfl
  | 13,_=>rfl
  | 14,_=>rfl
  | 15,_=>rfl
  | 16,_=>rfl
  | 17,_=>rfl
  | 18,_=>rfl
  | 19,_=>rfl
  | j+20,h=>exact absurd h (by omega)
 have hrg:w.rangeAt g (off+k*20) [vs[k*20+0]'(hi 0 (by decide)),vs[k*20+1]'(hi 1 (by decide)),vs[k*20+2]'(hi 2 (by decide)),vs[k*20+3]'(hi 3 (by decide)),vs[k*20+4]'(hi 4 (by decide)),vs[k*20+5]'(hi 5 (by decide)),vs[k*20+6]'(hi 6 (by decide)),vs[k*20+7]'(hi 7 (by decide)),vs[k*20+8]'(hi 8 (by decide)),vs[k*20+9]'(hi 9 (by decide)),vs[k*20+10]'(hi 10 (by decide)),vs[k*20+11]'(hi 11 (by decide)),vs[k*20+12]'(hi 12 (by decide)),vs[k*20+13]'(hi 13 (by decide)),vs[k*20+14]'(hi 14 (by decide)),vs[k*20+15]'(hi 15 (by decide)),vs[k*20+16]'(hi 16 (by decide)),vs[k*20+17]'(hi 17 (by decide)),vs[k*20+18]'(hi 18 (by decide)),vs[k*20+19]'(hi 19 (by decide))]:=fun j v hj=>by
  have hj20:j<20:=by simpa using (List.getElem?_eq_some_iff.1 hj).1
  rw [key j hj20] at hj
  injection hj with hj
  rw [← hj]
  exact hat j hj20
 rw [eq 0 (by decide) _ e0,eq 1 (by decide) _ e1,eq 2 (by decide) _ e2,eq 3 (by decide) _ e3,eq 10 (by decide) _ e4] at hrg
 refine ⟨g,off,rfl,hg,hlt,e,f,A,dn,ca,B,nn,cb,E,xn,ce,_,_,_,_,_,_,_,_,_,_,_,_,_,_,_,hrg,r0,r1,r2,?_⟩
 intro u hu
 simp only [List.mem_cons,List.not_mem_nil,or_false] at hu
 rcases hu with rfl|rfl|rfl|rfl|rfl|rfl|rfl|rfl|rfl|rfl|rfl|rfl|rfl|rfl|rfl|rfl|rfl|rfl|rfl|rfl <;> first|rfl|exact h1 _ (List.getElem_mem _)
theorem outsAt_snoc {vs:List Value}{os:List OutP}(h:OutsAt vs os) (hl:vs.length=os.length*20){e1 f1 dn ca nn cb xn ce:Nat}{A B E:Option Addr}{t4 t5 t6 t7 t8 t9 t11 t12 t13 t14 t15 t16 t17 t18 t19:Value}:OutsAt (vs++[.int .i64 (e1:Nat),.int .i64 (f1:Nat),.slice A dn ca,.slice B nn cb,t4,t5,t6,t7,t8,t9,.slice E xn ce,t11,t12,t13,t14,t15,t16,t17,t18,t19]) (os++[⟨e1,f1,dn,nn,xn⟩]):=fun k hk=>by
 rw [List.length_append,List.length_singleton] at hk
 by_cases h2:k<os.length
 ·obtain ⟨A0,c0,B0,d0,E0,f0,q0,q1,q2,q3,q4⟩:=h k h2
  have at_:∀ j v,vs[j]?=some v→(vs++[.int .i64 (e1:Nat),.int .i64 (f1:Nat),.slice A dn ca,.slice B nn cb,t4,t5,t6,t7,t8,t9,.slice E xn ce,t11,t12,t13,t14,t15,t16,t17,t18,t19])[j]?=some v:=fun j v e=>by rw [List.getElem?_append_left (List.getElem?_eq_some_iff.1 e).1];exact e
  rw [show (os++[(⟨e1,f1,dn,nn,xn⟩:OutP)])[k]'(by simp;omega)=os[k] from List.getElem_append_left h2]
  exact ⟨A0,c0,B0,d0,E0,f0,at_ _ _ q0,at_ _ _ q1,at_ _ _ q2,at_ _ _ q3,at_ _ _ q4⟩
 ·obtain rfl:k=os.length:=by omega
  have at_:∀ j,(vs++[.int .i64 (e1:Nat),.int .i64 (f1:Nat),.slice A dn ca,.slice B nn cb,t4,t5,t6,t7,t8,t9,.slice E xn ce,t11,t12,t13,t14,t15,t16,t17,t18,t19])[os.length*20+j]?=[.int .i64 (e1:Nat),.int .i64 (f1:Nat),.slice A dn ca,.slice B nn cb,t4,t5,t6,t7,t8,t9,.slice E xn ce,t11,t12,t13,t14,t15,t16,t17,t18,t19][j]?:=fun j=>by rw [List.getElem?_append_right (by omega),hl];congr 1;omega
  rw [show (os++[(⟨e1,f1,dn,nn,xn⟩:OutP)])[os.length]'(by simp)=⟨e1,f1,dn,nn,xn⟩ from by simp]
  exact ⟨A,ca,B,cb,E,ce,at_ 0,at_ 1,at_ 2,at_ 3,at_ 10⟩
def Texted (w wx:World) (i:Nat) (O:Option Addr) (c:Nat) (os:List OutP):Prop :=
 ∃ vs,New w wx∧Own wx w.heap.size 37 20 O i c vs∧OutsAt vs os∧os.length=i∧(∀ u∈vs,u.oneCell'=true)∧∀ o∈os,o.Few
theorem shtexts_any {w : World} {D : Nat → Prop} {O : Option Addr} {n c : Nat} {vs : List Value} (hr : Row w D O n 20 vs) (hv : OutsIn vs n) (h1 : ∀ u ∈ vs, u.oneCell' = true) (_hn : n ≤ 9223372036854775807) (hMx : MaxLenAt w) (htab : Lib.TabIs Tryz.prog w "internal/strconv.uint64pow10" .u64 Lib.pow10Tab) :
  Calls Tryz.prog 3 #[.slice O n c] w fun e w'=>e=.returned (.bool true)∧New w w':=by
 have HC:=Lib.hid (fun k (h:k<n)=>in_cells hr hv h1 k h)
 have HN:=Lib.hid (And.intro hMx htab)
 clear hr hv h1 hMx htab
 go_enter Tryz.func3,Tryz.ntmps3
 go_wp2_with fail
 go_loopw [3,4,5] (fun s3 s4 s5 wx=>∃ (i:Nat) (O3:Option Addr) (c3:Nat) (os:List OutP),s3=.slice O3 i c3∧s4=.string (strOf (textOf os))∧s5=.int .i64 i∧i≤10∧i≤n∧Texted w wx i O3 c3 os) (fun _ _ s _=>10-(intOf s).toNat)
 case atStart=>exact ⟨0,none,0,[],rfl,rfl,rfl,by decide,Nat.zero_le _,[],New.refl _,Own.nil _ _ _ _,fun k h=>absurd h (by simp),rfl,fun u h=>(nomatch h),fun o h=>(nomatch h)⟩
 case round =>
  obtain ⟨i,O3,c3,os,rfl,rfl,rfl,hi,hin,hT⟩:=hrel
  have HT:=Lib.hid hT
  have hNr:New w wr:=by obtain ⟨_,h,-⟩:=hT;exact h
  have HR:=Lib.hid hNr
  clear hT hNr
  by_cases h2:i<n∧i<10
  ·obtain ⟨h2,h3⟩:=h2
   have hli:(i:Int)<n:=by omega
   have hl3:(i:Int)<10:=by omega
   obtain ⟨g,off,hO,hg,hgl,e,f,A,dn,ca,B,nn,cb,E,xn,ce,t4,t5,t6,t7,t8,t9,t11,t12,t13,t14,t15,t16,t17,t18,t19,hcs,he,hf,hds,hone⟩:=HC.out i h2
   subst hO
   have HRG:=Lib.hid (fun j v hj=>HR.out.cell_some (hcs j v hj) trivial:wr.rangeAt g (off+i*20) [.int .i64 e,.int .i64 f,.slice A dn ca,.slice B nn cb,t4,t5,t6,t7,t8,t9,.slice E xn ce,t11,t12,t13,t14,t15,t16,t17,t18,t19])
   have HO:=Lib.hid hone
   have HB:=Lib.hid (And.intro he (And.intro hf (And.intro hds (And.intro h2 h3))))
   have HW1:Hid (∀ W,Calls Tryz.prog 7 #[.int .i64 e,.int .i64 0,.int .i64 255] W fun x w'=>x=.returned (.int .i64 ((e%256).toNat:Nat))∧W=w'):=Lib.hid fun W=>by
    have h:=within_any e 0 255 W he.1 he.2 (by decide) (by decide) (by decide)
    rwa [show (0:Int)+e%(255-0+1)=((e%256).toNat:Nat) from by omega] at h
   have HW2:Hid (∀ W,Calls Tryz.prog 7 #[.int .i64 f,.int .i64 0,.int .i64 65535] W fun x w'=>x=.returned (.int .i64 ((f%65536).toNat:Nat))∧W=w'):=Lib.hid fun W=>by
    have h:=within_any f 0 65535 W hf.1 hf.2 (by decide) (by decide) (by decide)
    rwa [show (0:Int)+f%(65535-0+1)=((f%65536).toNat:Nat) from by omega] at h
   have HE1:Hid ((e%256).toNat≤255∧(f%65536).toNat≤65535):=Lib.hid (by omega)
   generalize (e%256).toNat=e1 at *
   generalize (f%65536).toNat=f1 at *
   clear hcs he hf hds hone h2 h3 hg hgl hi hin
   go_upto_region 7 with (first|(refine wpList_load_mid rfl _ _ rfl g (off+i*20) rfl _ _ HRG.out Tryz.underlying37 rfl (by kernel_rfl) ?_)|(refine st_all (heap_alloc_new wr _) (fun wE hE hKE=>?_) (h1:=by rw [Array.all_eq_true_iff_forall_mem];intro u hu;exact HO.out u (by simpa using hu));have c0:wE.cell? ⟨wr.heap.size,0,none⟩=some (.int .i64 e):=cellOf hE (k:=0) rfl))
   have hE0:wE.heap[wr.heap.size]?=some (.cells #[.int .i64 e,.int .i64 f,.slice A dn ca,.slice B nn cb,t4,t5,t6,t7,t8,t9,.slice E xn ce,t11,t12,t13,t14,t15,t16,t17,t18,t19] 37 (0,0)):=hE
   have nE:New wr wE:=((New.refl wr).alloc _).trans2 hKE fun b hb _=>Nat.ne_of_lt hb
   have hnew:Hid (wr.heap.size≤wr.heap.size):=Lib.hid (Nat.le_refl _)
   obtain ⟨gO,hgO⟩:∃ gO,gO=wr.heap.size:=⟨_,rfl⟩
   rw [← hgO] at hE0 c0 ⊢
   have z0:=frozenOf hE0 0
   have hE1:=setCell_block hE0 0 (.int .i64 (e1:Nat))
   have q1:Keep (fun b=>b≠gO) wE (wE.setCell ⟨gO,0,none⟩ (.int .i64 (e1:Nat))):=(Keep.refl _ wE).setCell (p:=⟨gO,0,none⟩) (fun hd=>absurd rfl hd) _
   have HGO:=Lib.hid (And.intro hgO nE)
   clear hE hKE hE0 hgO nE hnew hli hl3
   go_wp2_with fail
   refine (HW1.out _).mono ?_
   rintro x w' ⟨rfl,rfl⟩
   go_upto_region 8 with fail
   clear c0 z0 HW1
   generalize wE.setCell ⟨gO,0,none⟩ (.int .i64 (e1:Nat))=wG at *
   have hG:wG.heap[gO]?=some (.cells #[.int .i64 (e1:Nat),.int .i64 f,.slice A dn ca,.slice B nn cb,t4,t5,t6,t7,t8,t9,.slice E xn ce,t11,t12,t13,t14,t15,t16,t17,t18,t19] 37 (0,0)):=hE1
   have c1:wG.cell? ⟨gO,1,none⟩=some (.int .i64 f):=cellOf hG (k:=1) rfl
   have z1:=frozenOf hG 1
   have hG1:=setCell_block hG 1 (.int .i64 (f1:Nat))
   have q2:=q1.setCell (p:=⟨gO,1,none⟩) (fun hd=>absurd rfl hd) (.int .i64 (f1:Nat))
   clear hE1 hG q1
   go_wp2_with fail
   refine (HW2.out _).mono ?_
   rintro x w' ⟨rfl,rfl⟩
   go_upto_region 9 with fail
   clear c1 z1 HW2
   generalize wG.setCell ⟨gO,1,none⟩ (.int .i64 (f1:Nat))=wH at *
   have hH:wH.heap[gO]?=some (.cells #[.int .i64 (e1:Nat),.int .i64 (f1:Nat),.slice A dn ca,.slice B nn cb,t4,t5,t6,t7,t8,t9,.slice E xn ce,t11,t12,t13,t14,t15,t16,t17,t18,t19] 37 (0,0)):=hG1
   have nH:New wr wH:=HGO.out.2.trans2 q2 fun b hb _=>by have:=HGO.out.1;show b≠gO;omega
   have hone2:∀ u∈[.int .i64 (e1:Nat),.int .i64 (f1:Nat),.slice A dn ca,.slice B nn cb,t4,t5,t6,t7,t8,t9,.slice E xn ce,t11,t12,t13,t14,t15,t16,t17,t18,t19],u.oneCell'=true:=fun u hu=>by
    simp only [List.mem_cons,List.not_mem_nil,or_false] at hu
    rcases hu with rfl|rfl|rfl|rfl|rfl|rfl|rfl|rfl|rfl|rfl|rfl|rfl|rfl|rfl|rfl|rfl|rfl|rfl|rfl|rfl <;> first|rfl|exact HO.out _ (by simp)
   obtain ⟨vs3,nT,oT,aT,lT,oneT,fewT⟩:=HT.out
   have kB:=(New.refl wH).alloc (.cells #[.int .i64 (e1:Nat),.int .i64 (f1:Nat),.slice A dn ca,.slice B nn cb,t4,t5,t6,t7,t8,t9,.slice E xn ce,t11,t12,t13,t14,t15,t16,t17,t18,t19] 37)
   have rB:=(Row.made wH 37 #[.int .i64 (e1:Nat),.int .i64 (f1:Nat),.slice A dn ca,.slice B nn cb,t4,t5,t6,t7,t8,t9,.slice E xn ce,t11,t12,t13,t14,t15,t16,t17,t18,t19] 1 20 rfl).imp (E:=fun _=>True) fun _ _ _=>trivial
   have oB:=own_keep oT (nH.new kB) (fun _ _=>trivial)
   have hbase:w.heap.size≤(wH.alloc (.cells #[.int .i64 (e1:Nat),.int .i64 (f1:Nat),.slice A dn ca,.slice B nn cb,t4,t5,t6,t7,t8,t9,.slice E xn ce,t11,t12,t13,t14,t15,t16,t17,t18,t19] 37)).heap.size:=Nat.le_trans nT.size (nH.new kB).size
   have HTT:=Lib.hid (And.intro aT (And.intro lT (And.intro oneT fewT)))
   have HN1:=Lib.hid (And.intro (nT.new nH) kB)
   clear nH nT aT lT oneT fewT hG1 q2
   have hi3:i≤10:=by have:=HB.out.2.2.2.2;omega
   go_upto_region 10 with (first|(refine ld_all hH ?_)|(refine wpList_plain rfl fun _ hK=>?_;refine wp_append_base (base:=w.heap.size) rfl Tryz.underlying22 (parts2 info20_out) (by decide) rfl oB rfl rB (fun u hu=>hone2 u hu) (by unfold maxLen;omega) (by omega) hbase ?_;intro A9 c9 wC o9 kC hbk;refine hK _ _ ?_))
   have hgo:some gO≠blk O3:=fun e=>by have:=(own_lt HT.out.choose_spec.2.1 gO e.symm).2;have:=HGO.out.1;omega
   have hC:=kC.blockAt (HN1.out.2.blockAt hH trivial) hgo
   have d0:∀ m,(wC.drewN m).cell? ⟨gO,0,none⟩=some (.int .i64 (e1:Nat)):=fun m=>cellOf (w:=wC) hC (k:=0) rfl
   have d1:∀ m,(wC.drewN m).cell? ⟨gO,1,none⟩=some (.int .i64 (f1:Nat)):=fun m=>cellOf (w:=wC) hC (k:=1) rfl
   have d2:∀ m,(wC.drewN m).cell? ⟨gO,2,none⟩=some (.slice A dn ca):=fun m=>cellOf (w:=wC) hC (k:=2) rfl
   have d3:∀ m,(wC.drewN m).cell? ⟨gO,3,none⟩=some (.slice B nn cb):=fun m=>cellOf (w:=wC) hC (k:=3) rfl
   have d4:∀ m,(wC.drewN m).cell? ⟨gO,10,none⟩=some (.slice E xn ce):=fun m=>cellOf (w:=wC) hC (k:=10) rfl
   have HC3:=Lib.hid (And.intro o9 (And.intro kC (And.intro hone2 (And.intro hbase (And.intro hi3 (And.intro hgo (And.intro oB (And.intro rB hbk))))))))
   clear o9 kC hone2 hbase hi3 hgo oB rB hbk hH hC kB
   obtain ⟨he1,hf1⟩:=HE1.out
   obtain ⟨hdn,hnn,hxn⟩:=HB.out.2.2.1
   obtain ⟨dd,hdd⟩:∃ dd:Nat→ByteArray,dd=fun N=>strOf (Lib.decDigits N):=⟨_,rfl⟩
   have hsz:∀ N,N≤9223372036854775807→(dd N).size≤21:=fun N hN=>by rw [hdd,strOf_size];exact dec_len N hN
   have HDG:=Lib.hid (fun (N:Nat) (hN:N≤9223372036854775807) W=>show Calls Tryz.prog 8 #[.int .i64 N] W fun e w'=>e=.returned (.string (dd N))∧w'=W from by rw [hdd];exact digits_any N hN W)
   have gD1:=hsz e1 (by omega)
   have gD2:=hsz f1 (by omega)
   have gD3:=hsz dn hdn
   have gD4:=hsz nn hnn
   have gD5:=hsz xn hxn
   obtain ⟨S0,hS0⟩:∃ S0,S0=strOf (textOf os):=⟨_,rfl⟩
   have gS0:S0.size≤2000:=by
    have h:=textTo_len os HTT.out.2.2.2 os.length (Nat.le_refl _)
    have hi3:=HC3.out.2.2.2.2.1
    rw [hS0,strOf_size,show textOf os=textTo os os.length from by unfold textOf textTo;rw [List.take_length]]
    have:=HTT.out.2.1
    omega
   rw [← hS0]
   have HDD:=Lib.hid (And.intro hdd hS0)
   have g1:¬ 9223372036854775807<(S0).size+(dd e1).size:=by (try simp only [ByteArray.size_append]);(try rw [show ({ data:=#[32] }:ByteArray).size=1 from rfl]);(try rw [show ({ data:=#[10] }:ByteArray).size=1 from rfl]);omega
   have g2:¬ 9223372036854775807<(S0++dd e1).size+(({ data:=#[32] }:ByteArray)).size:=by (try simp only [ByteArray.size_append]);(try rw [show ({ data:=#[32] }:ByteArray).size=1 from rfl]);(try rw [show ({ data:=#[10] }:ByteArray).size=1 from rfl]);omega
   have g3:¬ 9223372036854775807<(S0++dd e1++({ data:=#[32] }:ByteArray)).size+(dd f1).size:=by (try simp only [ByteArray.size_append]);(try rw [show ({ data:=#[32] }:ByteArray).size=1 from rfl]);(try rw [show ({ data:=#[10] }:ByteArray).size=1 from rfl]);omega
   have g4:¬ 9223372036854775807<(S0++dd e1++({ data:=#[32] }:ByteArray)++dd f1).size+(({ data:=#[32] }:ByteArray)).size:=by (try simp only [ByteArray.size_append]);(try rw [show ({ data:=#[32] }:ByteArray).size=1 from rfl]);(try rw [show ({ data:=#[10] }:ByteArray).size=1 from rfl]);omega
   have g5:¬ 9223372036854775807<(S0++dd e1++({ data:=#[32] }:ByteArray)++dd f1++({ data:=#[32] }:ByteArray)).size+(dd dn).size:=by (try simp only [ByteArray.size_append]);(try rw [show ({ data:=#[32] }:ByteArray).size=1 from rfl]);(try rw [show ({ data:=#[10] }:ByteArray).size=1 from rfl]);omega
   have g6:¬ 9223372036854775807<(S0++dd e1++({ data:=#[32] }:ByteArray)++dd f1++({ data:=#[32] }:ByteArray)++dd dn).size+(({ data:=#[32] }:ByteArray)).size:=by (try simp only [ByteArray.size_append]);(try rw [show ({ data:=#[32] }:ByteArray).size=1 from rfl]);(try rw [show ({ data:=#[10] }:ByteArray).size=1 from rfl]);omega
   have g7:¬ 9223372036854775807<(S0++dd e1++({ data:=#[32] }:ByteArray)++dd f1++({ data:=#[32] }:ByteArray)++dd dn++({ data:=#[32] }:ByteArray)).size+(dd nn).size:=by (try simp only [ByteArray.size_append]);(try rw [show ({ data:=#[32] }:ByteArray).size=1 from rfl]);(try rw [show ({ data:=#[10] }:ByteArray).size=1 from rfl]);omega
   have g8:¬ 9223372036854775807<(S0++dd e1++({ data:=#[32] }:ByteArray)++dd f1++({ data:=#[32] }:ByteArray)++dd dn++({ data:=#[32] }:ByteArray)++dd nn).size+(({ data:=#[32] }:ByteArray)).size:=by (try simp only [ByteArray.size_append]);(try rw [show ({ data:=#[32] }:ByteArray).size=1 from rfl]);(try rw [show ({ data:=#[10] }:ByteArray).size=1 from rfl]);omega
   have g9:¬ 9223372036854775807<(S0++dd e1++({ data:=#[32] }:ByteArray)++dd f1++({ data:=#[32] }:ByteArray)++dd dn++({ data:=#[32] }:ByteArray)++dd nn++({ data:=#[32] }:ByteArray)).size+(dd xn).size:=by (try simp only [ByteArray.size_append]);(try rw [show ({ data:=#[32] }:ByteArray).size=1 from rfl]);(try rw [show ({ data:=#[10] }:ByteArray).size=1 from rfl]);omega
   have g10:¬ 9223372036854775807<(S0++dd e1++({ data:=#[32] }:ByteArray)++dd f1++({ data:=#[32] }:ByteArray)++dd dn++({ data:=#[32] }:ByteArray)++dd nn++({ data:=#[32] }:ByteArray)++dd xn).size+(({ data:=#[10] }:ByteArray)).size:=by (try simp only [ByteArray.size_append]);(try rw [show ({ data:=#[32] }:ByteArray).size=1 from rfl]);(try rw [show ({ data:=#[10] }:ByteArray).size=1 from rfl]);omega
   clear hdd hS0 hsz
   go_quiet ((exact Calls.quiet_of_same (HDG.out _ (by omega) _)))
   have kq:=(New.refl wC).drewN nq
   have HQ:=Lib.hid kq
   have hib:i<10:=HB.out.2.2.2.2
   clear kq g1 g2 g3 g4 g5 g6 g7 g8 g9 g10 d0 d1 d2 d3 d4
   go_wp2_with fail
   go_roundw
   case rel =>
    obtain ⟨o9,kC,hone2,hbase,hi3,hgo,oB,rB,hbk⟩:=HC3.out
    obtain ⟨aT,lT,oneT,fewT⟩:=HTT.out
    have nC:New w (wC.drewN nq):=(Keep.trans2 (D:=fun b=>b<w.heap.size) (Keep.of_new (HN1.out.1.new HN1.out.2)) kC (fun b hb _ e=>by have:=(own_lt oB b e.symm).1;omega)).toNew (fun b hb=>hb) |>.new HQ.out
    refine ⟨i+1,A9,c9,os++[⟨e1,f1,dn,nn,xn⟩],rfl,?_,by simp,by omega,by have:=HB.out.2.2.2.1;omega,_,nC,own_keep o9 HQ.out fun _ _=>trivial,outsAt_snoc aT (by rw [lT];exact oB.1),by simp [lT],?_,?_⟩
    ·obtain ⟨hdd,hS0⟩:=HDD.out
     rw [hdd,hS0,show ({ data:=#[32] }:ByteArray)=strOf [32] from rfl,show ({ data:=#[10] }:ByteArray)=strOf [10] from rfl]
     simp only [strOf_app]
     unfold textOf
     rw [List.flatMap_append]
     simp [lineOf,lineTo,numsOf]
    ·intro u hu
     rcases List.mem_append.1 hu with h|h
     ·exact oneT u h
     ·exact hone2 u h
    ·intro o ho
     rcases List.mem_append.1 ho with h|h
     ·exact fewT o h
     ·obtain rfl:=List.mem_singleton.1 h
      intro j
      match j with
      | 0=>show e1≤_;omega
      | 1=>show f1≤_;omega
      | 2=>exact hdn
      | 3=>exact hnn
      | 4=>exact hxn
      | j+5=>exact Nat.zero_le _
   case measure=>simp [intOf];have:=HB.out.2.2.2.2;omega
  ·obtain ⟨vs3,nT,oT,aT,lT,oneT,fewT⟩:=HT.out
   have HTX:=Lib.hid (shtext_any (c:=c3) ((Row.of_own oT).imp (E:=fun b=>b<wr.heap.size) fun b h _=>h) (fun b h=>h) aT lT oneT fewT (by omega) (tabIs_keep HN.out.2 (Keep.of_new nT)))
   clear nT oT aT lT oneT fewT
   by_cases h3:i<n
   ·have hli:(i:Int)<n:=by omega
    have hl3:¬ ((i:Int)<10):=by omega
    clear h2 h3 hi hin
    go_wp2_with fail
    clear hli hl3
    refine HTX.out.mono ?_
    rintro e w5 ⟨rfl,k5⟩
    have H5:=Lib.hid (HR.out.new k5)
    clear k5 HTX
    go_wp2_with fail
    refine (known28_any w5 (HN.out.1.new H5.out) (tabIs_keep HN.out.2 (Keep.of_new H5.out))).mono ?_
    rintro e w6 ⟨rfl,k6⟩
    go_wp2_with fail
    go_ret
    exact ⟨rfl,H5.out.new k6⟩
   ·have hli:¬ ((i:Int)<n):=by omega
    clear h2 h3 hi hin
    go_wp2_with fail
    clear hli
    refine HTX.out.mono ?_
    rintro e w5 ⟨rfl,k5⟩
    have H5:=Lib.hid (HR.out.new k5)
    clear k5 HTX
    go_wp2_with fail
    refine (known28_any w5 (HN.out.1.new H5.out) (tabIs_keep HN.out.2 (Keep.of_new H5.out))).mono ?_
    rintro e w6 ⟨rfl,k6⟩
    go_wp2_with fail
    go_ret
    exact ⟨rfl,H5.out.new k6⟩
end Go.Proofs.YtdodbdednpnddaaGreatDoor
namespace Go.Proofs.YtdodbdednpnddaaGreatDoor
open Go.ChangeShapes Go.WideShapes Go.ChangeAt Go.RowKit Go.Joins Go.Deep
section
variable {H:Type}{enc:TypeId×Value→H}{W:World}{base:Nat}{sp:Nat→Bool}{held:Bool}{fuel:Nat}{v:Value}{x:DataW H×List MemPlace}
theorem leaf_int {k:IntKind}{t:TypeId}(ht:Tryz.prog.underlying t=some (.int k)) (h:DataW.trod enc Tryz.prog W base sp held fuel t [v]=some x):∃ n,v=.int k n∧(Lit.int k n).wf=true:=by
 obtain ⟨n,hn,_,hw⟩:=DataW.trod_int ht h
 injection hn with hn
 exact ⟨n,hn,hw⟩
theorem leaf_i64 {t:TypeId}(ht:Tryz.prog.underlying t=some (.int .i64)) (h:DataW.trod enc Tryz.prog W base sp held fuel t [v]=some x):∃ n,v=.int .i64 n ∧ -9223372036854775808≤n∧n≤9223372036854775807:=by
 obtain ⟨n,hn,hw⟩:=leaf_int ht h
 exact ⟨n,hn,by simpa [Lit.wf,IntKind.min,IntKind.max,IntKind.signed,IntKind.bits] using hw⟩
theorem leaf_one {t:TypeId}(ht:Tryz.prog.underlying t=some .bool∨∃ k,Tryz.prog.underlying t=some (.int k)) (h:DataW.trod enc Tryz.prog W base sp held fuel t [v]=some x):v.oneCell'=true:=by
 rcases ht with ht|⟨k,ht⟩
 ·obtain ⟨n,hn,_⟩:=DataW.trod_bool ht h
  injection hn with hn
  rw [hn];rfl
 ·obtain ⟨n,hn,_⟩:=DataW.trod_int ht h
  injection hn with hn
  rw [hn];rfl
theorem leaf_slice {t e:TypeId}(ht:Tryz.prog.underlying t=some (.slice e)) (h:DataW.trod enc Tryz.prog W base sp held fuel t [v]=some x):∃ A n c,v=.slice A n c∧n≤9223372036854775807:=by
 rcases open_slice ht h with ⟨hc,_⟩|⟨a,len,cap,m,n,D,Pl,hc,_,hl,hm,_⟩
 ·injection hc with hc
  exact ⟨none,0,0,hc,by decide⟩
 ·injection hc with hc
  unfold maxLen at hm
  exact ⟨some a,len,cap,hc,by omega⟩
theorem read_row {t e:TypeId}{s:Nat}(ht:Tryz.prog.underlying t=some (.slice e)) (ce:Tryz.prog.cellsOf e=s) (hs:0<s) (h:DataW.trod enc Tryz.prog W base sp held fuel t [v]=some x):
  ∃ (A:Option Addr) (n c:Nat) (vs:List Value) (R:Nat→List Value) (f:Nat),v=.slice A n c∧n≤c∧c≤maxLen∧Row W (fun _=>True) A n s vs ∧
   (∀ i,i<n→(∃ y,DataW.trod enc Tryz.prog W base sp held f e (R i)=some y)∧∀ j u,(R i)[j]?=some u→vs[i*s+j]?=some u)∧∀ u∈vs,∃ i,i<n∧u∈R i:=by
 rcases open_slice ht h with ⟨hc,_⟩|⟨a,len,cap,m,n,D,Pl,hc,_,hl,hm,hmm,_,hx⟩
 ·injection hc with hc
  exact ⟨none,0,0,[],fun _=>[],0,hc,Nat.le_refl _,Nat.zero_le _,Row.nil _ _ _ _,fun i hi=>absurd hi (Nat.not_lt_zero i),fun u hu=>nomatch hu⟩
 ·injection hc with hc
  have hlm:len≤m:=by rw [hmm];split <;> omega
  rw [ce] at hx
  obtain ⟨R,hR⟩:=choose_lt (α:=List Value) (p:=fun i r=>r.length=s∧(∃ y,DataW.trod enc Tryz.prog W base sp held n e r=some y)∧∀ j,j<s→W.cell? (a.add (i*s+j))=r[j]?) (fun i (hi:i<m)=>by
   obtain ⟨cs',h1,h2⟩:=hx i hi
   obtain ⟨_,hlen,hcell⟩:=World.cells?_some h1
   exact ⟨cs',hlen,⟨_,h2⟩,fun j hj=>by rw [← add_add];exact hcell j hj⟩)
  by_cases h0:len=0
  ·subst h0
   exact ⟨some a,0,cap,[],R,n,hc,hl,hm,⟨by rw [Nat.zero_mul];rfl,fun h=>absurd h (Nat.lt_irrefl 0)⟩,fun i hi=>absurd hi (Nat.not_lt_zero i),fun u hu=>nomatch hu⟩
  have dm:∀ i j,j<s→(i*s+j)/s=i∧(i*s+j)%s=j:=fun i j hj=>by
   rw [Nat.mul_comm,Nat.mul_add_div hs,Nat.div_eq_of_lt hj,Nat.mul_add_mod,Nat.mod_eq_of_lt hj]
   exact ⟨rfl,rfl⟩
  have hat:∀ k,k<len*s→k/s<len∧(R (k/s))[k%s]?=some ((R (k/s)).getD (k%s) (.bool false))∧W.cell? (a.add k)=some ((R (k/s)).getD (k%s) (.bool false)):=fun k hk=>by
   have h1:k/s<len:=Nat.div_lt_of_lt_mul (by rwa [Nat.mul_comm] at hk)
   obtain ⟨r1,_,r3⟩:=hR (k/s) (by omega)
   have hk2:=Nat.mod_lt k hs
   have e3:(R (k/s))[k%s]?=some ((R (k/s)).getD (k%s) (.bool false)):=by
    rw [List.getD_eq_getElem?_getD,List.getElem?_eq_getElem (by rw [r1];exact hk2)];rfl
   have e0:=r3 (k%s) hk2
   rw [e3,Nat.mul_comm,Nat.div_add_mod] at e0
   exact ⟨h1,e3,e0⟩
  have c0:=(hat 0 (Nat.mul_pos (by omega) hs)).2.2
  have hsp:=spot_none c0
  obtain ⟨b,off,sp'⟩:=a
  simp only at hsp
  subst hsp
  have hadd:∀ k,(Addr.mk b off none).add k=⟨b,off+k,none⟩:=by
   intro k;unfold Addr.add;split
   ·rename_i e;subst e;rfl
   ·rfl
  simp only [hadd] at hat c0
  have hlt:b<W.heap.size:=World.block_lt_of_cell? W _ c0
  have hlist:∀ k u,((List.range (len*s)).map fun k=>(R (k/s)).getD (k%s) (.bool false))[k]?=some u→k<len*s∧u=(R (k/s)).getD (k%s) (.bool false):=fun k u hu=>by
   have hk:k<len*s:=by
    have:=(List.getElem?_eq_some_iff.1 hu).1
    rwa [List.length_map,List.length_range] at this
   rw [List.getElem?_map,List.getElem?_range hk] at hu
   simp only [Option.map_some,Option.some.injEq] at hu
   exact ⟨hk,hu.symm⟩
  refine ⟨_,len,cap,(List.range (len*s)).map fun k=>(R (k/s)).getD (k%s) (.bool false),R,n,hc,hl,hm,⟨by rw [List.length_map,List.length_range],fun hn=>⟨b,off,rfl,trivial,hlt,fun k u hu=>?_⟩⟩,fun i hi=>⟨(hR i (by omega)).2.1,fun j u hu=>?_⟩,fun u hu=>?_⟩
  ·obtain ⟨hk,rfl⟩:=hlist k u hu
   exact (hat k hk).2.2
  ·have hj:j<s:=by
    have:=(List.getElem?_eq_some_iff.1 hu).1
    rwa [(hR i (by omega)).1] at this
   have h4:=Nat.mul_le_mul_right s (show i+1≤len from hi)
   rw [Nat.add_mul,Nat.one_mul] at h4
   rw [List.getElem?_map,List.getElem?_range (by omega)]
   simp only [Option.map_some]
   rw [(dm i j hj).1,(dm i j hj).2,List.getD_eq_getElem?_getD,hu];rfl
  ·obtain ⟨k,hk,rfl⟩:=List.mem_iff_getElem.1 hu
   obtain ⟨hk2,he⟩:=hlist k _ (List.getElem?_eq_getElem hk)
   rw [he]
   exact ⟨k/s,(hat k hk2).1,List.mem_of_getElem? (hat k hk2).2.1⟩
end
end Go.Proofs.YtdodbdednpnddaaGreatDoor
namespace Go.Proofs.YtdodbdednpnddaaGreatDoor
open Go.ChangeShapes Go.WideShapes Go.ChangeAt Go.RowKit Go.Joins Go.Deep
section
variable {H:Type}{enc:TypeId×Value→H}{W:World}{base:Nat}{sp:Nat→Bool}{held:Bool}{fuel:Nat}{v:Value}{x:DataW H×List MemPlace}
theorem out_elt {cs:List Value}(h:DataW.trod enc Tryz.prog W base sp held fuel 37 cs=some x):cs.length=20∧(∃ (e f:Int) (A:Option Addr) (dn ca:Nat) (B:Option Addr) (nn cb:Nat) (E:Option Addr) (xn ce:Nat),cs[0]?=some (.int .i64 e)∧cs[1]?=some (.int .i64 f)∧cs[2]?=some (.slice A dn ca)∧cs[3]?=some (.slice B nn cb)∧cs[10]?=some (.slice E xn ce)∧(-9223372036854775808≤e∧e≤9223372036854775807)∧(-9223372036854775808≤f∧f≤9223372036854775807)∧dn≤9223372036854775807∧nn≤9223372036854775807∧xn≤9223372036854775807)∧∀ u∈cs,u.oneCell'=true:=by
 have ce:Tryz.prog.cellsOf 37=20:=by kernel_rfl
 have cr:Tryz.prog.cellsOf 30=10:=by kernel_rfl
 have cn:Tryz.prog.cellsOf 28=6:=by kernel_rfl
 have cf:Tryz.prog.cellsOf 35=9:=by kernel_rfl
 have cp:Tryz.prog.cellsOf 33=3:=by kernel_rfl
 have c0:Tryz.prog.cellsOf 3=1:=by kernel_rfl
 have c1:Tryz.prog.cellsOf 23=1:=by kernel_rfl
 have c2:Tryz.prog.cellsOf 4=1:=by kernel_rfl
 have c3:Tryz.prog.cellsOf 26=1:=by kernel_rfl
 have c4:Tryz.prog.cellsOf 24=1:=by kernel_rfl
 have c5:Tryz.prog.cellsOf 25=1:=by kernel_rfl
 have c6:Tryz.prog.cellsOf 31=1:=by kernel_rfl
 obtain ⟨xs,k,_,_,hl,hxl,hf⟩:=DataW.trod_struct Tryz.underlying37 h
 rw [ce] at hl
 match xs,hxl,cs,hl with
 | [y0,y1,y2],_,[v0,v1,v2,v3,v4,v5,v6,v7,v8,v9,v10,v11,v12,v13,v14,v15,v16,v17,v18,v19],_ =>
  have g0:=hf 0 _ rfl
  simp [cr] at g0
  have g1:=hf 1 _ rfl
  simp [c6] at g1
  have g2:=hf 2 _ rfl
  simp [cf] at g2
  obtain ⟨r,rk,_,_,_,rl,rf⟩:=DataW.trod_struct Tryz.underlying30 g0
  obtain ⟨r0,r1,r2,r3,r4,rfl⟩:∃ r0 r1 r2 r3 r4,r=[r0,r1,r2,r3,r4]:=by
   match r,rl with
   | [r0,r1,r2,r3,r4],_=>exact ⟨_,_,_,_,_,rfl⟩
  have hr0:=rf 0 _ rfl
  simp [c1] at hr0
  have hr1:=rf 1 _ rfl
  simp [c0] at hr1
  have hr2:=rf 2 _ rfl
  simp [c4] at hr2
  have hr3:=rf 3 _ rfl
  simp [c5] at hr3
  have hr4:=rf 4 _ rfl
  simp [cn] at hr4
  obtain ⟨d,dk,_,_,_,dl,df⟩:=DataW.trod_struct Tryz.underlying28 hr4
  obtain ⟨d0,d1,d2,d3,d4,d5,rfl⟩:∃ d0 d1 d2 d3 d4 d5,d=[d0,d1,d2,d3,d4,d5]:=by
   match d,dl with
   | [d0,d1,d2,d3,d4,d5],_=>exact ⟨_,_,_,_,_,_,rfl⟩
  have hd0:=df 0 _ rfl
  simp [c0] at hd0
  have hd1:=df 1 _ rfl
  simp [c0] at hd1
  have hd2:=df 2 _ rfl
  simp [c0] at hd2
  have hd3:=df 3 _ rfl
  simp [c0] at hd3
  have hd4:=df 4 _ rfl
  simp [c3] at hd4
  have hd5:=df 5 _ rfl
  simp [c2] at hd5
  obtain ⟨m,mk,_,_,_,ml,mf⟩:=DataW.trod_struct Tryz.underlying35 g2
  obtain ⟨m0,m1,m2,m3,m4,m5,m6,rfl⟩:∃ m0 m1 m2 m3 m4 m5 m6,m=[m0,m1,m2,m3,m4,m5,m6]:=by
   match m,ml with
   | [m0,m1,m2,m3,m4,m5,m6],_=>exact ⟨_,_,_,_,_,_,_,rfl⟩
  have hm0:=mf 0 _ rfl
  simp [cp] at hm0
  have hm1:=mf 1 _ rfl
  simp [c4] at hm1
  have hm2:=mf 2 _ rfl
  simp [c3] at hm2
  have hm3:=mf 3 _ rfl
  simp [c3] at hm3
  have hm4:=mf 4 _ rfl
  simp [c0] at hm4
  have hm5:=mf 5 _ rfl
  simp [c0] at hm5
  have hm6:=mf 6 _ rfl
  simp [c4] at hm6
  obtain ⟨p,pk,_,_,_,pl,pf⟩:=DataW.trod_struct Tryz.underlying33 hm0
  obtain ⟨p0,p1,p2,rfl⟩:∃ p0 p1 p2,p=[p0,p1,p2]:=by
   match p,pl with
   | [p0,p1,p2],_=>exact ⟨_,_,_,rfl⟩
  have hp0:=pf 0 _ rfl
  simp [c0] at hp0
  have hp1:=pf 1 _ rfl
  simp [c0] at hp1
  have hp2:=pf 2 _ rfl
  simp [c0] at hp2
  obtain ⟨e,rfl,f0⟩:=leaf_i64 Tryz.underlying23 hr0
  obtain ⟨f,rfl,f1⟩:=leaf_i64 Tryz.underlying3 hr1
  obtain ⟨A,dn,ca,rfl,hdn⟩:=leaf_slice Tryz.underlying24 hr2
  obtain ⟨B,nn,cb,rfl,hnn⟩:=leaf_slice Tryz.underlying25 hr3
  obtain ⟨E,xn,ce,rfl,hxn⟩:=leaf_slice Tryz.underlying31 g1
  obtain ⟨A1,n1,c1,rfl,_⟩:=leaf_slice Tryz.underlying24 hm1
  obtain ⟨A2,n2,c2,rfl,_⟩:=leaf_slice Tryz.underlying24 hm6
  have o4:=leaf_one (Or.inr ⟨_,Tryz.underlying3⟩) hd0
  have o5:=leaf_one (Or.inr ⟨_,Tryz.underlying3⟩) hd1
  have o6:=leaf_one (Or.inr ⟨_,Tryz.underlying3⟩) hd2
  have o7:=leaf_one (Or.inr ⟨_,Tryz.underlying3⟩) hd3
  have o8:=leaf_one (Or.inr ⟨_,Tryz.underlying26⟩) hd4
  have o9:=leaf_one (Or.inl Tryz.underlying4) hd5
  have o11:=leaf_one (Or.inr ⟨_,Tryz.underlying3⟩) hp0
  have o12:=leaf_one (Or.inr ⟨_,Tryz.underlying3⟩) hp1
  have o13:=leaf_one (Or.inr ⟨_,Tryz.underlying3⟩) hp2
  have o15:=leaf_one (Or.inr ⟨_,Tryz.underlying26⟩) hm2
  have o16:=leaf_one (Or.inr ⟨_,Tryz.underlying26⟩) hm3
  have o17:=leaf_one (Or.inr ⟨_,Tryz.underlying3⟩) hm4
  have o18:=leaf_one (Or.inr ⟨_,Tryz.underlying3⟩) hm5
  refine ⟨rfl,⟨e,f,A,dn,ca,B,nn,cb,E,xn,ce,rfl,rfl,rfl,rfl,rfl,f0,f1,hdn,hnn,hxn⟩,fun u hu=>?_⟩
  simp only [List.mem_cons,List.not_mem_nil,or_false] at hu
  rcases hu with rfl|rfl|rfl|rfl|rfl|rfl|rfl|rfl|rfl|rfl|rfl|rfl|rfl|rfl|rfl|rfl|rfl|rfl|rfl|rfl <;> first|rfl|assumption
end
theorem read_outs {H:Type}{enc:TypeId×Value→H}{W:World}{base:Nat}{sp:Nat→Bool}{held:Bool}{fuel:Nat}{v:Value}{x:DataW H×List MemPlace}(h:DataW.trod enc Tryz.prog W base sp held fuel 22 [v]=some x):
  ∃ (A:Option Addr) (n c:Nat) (vs:List Value),v=.slice A n c∧n≤c∧c≤maxLen∧Row W (fun _=>True) A n 20 vs∧OutsIn vs n∧∀ u∈vs,u.oneCell'=true:=by
 obtain ⟨A,n,c,vs,R,f,hv,h1,h2,hr,hi,hu⟩:=read_row (s:=20) Tryz.underlying22 (by kernel_rfl) (by decide) h
 refine ⟨A,n,c,vs,hv,h1,h2,hr,fun k hk=>?_,fun u hm=>?_⟩
 ·obtain ⟨⟨y,hy⟩,at_⟩:=hi k hk
  obtain ⟨_,⟨e,f,A,dn,ca,B,nn,cb,E,xn,ce,e0,e1,e2,e3,e4,rest⟩,_⟩:=out_elt hy
  exact ⟨e,f,A,dn,ca,B,nn,cb,E,xn,ce,at_ 0 _ e0,at_ 1 _ e1,at_ 2 _ e2,at_ 3 _ e3,at_ 10 _ e4,rest⟩
 ·obtain ⟨i,hi2,hm⟩:=hu u hm
  obtain ⟨y,hy⟩:=(hi i hi2).1
  exact (out_elt hy).2.2 u hm
end Go.Proofs.YtdodbdednpnddaaGreatDoor
namespace Go.Proofs.YtdodbdednpnddaaGreatDoor
open Go.ChangeShapes Go.WideShapes Go.ChangeAt Go.RowKit
def tab8 (l:List Int):Array Value:=(l.map (Value.int .u8)).toArray
def tab32:Array Value:=tab8 [0,1,28,2,29,14,24,3,30,22,20,15,25,17,4,8,31,27,13,23,21,19,16,7,26,12,18,6,11,5,10,9]
def tab64:Array Value:=tab8 [0,1,56,2,57,49,28,3,61,58,42,50,38,29,17,4,62,47,59,36,45,43,51,22,53,39,33,30,24,18,12,5,63,55,48,27,60,41,37,16,46,35,44,21,52,32,23,11,54,26,40,15,34,20,31,10,25,14,19,9,13,8,7,6]
def tabPow:Array Value:=(Lib.pow10Tab.map (Value.int .u64)).toArray
noncomputable def laidWorld28 (os:Os):World :=
 { World.holding Tryz.prog os ⟨#[],#[],[]⟩ with heap:=(((((World.holding Tryz.prog os ⟨#[],#[],[]⟩).heap.modify 3 (withCells firstCells)).modify 4 (withCells rangeCells)).modify 1 (withCells tab32)).modify 2 (withCells tab64)).modify 0 (withCells tabPow) }
end Go.Proofs.YtdodbdednpnddaaGreatDoor
namespace Go.Proofs.YtdodbdednpnddaaGreatDoor.shellTexts
open Go.ChangeShapes Go.WideShapes Go.ChangeAt Go.RowKit Go.Joins Go.Deep
theorem maxlen_shaped {W:World}(h:W.ShapedOpen Tryz.prog):MaxLenAt W :=
 cell_of_shapedOpen_int (P:=Tryz.prog) (g:=5) (t:=3) (zero:=#[.int .i64 0]) h (of_decide_eq_true (by kernel_rfl)) (by kernel_rfl) rfl (by kernel_rfl) (by kernel_rfl) Tryz.underlying3
theorem pow10_laid {W : World} (h : laidMetH Tryz.prog Rows.shellTextsRow.laid W) : Lib.TabIs Tryz.prog W "internal/strconv.uint64pow10" .u64 Lib.pow10Tab :=
 have h2 : laidMet Tryz.prog (("internal/strconv.uint64pow10", Lib.tabData .u64 Lib.pow10Tab) :: _) W := laidMet.tail (laidMet.tail h)
 Lib.tabIs_of_head (g:=0) (t:=200) (e:=26) (n:=20) (by kernel_rfl) (by kernel_rfl) Tryz.underlying200 Tryz.underlying26 (by kernel_rfl) (by kernel_rfl) h2
theorem contract (H:Type) (enc:TypeId×Value→H) (W:World) (base:Nat) (args:Array Value) (ds gs:List (DataW H)) (before:List MemPlace)
  (hval:∀ (j:Nat) t v,Tryz.f3.params[j]?=some t→args[j]?=some v→Value.okWide Tryz.prog W .any base t v)
  (hL:laidMetH Tryz.prog Rows.shellTextsRow.laid W)
  (hsh:W.ShapedOpen Tryz.prog)
  (hW:DataW.Whole enc Tryz.prog Tryz.f3.params.toList Rows.shellTextsSpec.vars false W args.toList ds gs before):
  Calls Tryz.prog 3 args W fun e W'=>∃ v,e=.returned v∧Rows.shellTextsSpec.post enc Tryz.prog Tryz.f3 false true false false W args v W':=by
 have hW':=hW
 obtain ⟨p,q,hA0,hV,rfl,hfz,hnd⟩:=hW
 have hA:DataW.TrodAll enc Tryz.prog W 0 (fun _=>true) true Tryz.f3.params.toList args.toList ds p:=hA0
 rw [Tryz.params3] at hA hval
 obtain ⟨v0,vs0,d0,ds0,p0,q0,hargs,rfl,rfl,h0,r0⟩:=trodAll_cons hA
 obtain ⟨rfl,rfl,rfl⟩:=trodAll_nil r0
 obtain rfl:args=#[v0]:=by cases args;simp_all
 obtain ⟨rfl,rfl⟩:=trodVars_none hV
 obtain ⟨a0,l0,c0,rfl⟩:=okWide_slice Tryz.underlying22 (hval 0 _ v0 rfl rfl)
 obtain ⟨fu0,hf0⟩:=h0
 obtain ⟨B0,n0,k0,x0,hv0,hn0,hm0,hB0,hO0,h10⟩:=read_outs hf0
 rw [hv0] at hW' ⊢
 unfold maxLen at hm0
 refine (shtexts_any hB0 hO0 h10 (by omega) (maxlen_shaped hsh) (pow10_laid hL)).mono fun e W' ⟨he,hN⟩=>?_
 subst he
 exact ⟨_,rfl,law_post laid_out (by kernel_rfl) rfl (by kernel_rfl) Tryz.underlying4 hW' rfl rfl rfl hN⟩
def args0:Array Value:=#[.slice none 0 0]
theorem laid_met (os:Os):laidMet Tryz.prog Rows.shellTextsRow.laid ((laidWorld28 os).forCall (fun _ _=>0) ⟨#[],args0,[]⟩).memory :=
 laidMet_of_run' 8 (by kernel_rfl) (by kernel_rfl)
theorem reads (os:Os){H:Type}(enc:TypeId×Value→H):∃ places,DataW.whole enc Tryz.prog ((laidWorld28 os).forCall (fun _ _=>0) ⟨#[],args0,[]⟩).memory Tryz.f3.params.toList Rows.shellTextsSpec.vars false args0.toList 8=some ([.nil],[],places) :=
 ⟨[],by kernel_rfl⟩
theorem lifted (os:Os) (started:os.Started) (H:Type) (enc:TypeId×Value→H) (F:Stop.Interp):
  ReturnsInHanded {} Tryz.checked os 3 .any ((OpenSpec.ofChange Rows.shellTextsSpec).preRow enc Tryz.prog Tryz.f3 Rows.shellTextsRow.domain false Rows.shellTextsRow.laid) (((OpenSpec.ofChange Rows.shellTextsSpec).at F).post enc Tryz.prog Tryz.f3 false true false false):=by
 obtain ⟨places,hx⟩:=reads os enc
 refine returnsInHanded_of_row (C:=Tryz.checked) (s:=OpenSpec.ofChange Rows.shellTextsSpec) own_knob started (by kernel_rfl) Tryz.func3
  (witness_row_at (enc:=enc) (C:=Tryz.checked) false (laidWorld28 os) args0 rfl (by kernel_rfl) (by kernel_rfl) (by kernel_rfl)
   (OpenSpec.preRow_of_cond 8 hx (by kernel_rfl) (fun k hk=>by cases hk) (by kernel_rfl) (laid_met os))) ?_
 intro W base args ds gs before hval hW _ _ _ hL hsh _
 exact contract H enc W base args ds gs before hval hL hsh hW
theorem e1:(Rows.shellTextsRow.inPlace==Tryz.pinned.checked.prog.inPlace 3)=true:=by kernel_rfl
theorem e2:(Rows.shellTextsRow.unfollowed==Tryz.pinned.checked.prog.unfollowed 3)=true:=by kernel_rfl
theorem e3:(Rows.shellTextsRow.recurses==Tryz.pinned.checked.prog.recurses 3)=true:=by kernel_rfl
theorem e4:(Rows.shellTextsRow.named==Tryz.pinned.checked.prog.varsNamed 3)=true:=by kernel_rfl
theorem e5:laidOutB Tryz.pinned.checked.prog=true:=by kernel_rfl
theorem e6:mapsRowed Tryz.pinned.checked.prog=true:=by kernel_rfl
theorem e7:(Tryz.pinned.checked.prog.stops==[])=true:=by kernel_rfl
theorem e8:(Tryz.pinned.checked.prog.stopKnobs==[])=true:=by kernel_rfl
theorem e9:Tryz.pinned.checked.prog.stopsHeard=true:=by kernel_rfl
theorem e10:Tryz.pinned.checked.prog.mayEnter=true:=by kernel_rfl
theorem e11:(Rows.shellTextsRow.lifted==Tryz.pinned.checked.prog.liftsFinal)=true:=by kernel_rfl
theorem e12:(Tryz.pinned.checked.prog.make==some Rows.shellTextsRow.make)=true:=by kernel_rfl
theorem e13:(Rows.shellTextsRow.plainKeys==Tryz.pinned.checked.prog.plainKeys)=true:=by kernel_rfl
theorem e14:Tryz.pinned.checked.prog.looks []=true:=by kernel_rfl
theorem e15:false=Rows.shellTextsRow.goesBy Tryz.pinned.checked.prog:=by kernel_rfl
theorem closed:joinedFacts Tryz.pinned.checked.prog 3 Tryz.f3 (OpenSpec.ofChange Rows.shellTextsSpec).bare Rows.shellTextsRow=true:=by
 unfold joinedFacts
 simp only [Bool.and_eq_true]
 repeat' refine And.intro ?_ ?_
 all_goals first|with_reducible exact e1|with_reducible exact e2|with_reducible exact e3|with_reducible exact e4|with_reducible exact e5|with_reducible exact e6|with_reducible exact e7|with_reducible exact e8|with_reducible exact e9|with_reducible exact e10|with_reducible exact e11|with_reducible exact e12|with_reducible exact e13|kernel_rfl
theorem said:Rows.ShellTextsSaid :=
 OpenClaim.holds_of_cond 3 Tryz.f3 rfl rfl rfl rfl rfl rfl rfl ⟨rfl,rfl,rfl,rfl,rfl⟩ rfl rfl rfl rfl rfl (by kernel_rfl) Tryz.func3 closed
  (of_decide_eq_true (by kernel_rfl)) (by unfold Func.isWrapper;first|(rw [if_pos (by decide +kernel)];kernel_rfl)|(rw [if_neg (by decide +kernel)];exact ⟨rfl,rfl⟩))
  (fun os started H enc _ F=>by rw [OpenClaim.pre_eq_preRow];exact lifted os started H enc F)
theorem plain (f : FuncId) (fn : Func) (hf : Tryz.pinned.checked.prog.funcNamed "permafrost/permafrostlaw28.ShellTexts" = some f) (hfn : Tryz.pinned.checked.prog.funcs[f]? = some fn) :
  true=Tryz.pinned.checked.prog.looks []∧∀ (j:Nat) t,fn.params[j]?=some t→Tryz.pinned.checked.prog.wantsStandIn t=false:=by
 obtain rfl : f = 3 := Option.some.inj ((show Tryz.prog.funcNamed "permafrost/permafrostlaw28.ShellTexts" = some 3 by kernel_rfl).symm.trans hf) |>.symm
 obtain rfl:fn=Tryz.f3:=(Option.some.inj (Tryz.func3.symm.trans hfn)).symm
 refine ⟨e14.symm,fun j t ht=>?_⟩
 rw [Tryz.params3] at ht
 have hall:(#[22]:Array TypeId).toList.all (fun t=>Tryz.pinned.checked.prog.wantsStandIn t==false)=true:=by kernel_rfl
 have hm:t∈(#[22]:Array TypeId).toList:=Array.mem_toList_iff.2 (Array.mem_of_getElem? ht)
 simpa using List.all_eq_true.1 hall t hm
end Go.Proofs.YtdodbdednpnddaaGreatDoor.shellTexts
namespace Go.Proofs.YtdodbdednpnddaaGreatDoor
theorem shell_texts:Rows.ShellTextsCardSaid :=
 Claim7.holds_tied_plain_at .later [] _ _ _ _ shellTexts.said (fun _ h=>by cases h) (by kernel_rfl) (fun _ h=>by cases h) shellTexts_row_tie rfl ⟨rfl,rfl⟩ (by kernel_rfl) rfl shellTexts.plain shellTexts.e15
end Go.Proofs.YtdodbdednpnddaaGreatDoor
