/-
  PROVED HERE: texts that belong together, one behind the other; what each proves, and under which conditions, its own opening remark says: Recs, Row, Raws, Leaves, Concat, Merkle, Reader.
-/
import Derived.Test.YtdodbdednpnddaaGreatDoorRows
import Derived.ProofKit
import Derived.OpenShut
import Derived.Carry
import Derived.ChangeSlices
import Derived.Lib.SmallJoins
import Derived.Deep.SlicePairs
import Derived.Lib.AppendZerosOnto
import Derived.Lib.SliceRun
import Derived.Test.YtdodbdednpnddaaGreatDoorPkT07
set_option maxRecDepth 100000
set_option maxHeartbeats 2000000
namespace Go.Proofs.YtdodbdednpnddaaGreatDoor
open Go.RowKit
def RecAt (w:World) (D:Nat→Prop) (vs:List Value) (i:Nat) (r:RecP):Prop :=
 ∃ A c,vs[i]?=some (.int .i64 r.kind)∧vs[i+1]?=some (.int .u64 r.seq)∧vs[i+2]?=some (.slice A r.body.length c)∧r.body.length≤c∧Bs w D A r.body.length r.body∧0≤r.seq∧r.seq≤18446744073709551615∧r.body.length≤9223372036854770000∧c≤9223372036854775807
theorem RecAt.keep {w w':World}{D E:Nat→Prop}{vs:List Value}{i:Nat}{r:RecP}(h:RecAt w D vs i r) (hk:Keep E w w') (hE:∀ b,b<w.heap.size→D b→E b):RecAt w' D vs i r:=by
 obtain ⟨A,c,h1,h2,h3,h4,h5,h6,h7,h8⟩:=h
 exact ⟨A,c,h1,h2,h3,h4,h5.keep hk hE,h6,h7,h8⟩
theorem RecAt.imp {w:World}{D E:Nat→Prop}{vs:List Value}{i:Nat}{r:RecP}(h:RecAt w D vs i r) (hE:∀ b,b<w.heap.size→D b→E b):RecAt w E vs i r:=by
 obtain ⟨A,c,h1,h2,h3,h4,h5,h6,h7,h8⟩:=h
 exact ⟨A,c,h1,h2,h3,h4,h5.imp hE,h6,h7,h8⟩
def Recs (w:World) (D:Nat→Prop) (A:Option Addr) (n:Nat) (rs:List RecP):Prop :=
 ∃ vs:List Value,Row w D A n 3 vs∧rs.length=n∧∀ k (h:k<rs.length),RecAt w D vs (k*3) rs[k]
section
variable {w w':World}{D E:Nat→Prop}{A:Option Addr}{n:Nat}{rs:List RecP}
theorem Recs.len (h:Recs w D A n rs):rs.length=n:=by obtain ⟨_,_,h,_⟩:=h;exact h
theorem Recs.keep (h:Recs w D A n rs) (hk:Keep E w w') (hE:∀ b,b<w.heap.size→D b→E b):Recs w' D A n rs:=by
 obtain ⟨vs,h1,h2,h3⟩:=h
 exact ⟨vs,h1.keep hk hE,h2,fun k hk'=>(h3 k hk').keep hk hE⟩
theorem Recs.new (h:Recs w D A n rs) (hk:New w w'):Recs w' D A n rs:=h.keep hk fun _ _ _=>trivial
theorem Recs.at_ (h:Recs w D A n rs){k:Nat}(hk:k<rs.length):
  ∃ b off A' c',A=some ⟨b,off,none⟩∧w.cell? ⟨b,off+k*3,none⟩=some (.int .i64 rs[k].kind)∧w.cell? ⟨b,off+k*3+1,none⟩=some (.int .u64 rs[k].seq) ∧
   w.cell? ⟨b,off+k*3+2,none⟩=some (.slice A' rs[k].body.length c')∧rs[k].body.length≤c'∧Bs w D A' rs[k].body.length rs[k].body∧0≤rs[k].seq∧rs[k].seq≤18446744073709551615∧rs[k].body.length≤9223372036854770000∧c'≤9223372036854775807:=by
 obtain ⟨vs,h1,h2,h3⟩:=h
 obtain ⟨A',c',e1,e2,e3,hc,hb,h5,h6,h7⟩:=h3 k hk
 obtain ⟨b,off,hA,_,_,hcell⟩:=h1.2 (by omega)
 refine ⟨b,off,A',c',hA,hcell _ _ e1,?_,?_,hc,hb,h5,h6,h7⟩
 ·rw [Nat.add_assoc];exact hcell _ _ e2
 ·rw [Nat.add_assoc];exact hcell _ _ e3
end
def fitsIn:Nat→List RecP→Nat
 | _,[]=>0
 | left,r::rs=>if recRight r=true∧recSize r≤left then fitsIn (left-recSize r) rs+1 else 0
theorem fits_step (left k:Nat) (rs:List RecP) (hk:k<rs.length) (hr:recRight rs[k]=true) (hs:recSize rs[k]≤left):fitsIn left (rs.drop k)=fitsIn (left-recSize rs[k]) (rs.drop (k+1))+1:=by
 rw [List.drop_eq_getElem_cons hk,fitsIn,if_pos ⟨hr,hs⟩]
theorem fits_stop (left k:Nat) (rs:List RecP) (hk:k<rs.length) (h:¬ (recRight rs[k]=true∧recSize rs[k]≤left)):fitsIn left (rs.drop k)=0:=by
 rw [List.drop_eq_getElem_cons hk,fitsIn,if_neg h]
theorem fits_any (D:Nat→Prop) (A:Option Addr) (n c:Nat) (rs:List RecP) (w:World) (hB:Recs w D A n rs) (hn:n≤9223372036854775807):
  Calls Tryz.prog 190 #[.slice A n c] w fun e w'=>e=.returned (.int .i64 (fitsIn 942 rs))∧New w w':=by
 have hl:=hB.len
 have HB:=Lib.hid hB
 clear hB
 go_enter Tryz.func190,Tryz.ntmps190
 go_wp2_with fail
 go_loopw [3,8] (fun s3 i wx=>∃ k left:Nat,k≤n∧left≤942∧i=.int .i64 (k:Int)∧s3=.int .i64 (left:Int)∧fitsIn 942 rs=k+fitsIn left (rs.drop k)∧New w wx) (fun _ i _=>n-(intOf i).toNat)
 case atStart=>exact ⟨0,942,Nat.zero_le _,Nat.le_refl _,rfl,rfl,by simp,New.refl _⟩
 case round =>
  obtain ⟨k,left,hk,hlf,rfl,rfl,hf,hK⟩:=hrel
  have HF:=Lib.hid hf
  clear hf
  by_cases hlt:k<n
  ·obtain ⟨b,off,A',c',rfl,h1,h2,h3,hc',hb,hs0,hs1,hc9⟩:=(HB.out.new hK).at_ (k:=k) (by omega)
   have HST:=Lib.hid (fits_step left k rs (by omega))
   have HSP:=Lib.hid (fits_stop left k rs (by omega))
   generalize rs[k]'_=r at *
   have HR:=Lib.hid (fun w'=>right_any r.kind r.seq A' r.body.length c' r w' rfl rfl rfl (by omega))
   have HS:=Lib.hid (fun w'=>size_any r.kind r.seq A' r.body.length c' r w' rfl rfl rfl (by omega))
   have HO:=Lib.hid (heap_alloc_new wr (.cells #[.int .i64 r.kind,.int .u64 r.seq,.slice A' r.body.length c'] 188))
   have hK0:New w (wr.alloc (.cells #[.int .i64 r.kind,.int .u64 r.seq,.slice A' r.body.length c'] 188)):=hK.alloc _
   clear hb hc' hs0 hs1 hK
   go_wp2_with fail
   generalize wr.alloc _=w0 at *
   refine (HR.out _).mono ?_
   rintro e w1 ⟨rfl,hK1⟩
   have HO1:=Lib.hid (hK1.blockAt HO.out trivial)
   have hK01:=hK0.new hK1
   clear hK0 hK1 HO h1 h2 h3
   by_cases hr:recRight r=true
   ·have d0:=cellOf HO1.out (k:=0) rfl
    have d1:=cellOf HO1.out (k:=1) rfl
    have d2:=cellOf HO1.out (k:=2) rfl
    have HRR:=Lib.hid hr
    rw [hr]
    clear hr
    go_wp2_with fail
    clear d0 d1 d2
    refine (HS.out _).mono ?_
    rintro e w2 ⟨rfl,hK2⟩
    have HO2:=Lib.hid (hK2.blockAt HO1.out trivial)
    have hK02:=hK01.new hK2
    clear hK01 hK2 HO1
    by_cases hsz:recSize r≤left
    ·have hsz':¬ ((left:Int)<recSize r):=by omega
     obtain ⟨d0,d1,d2⟩:=cs3 HO2.out
     go_wp2_with fail
     clear d0 d1 d2
     refine (HS.out _).mono ?_
     rintro e w3 ⟨rfl,hK3⟩
     have hK03:=hK02.new hK3
     clear hK02 hK3 HO2
     go_wp2_with fail
     go_roundw
     case rel=>exact ⟨k+1,left-recSize r,by omega,by omega,by go_num,by rw [Int.ofNat_sub hsz],by have h:=HF.out;rw [HST.out HRR.out hsz] at h;omega,hK03⟩
     case measure=>simp [intOf];omega
    ·have hsz':(left:Int)<recSize r:=by omega
     have HZ:=Lib.hid (HSP.out (fun h=>hsz h.2))
     clear hsz
     go_wp2_with fail
     go_ret
     exact ⟨by rw [HF.out,HZ.out];rfl,hK02⟩
   ·have HZ:=Lib.hid (HSP.out (fun h=>hr h.1))
    have hr':recRight r=false:=by simpa using hr
    rw [hr']
    clear hr hr'
    go_wp2_with fail
    go_ret
    exact ⟨by rw [HF.out,HZ.out];rfl,hK01⟩
  ·obtain rfl:k=n:=by omega
   rw [List.drop_eq_nil_of_le (by omega)] at HF
   have hl':fitsIn left []=0:=rfl
   have HL':=Lib.hid hl'
   clear hl' hl
   go_wp2_with fail
   go_ret
   exact ⟨by rw [HF.out,HL'.out];rfl,hK⟩
end Go.Proofs.YtdodbdednpnddaaGreatDoor
namespace Go.Proofs.YtdodbdednpnddaaGreatDoor
open Go.ChangeShapes Go.WideShapes Go.ChangeAt Go.RowKit Go.Joins Go.Deep
theorem laid_out:laidOutB Tryz.prog=true:=by kernel_rfl
theorem own_knob:ownKnob Tryz.prog.godebug=none:=by kernel_rfl
section
variable {H:Type}{enc:TypeId×Value→H}{P:Program}{W W':World}
theorem trodAll_stays (hl:laidOutB P=true){sp':Nat→Bool}:∀ {ts:List TypeId}{vs:List Value}{ds:List (DataW H)}{ps:List MemPlace},(ts.all fun t=>P.readableRec t&&decide (t<P.types.size))=true →
  DataW.TrodAll enc P W 0 (fun _=>true) true ts vs ds ps→(∀ p∈ps,W.sameAt W' p)→(∀ p∈ps,sp' p.block=true)→DataW.TrodAll enc P W' 0 sp' true ts vs ds ps
 | [],[],[],_,_,h,_,_=>h
 | t::ts,v::vs,d::ds,ps,hr,h,hs,hp=>by
  obtain ⟨p,q,h1,h2,rfl⟩:=h
  simp only [List.all_cons,Bool.and_eq_true,decide_eq_true_eq] at hr
  refine ⟨p,q,WideElems.Trod_stays hl hr.1.1 hr.1.2 h1 (fun x hx=>hs x (by simp [hx])) (fun x hx=>hp x (by simp [hx])),trodAll_stays hl (by simpa using hr.2) h2 (fun x hx=>hs x (by simp [hx])) (fun x hx=>hp x (by simp [hx])),rfl⟩
theorem post_of_below {f:Func}{s:ChangeSpec}{apart fresh handsOn again:Bool}{args:Array Value}{v:Value}{ds gs:List (DataW H)}{before pa pv:List MemPlace}
  (hW:DataW.Whole enc P f.params.toList s.vars apart W args.toList ds gs before)
  (hres:∀ (b:Nat) (sp:Nat→Bool) (hd:Bool),DataW.TrodAll enc P W' b sp hd f.resultTypes.toList (v.resultList f.resultTypes.size) (s.fn H (ds++gs)).results [])
  (hargs:∀ sp:Nat→Bool,(∀ p∈before,sp p.block=true)→DataW.TrodAll enc P W' 0 sp true f.params.toList args.toList (s.fn H (ds++gs)).args pa)
  (hvars:∀ sp:Nat→Bool,(∀ p∈before,sp p.block=true)→DataW.TrodVars enc P W' sp s.vars (s.fn H (ds++gs)).vars pv)
  (hps:before=pa++pv) (hb:Below W.heap.size W W')
  (hok:∀ (j:Nat) (t:TypeId) (r:Value),f.resultTypes[j]?=some t→(v.resultList f.resultTypes.size)[j]?=some r→Value.okWide P W' .any 0 t r):
  s.post enc P f apart fresh handsOn again W args v W':=by
 have hlt:∀ p∈before,p.block<W.heap.size:=fun p hp=>hW.lt p hp
 have hold:∀ p∈before,(fun b=>decide (b<W.heap.size)) p.block=true:=fun p hp=>by simpa using hlt p hp
 refine ⟨ds,gs,before,[],pa,pv,hW,hres _ _ _,hargs _ hold,hvars _ hold,World.keptBut_mono (fun p hp=>⟨hp,?_⟩) (hb.frame (· ∈ before)),fun _=>?_⟩
 ·rw [hps,List.mem_append] at hp
  exact Or.inr hp
 ·obtain ⟨_,_,_,_,_,hz,hn⟩:=hW
  refine ⟨hok,_,_,([]++pa)++pv,⟨[]++pa,pv,trodAll_append (hargs _ (fun _ _=>rfl)) (hres _ _ _),hvars _ (fun _ _=>rfl),rfl,?_,?_⟩,?_⟩
  ·intro b off hp
   have hin:MemPlace.cell b off∈before:=by rw [hps];simpa using hp
   rw [hb.frozen (hlt _ hin)]
   exact hz b off hin
  ·intro ha
   have:=hn ha
   rw [hps] at this
   simpa using this
  ·intro p hp _
   rw [hps]
   simpa using hp
theorem law_post {f:Func}{s:ChangeSpec}{apart fresh handsOn again:Bool}{args:Array Value}{tb:TypeId}{ds gs:List (DataW H)}{before:List MemPlace}
  (hl:laidOutB P=true) (hts:(f.params.toList.all fun t=>P.readableRec t&&decide (t<P.types.size))=true) (hv:s.vars=[]) (hrt:f.resultTypes=#[tb]) (htb:P.underlying tb=some .bool)
  (hW:DataW.Whole enc P f.params.toList s.vars apart W args.toList ds gs before)
  (hr:(s.fn H (ds++gs)).results=[.lit (.bool true)]) (ha:(s.fn H (ds++gs)).args=ds) (hva:(s.fn H (ds++gs)).vars=[]) (hN:New W W'):
  s.post enc P f apart fresh handsOn again W args (.bool true) W':=by
 have hW':=hW
 obtain ⟨p,q,hA,hV,rfl,hfz,hnd⟩:=hW
 rw [hv] at hV
 have hq:gs=[]∧q=[]:=by
  cases gs with
  | nil=>exact ⟨rfl,hV⟩
  | cons _ _=>exact hV.elim
 obtain ⟨rfl,rfl⟩:=hq
 have hb:Below W.heap.size W W':=hN.below
 refine post_of_below (pa:=p) (pv:=[]) hW' (fun _ _ _=>?_) (fun sp hsp=>?_) (fun _ _=>?_) rfl hb ?_
 ·rw [hr,hrt];exact trodAll_cons_mk (shut_bool htb _) trodAll_mk0
 ·rw [ha];exact trodAll_stays hl hts hA (fun x hx=>hb.same (hW'.lt x (by simp [hx]))) (fun x hx=>hsp x (by simp [hx]))
 ·rw [hva,hv];rfl
 ·exact ok_one hrt rfl (okWide_bool_mk htb _)
end
theorem spot_none {W:World}{a:Addr}{u:Value}(h:W.cell? (a.add 0)=some u):a.spot=none:=by
 obtain ⟨b,o,s⟩:=a
 cases s with
 | none=>rfl
 | some i =>
  exfalso
  have e:(Addr.mk b o (some i)).add 0=⟨b,o,some i⟩:=rfl
  rw [e] at h
  unfold World.cell? at h
  split at h
  ·simp at h
  ·cases h
end Go.Proofs.YtdodbdednpnddaaGreatDoor
namespace Go.Proofs.YtdodbdednpnddaaGreatDoor
open Go.ChangeShapes Go.WideShapes Go.ChangeAt Go.RowKit Go.Joins Go.Deep
structure RawP where
 mark:Bool
 body:List UInt8
instance:Inhabited RawP:=⟨⟨false,[]⟩⟩
section
variable {w w':World}{D E:Nat→Prop}{A:Option Addr}{n:Nat}{ls:List RawP}
end
end Go.Proofs.YtdodbdednpnddaaGreatDoor
namespace Go.Proofs.YtdodbdednpnddaaGreatDoor
open Go.RowKit
theorem info_bytes:(Tryz.prog.info? 24).map (fun i=>(i.zero,i.size,i.bytes))=some (some (.slice none 0 0),1,24):=by kernel_rfl
theorem app_rows {ops:Array Oper}{rest:List Oper}{o:Oper}{a:Act}{Q:Exit→Act→World→Prop}(w:World) (hgd:o.guard=none) (s x:Operand)
  (ho:o.op=.call { callee:=.builtin .append,args:=#[s,x],argTypes:=#[208,208] })
  (base:Nat) (A:Option Addr) (n c:Nat) (xs:List Value) (hs:a.eval s=.slice A n c) (hown:Own w base 24 1 A n c xs)
  (D:Nat→Prop) (A2:Option Addr) (m c2:Nat) (news:List Value) (hx:a.eval x=.slice A2 m c2) (hr:Row w D A2 m 1 news) (h1:∀ u∈news,u.oneCell'=true)
  (h63:n+m≤1099511627776) (hbase:base≤w.heap.size)
  (h:∀ A' c' w',Own w' base 24 1 A' (n+m) c' (xs++news)→w.grownBy w' (blk A)→(blk A'=blk A∨blk A'=some w.heap.size)→wpList Tryz.prog ops Q rest (a.put o.dst (.slice A' (n+m) c')) w'):wpList Tryz.prog ops Q (o::rest) a w:=by
 obtain ⟨i,hi,hz0,hz1,hz2⟩:=info_parts info_bytes
 exact wpList_append_row w hgd s x 208 ho base 24 i (.slice none 0 0) 1 24 Tryz.underlying208 hi hz0 hz1 hz2 rfl (by decide) A n c xs hs hown D A2 m c2 news hx hr h1 (by unfold maxLen;omega) (by omega) hbase h
def OwnBss (w:World) (base:Nat) (D:Nat→Prop) (A:Option Addr) (n c:Nat) (ls:List (List UInt8)):Prop :=
 ∃ vs:List Value,Own w base 24 1 A n c vs∧ls.length=n∧∀ k (h:k<ls.length),∃ A' c',vs[k]?=some (.slice A' ls[k].length c')∧ls[k].length≤c'∧Bs w (fun b=>D b∧some b≠blk A) A' ls[k].length ls[k]
section
variable {w w':World}{base base':Nat}{D E:Nat→Prop}{A:Option Addr}{n c:Nat}{ls:List (List UInt8)}
theorem OwnBss.bss (h:OwnBss w base D A n c ls):Bss w (fun b=>base≤b∨D b) A n ls:=by
 obtain ⟨vs,h1,h2,h3⟩:=h
 refine ⟨vs,(Row.of_own h1).imp (fun _ _ h=>.inl h),h2,fun k hk=>?_⟩
 obtain ⟨A',c',e,hc,hb⟩:=h3 k hk
 exact ⟨A',c',e,hc,hb.imp fun _ _ h=>.inr h.1⟩
theorem OwnBss.nil (w:World) (base:Nat) (D:Nat→Prop):OwnBss w base D none 0 0 []:=⟨[],Own.nil _ _ _ _,rfl,fun k hk=>absurd hk (by simp)⟩
theorem OwnBss.new (h:OwnBss w base D A n c ls) (hk:New w w'):OwnBss w' base D A n c ls:=by
 obtain ⟨vs,h1,h2,h3⟩:=h
 refine ⟨vs,own_keep h1 hk (fun _ _=>trivial),h2,fun k hk'=>?_⟩
 obtain ⟨A',c',e,hc,hb⟩:=h3 k hk'
 exact ⟨A',c',e,hc,hb.new hk⟩
theorem OwnBss.cap (h:OwnBss w base D A n c ls):n≤c:=by obtain ⟨_,h,_⟩:=h;exact own_cap h
theorem own_capMax {w:World}{base:Nat}{e:TypeId}{size n c:Nat}{A:Option Addr}{xs:List Value}(h:Own w base e size A n c xs):c≤9223372036854775807:=by
 rcases h.2 with ⟨hv,hn⟩|⟨g,cap,cur,hv,hb,hg,h1,h2,h3,h4⟩
 ·injection hv with h5 h6 h7;omega
 ·injection hv with h5 h6 h7;unfold maxLen at h2;omega
theorem OwnBss.capMax (h:OwnBss w base D A n c ls):c≤9223372036854775807:=by obtain ⟨_,h,_⟩:=h;exact own_capMax h
theorem OwnBss.lt (h:OwnBss w base D A n c ls):∀ k,blk A=some k→base≤k∧k<w.heap.size:=by obtain ⟨_,h,_⟩:=h;exact own_lt h
end
theorem own_u8_ne {w:World}{base base':Nat}{A A':Option Addr}{n c n' c':Nat}{xs:List Value}{bs:List UInt8}(h:Own w base 24 1 A n c xs) (hb:OwnB w base' 5 A' n' c' bs):Bs w (fun b=>base'≤b∧some b≠blk A) A' n' bs:=by
 have hr:=Row.of_own hb
 refine ⟨hr.1,fun hn=>?_⟩
 obtain ⟨b,off,rfl,hd,hlt,hc⟩:=hr.2 hn
 refine ⟨b,off,rfl,⟨hd,fun e=>?_⟩,hlt,hc⟩
 rcases hb.2 with ⟨hv,_⟩|⟨g,cap,cur,hv,_,hg,_⟩
 ·cases hv
 ·injection hv with hA;injection hA with hA;injection hA with hA;subst hA
  rcases h.2 with ⟨hv2,_⟩|⟨g2,cap2,cur2,hv2,_,hg2,_⟩
  ·injection hv2 with hA;subst hA;cases e
  ·injection hv2 with hA;subst hA
   have:b=g2:=by injection e
   subst this
   rw [hg] at hg2
   injection hg2 with hg2
   injection hg2 with _ ht
   exact absurd ht (by decide)
theorem OwnBss.apart {w:World}{base base':Nat}{D:Nat→Prop}{A A':Option Addr}{n c n' c':Nat}{ls:List (List UInt8)}{bs:List UInt8}(h:OwnBss w base D A n c ls) (hb:OwnB w base' 5 A' n' c' bs):Bs w (fun b=>base'≤b∧some b≠blk A) A' n' bs:=by
 obtain ⟨_,h,_⟩:=h;exact own_u8_ne h hb
theorem row_one (w:World) (t:TypeId) (v:Value):Row (w.alloc (.cells #[v] t)) (fun b=>w.heap.size≤b) (some ⟨w.heap.size,0,none⟩) 1 1 [v]:=Row.made w t #[v] 1 1 rfl
theorem app_bss {ops:Array Oper}{rest:List Oper}{o:Oper}{a:Act}{Q:Exit→Act→World→Prop}(w:World) (hgd:o.guard=none) (s x:Operand)
  (ho:o.op=.call { callee:=.builtin .append,args:=#[s,x],argTypes:=#[208,208] })
  (base:Nat) (D:Nat→Prop) (A:Option Addr) (n c:Nat) (ls:List (List UInt8)) (hs:a.eval s=.slice A n c) (hown:OwnBss w base D A n c ls)
  (D2:Nat→Prop) (A2:Option Addr) (c2:Nat) (A':Option Addr) (m c':Nat) (y:List UInt8) (hx:a.eval x=.slice A2 1 c2) (hr:Row w D2 A2 1 1 [.slice A' m c']) (hy:Bs w (fun b=>D b∧some b≠blk A) A' m y) (hmc:m≤c')
  (h63:n+1≤1099511627776) (hbase:base≤w.heap.size)
  (h:∀ A3 c3 w3,OwnBss w3 base D A3 (n+1) c3 (ls++[y])→w.grownBy w3 (blk A)→(blk A3=blk A∨blk A3=some w.heap.size)→wpList Tryz.prog ops Q rest (a.put o.dst (.slice A3 (n+1) c3)) w3):wpList Tryz.prog ops Q (o::rest) a w:=by
 obtain ⟨vs,h1,h2,h3⟩:=hown
 refine app_rows w hgd s x ho base A n c vs hs h1 D2 A2 1 c2 [.slice A' m c'] hx hr (by intro u hu;simp at hu;subst hu;rfl) h63 hbase ?_
 intro A3 c3 w3 hown3 hg3 hbk3
 refine h A3 c3 w3 ⟨vs++[.slice A' m c'],hown3,by simp [h2],fun k hk=>?_⟩ hg3 hbk3
 have hvl:vs.length=n:=by have:=h1.1;simpa using this
 have hyl:=hy.len
 have move:∀ {A0:Option Addr} {m0:Nat} {z:List UInt8},Bs w (fun b=>D b∧some b≠blk A) A0 m0 z→Bs w3 (fun b=>D b∧some b≠blk A3) A0 m0 z:=fun {A0 m0 z} hb=>by
  have hk3:Keep (fun b=>some b≠blk A) w w3:=(Keep.refl _ w).grown hg3 (fun k hk hd=>absurd hk.symm hd)
  have hb3:Bs w (fun b=>(D b∧some b≠blk A)∧some b≠blk A3) A0 m0 z:=hb.imp fun b hlt hd=>⟨hd,by
   rcases hbk3 with e|e
   ·rw [e];exact hd.2
   ·rw [e];intro e';injection e';omega⟩
  exact (Row.keep hb3 hk3 (fun b _ hd=>hd.1.2)).imp fun b _ hd=>⟨hd.1.1,hd.2⟩
 by_cases hkn:k<ls.length
 ·rw [List.getElem_append_left hkn]
  obtain ⟨A0,c0,e,hc,hb⟩:=h3 k hkn
  exact ⟨A0,c0,by rw [List.getElem?_append_left (by omega)];exact e,hc,move hb⟩
 ·have hk':k=ls.length:=by simp at hk;omega
  subst hk'
  rw [List.getElem_append_right (Nat.le_refl _)]
  simp only [Nat.sub_self,List.getElem_singleton]
  refine ⟨A',c',by rw [List.getElem?_append_right (by omega),show ls.length-vs.length=0 from by omega,hyl];rfl,by omega,?_⟩
  have:=move hy
  rwa [← hyl] at this
def leavesOf (rs:List RecP):List (List UInt8):=rs.map fun r=>if recRight r=true then recEnc r else []
theorem leaves_take (rs:List RecP) (k:Nat) (hk:k<rs.length):leavesOf (rs.take (k+1))=leavesOf (rs.take k)++[if recRight rs[k]=true then recEnc rs[k] else []]:=by
 unfold leavesOf;rw [List.take_succ_eq_append_getElem hk,List.map_append];rfl
theorem leaves_any (D:Nat→Prop) (A:Option Addr) (n c:Nat) (rs:List RecP) (w:World) (hB:Recs w D A n rs) (hn:n≤1099511620000):
  Calls Tryz.prog 258 #[.slice A n c] w fun e w'=>(∃ A' c',e=.returned (.slice A' n c')∧OwnBss w' w.heap.size (fun b=>w.heap.size≤b) A' n c' (leavesOf rs))∧New w w':=by
 have hl:=hB.len
 have HB:=Lib.hid hB
 clear hB
 go_enter Tryz.func258,Tryz.ntmps258
 go_wp2_with fail
 go_loopw [3,10] (fun s3 i wx=>∃ (k:Nat) (A':Option Addr) (c':Nat),k≤n∧i=.int .i64 (k:Int)∧s3=.slice A' k c'∧OwnBss wx w.heap.size (fun b=>w.heap.size≤b) A' k c' (leavesOf (rs.take k))∧New w wx) (fun _ i _=>n-(intOf i).toNat)
 case atStart=>exact ⟨0,none,0,Nat.zero_le _,rfl,rfl,OwnBss.nil _ _ _,New.refl _⟩
 case round =>
  obtain ⟨k,A1,c1,hk,rfl,rfl,hown,hK⟩:=hrel
  by_cases hlt:k<n
  ·obtain ⟨b,off,A',c',rfl,h1,h2,h3,hc',hb,hs0,hs1,hc9⟩:=(HB.out.new hK).at_ (k:=k) (by omega)
   have HLT:=Lib.hid (leaves_take rs k (by omega))
   generalize rs[k]'_=r at *
   have hK0:New w (wr.alloc (.cells #[.int .i64 r.kind,.int .u64 r.seq,.slice A' r.body.length c'] 188)):=hK.alloc _
   have hN0:New wr (wr.alloc (.cells #[.int .i64 r.kind,.int .u64 r.seq,.slice A' r.body.length c'] 188)):=(New.refl wr).alloc _
   by_cases hr:recRight r=true
   ·have HE:=Lib.hid (encode_yes D A' r.body.length c' r _ (hb.new hN0) hc' (by omega) hs0 hs1 hr)
    rw [if_pos hr] at HLT
    clear hb hc' hs0 hs1 hr
    go_wp2_with fail
    refine HE.out.mono ?_
    rintro e w1 ⟨⟨A2,c2,rfl,hown2⟩,hK1⟩
    have hN1:=hN0.new hK1
    have hown1:=hown.new hN1
    have hK01:=hK.new hN1
    have hge:w.heap.size≤(wr.alloc (.cells #[.int .i64 r.kind,.int .u64 r.seq,.slice A' r.body.length c'] 188)).heap.size:=hK0.size
    have hy:=(Row.imp (hown1.apart hown2) (E:=fun b=>w.heap.size≤b∧some b≠blk A1) (fun b _ h=>⟨Nat.le_trans hge h.1,h.2⟩)).alloc (.cells #[.slice A2 (recEnc r).length c2] 24)
    have hmc:=own_cap hown2
    have hown1':=hown1.new ((New.refl w1).alloc (.cells #[.slice A2 (recEnc r).length c2] 24))
    have hrow:=row_one w1 24 (.slice A2 (recEnc r).length c2)
    have hbd:k+1≤1099511627776:=by omega
    have hsz:w.heap.size≤(w1.alloc (.cells #[.slice A2 (recEnc r).length c2] 24)).heap.size:=(hK01.alloc _).size
    clear hown hK hN1 hN0 hK0 hK1 h1 h2 h3 HE hown2 hge
    go_wp2_with (at_builtin;refine app_bss _ rfl (.tmp 19) (.tmp 21) rfl w.heap.size (fun b=>w.heap.size≤b) A1 k c1 _ rfl hown1' (fun g=>w1.heap.size≤g) _ 1 A2 _ c2 _ rfl hrow hy hmc hbd hsz ?_;intro A3 c3 w3 hown3 hg3 hbk3)
    have hK3:=(hK01.alloc (.cells #[.slice A2 (recEnc r).length c2] 24)).grown hg3 (fun k hk _=>(hown1.lt k hk).1)
    clear hown1 hown1' hrow hy hmc hg3 hbk3 hK01 hsz
    go_roundw
    case rel=>exact ⟨k+1,_,_,by omega,by go_num,rfl,by rw [HLT.out];exact hown3,hK3⟩
    case measure=>simp [intOf];omega
   ·have hr':recRight r=false:=by simpa using hr
    have HE:=Lib.hid (encode_no D A' r.body.length c' r _ (hb.new hN0) hc' (by omega) hs0 hs1 hr')
    rw [if_neg hr] at HLT
    clear hb hc' hs0 hs1 hr hr'
    go_wp2_with fail
    refine HE.out.mono ?_
    rintro e w1 ⟨rfl,hK1⟩
    have hN1:=hN0.new hK1
    have hown1:=hown.new hN1
    have hK01:=hK.new hN1
    have hy:Bs (w1.alloc (.cells #[.slice none 0 0] 24)) (fun b=>w.heap.size≤b∧some b≠blk A1) none 0 []:=Row.nil _ _ _ _
    have hown1':=hown1.new ((New.refl w1).alloc (.cells #[.slice none 0 0] 24))
    have hrow:=row_one w1 24 (.slice none 0 0)
    have hbd:k+1≤1099511627776:=by omega
    have hsz:w.heap.size≤(w1.alloc (.cells #[.slice none 0 0] 24)).heap.size:=(hK01.alloc _).size
    clear hown hK hN1 hN0 hK0 hK1 h1 h2 h3 HE
    go_wp2_with (at_builtin;refine app_bss _ rfl (.tmp 19) (.tmp 21) rfl w.heap.size (fun b=>w.heap.size≤b) A1 k c1 _ rfl hown1' (fun g=>w1.heap.size≤g) _ 1 none _ 0 _ rfl hrow hy (Nat.le_refl _) hbd hsz ?_;intro A3 c3 w3 hown3 hg3 hbk3)
    have hK3:=(hK01.alloc (.cells #[.slice none 0 0] 24)).grown hg3 (fun k hk _=>(hown1.lt k hk).1)
    clear hown1 hown1' hrow hy hg3 hbk3 hK01 hsz
    go_roundw
    case rel=>exact ⟨k+1,_,_,by omega,by go_num,rfl,by rw [HLT.out];exact hown3,hK3⟩
    case measure=>simp [intOf];omega
  ·obtain rfl:k=n:=by omega
   rw [List.take_of_length_le (by omega)] at hown
   go_wp2_with fail
   go_ret
   exact ⟨⟨_,_,rfl,hown⟩,hK⟩
theorem wpList_append_run {P:Program}{ops:Array Oper}{rest:List Oper}{o:Oper}{a:Act}{Q:Exit→Act→World→Prop}{w:World}(hgd:o.guard=none) (s x:Operand) (t1 t2:TypeId)
  (ho:o.op=.call { callee:=.builtin .append,args:=#[s,x],argTypes:=#[t1,t2] }) (v:Value) (w':World) (vs vx:Value) (hs:a.eval s=vs) (hx:a.eval x=vx)
  (hrun:(Builtin.append_ #[t1,t2] o.type #[vs,vx]).run P w=.ok v w') (h:wpList P ops Q rest (a.put o.dst v) w'):wpList P ops Q (o::rest) a w :=
 wpList_plain hgd fun _ hK=>by
  unfold Oper.wp execOp
  simp only [ho,resolve,invoke,builtin,Sem.run_bind,Sem.run_pure,Result.andThen_ok,List.map_toArray,List.map_cons,List.map_nil,hs,hx,hrun]
  exact hK _ _ h
theorem grow_nil (n:Nat) (w:World) (hn:n≤1099511627776):
  Calls Tryz.prog 151 #[.slice none 0 0,.int .i64 n] w fun e w'=>(∃ A' c',e=.returned (.slice A' 0 c')∧OwnB w' w.heap.size 5 A' 0 c' [])∧New w w':=by
 by_cases h0:n=0
 ·subst h0
  rw [show ((0:Nat):Int)=0 from rfl]
  go_enter Tryz.func151,Tryz.ntmps151
  go_wp2_with fail
  go_ret
  exact ⟨⟨none,0,rfl,Own.nil _ _ _ _⟩,New.refl _⟩
 ·obtain ⟨i,hi,hz0,hz1,hz2⟩:=info_parts info_u8
  have hpos:0<n:=by omega
  have hold:(Builtin.firstCells i.size 0 (.slice none 0 0)).run Tryz.prog w.drew=.ok ([]:List Value).toArray w.drew:=by
   simp [Builtin.firstCells]
  have hcapfit:Builtin.nextslicecap (0+n) 0*i.bytes≤281474976710656:=by
   rw [hz2];unfold Builtin.nextslicecap;rw [if_pos (by omega)];omega
  have hrz:=fun ty=>Lib.run_append_grow_zeros w 24 3 ty 5 i (.int .u8 0) .i64 .i64 Tryz.underlying24 Tryz.underlying3 hi hz0 none 0 0 [] hold n hpos (by omega) (by omega) (by omega) (by rw [hz2];omega) hcapfit
  have hge:=Go.grownCap_ge w (0+n) 0 5
  have hle:=Go.grownCap_le_maxLen w (0+n) 0 5 (by unfold maxLen;omega)
  simp only [Nat.zero_add] at hrz hge hle
  have hcells:(([]:List Value).toArray++Builtin.zeroCells (Value.int .u8 0).cells n++Builtin.zeroCells (Value.int .u8 0).cells (grownCap w n 0 5-n)).size=grownCap w n 0 5*1:=by
   simp [Builtin.zeroCells,Value.cells]
   omega
  generalize (([]:List Value).toArray++Builtin.zeroCells (Value.int .u8 0).cells n++Builtin.zeroCells (Value.int .u8 0).cells (grownCap w n 0 5-n))=cs at *
  generalize grownCap w n 0 5=G at *
  have hposi:0<(n:Int):=by omega
  have HC:=Lib.hid hcells
  have HZ:=Lib.hid hrz
  clear hrz
  unfold maxLen at hle
  clear hcells hcapfit hold hz0 hz1 hz2 hi h0
  go_enter Tryz.func151,Tryz.ntmps151
  go_wp2_with (at_builtin;refine wpList_append_run rfl (.tmp 20) (.tmp 21) _ _ rfl _ _ _ _ rfl rfl (HZ.out _) ?_)
  go_ret
  refine ⟨⟨_,_,rfl,?_⟩,(New.refl w).drew.alloc _⟩
  exact ⟨rfl,.inr ⟨w.heap.size,G,cs,rfl,Nat.le_refl _,heap_alloc_new w.drew _,Nat.zero_le _,by unfold maxLen;omega,HC.out,rfl⟩⟩
theorem concat_any (D:Nat→Prop) (A:Option Addr) (n c:Nat) (ls:List (List UInt8)) (w:World) (hB:Bss w D A n ls) (hn:ls.flatten.length≤1099511627776) (hm:n≤9223372036854775807):
  Calls Tryz.prog 117 #[.slice A n c] w fun e w'=>(∃ A' c',e=.returned (.slice A' ls.flatten.length c')∧OwnB w' w.heap.size 5 A' ls.flatten.length c' ls.flatten)∧New w w':=by
 have hl:=hB.len
 have HB:=Lib.hid hB
 clear hB
 go_enter Tryz.func117,Tryz.ntmps117
 go_wp2_with fail
 go_loop [3,11] (fun s3 i=>∃ k m:Nat,k≤n∧m≤1099511627776∧i=.int .i64 (k:Int)∧s3=.int .i64 (m:Int)∧m=(ls.take k).flatten.length) (fun _ i=>n-(intOf i).toNat)
 case atStart=>exact ⟨0,0,Nat.zero_le _,Nat.zero_le _,rfl,rfl,by simp⟩
 case round =>
  obtain ⟨k,m,hk,hm',rfl,rfl,hme⟩:=hrel
  have HM:=Lib.hid hme
  clear hme
  by_cases hlt:k<n
  ·obtain ⟨b,off,A',c',rfl,hc,hcap,hb⟩:=HB.out.at_ (k:=k) (by omega)
   have hfl:=flatten_take_le ls k (by omega)
   rw [← HM.out] at hfl
   have hft:=Lib.hid (flatten_take ls k (by omega))
   generalize ls[k]'_=x at *
   have hneg:¬ ((m:Int)+x.length<0):=by omega
   have hxl:x.length≤1099511627776:=by omega
   clear hb
   go_wp2_with fail
   go_round
   case rel=>exact ⟨k+1,m+x.length,by omega,by omega,by go_num,by go_num,by rw [hft.out,List.length_append,← HM.out]⟩
   case measure=>simp [intOf];omega
  ·obtain rfl:k=n:=by omega
   rw [List.take_of_length_le (by omega)] at HM
   go_wp2_with fail
   refine (grow_nil m w hm').mono ?_
   rintro e w1 ⟨⟨A1,c1,rfl,hown⟩,hK⟩
   go_wp2_with fail
   go_loopw [6,27] (fun s6 i wx=>∃ (j mm:Nat) (A':Option Addr) (c':Nat),j≤k∧i=.int .i64 (j:Int)∧s6=.slice A' mm c'∧mm=(ls.take j).flatten.length∧OwnB wx w.heap.size 5 A' mm c' (ls.take j).flatten∧New w wx) (fun _ i _=>k-(intOf i).toNat)
   case atStart=>exact ⟨0,0,A1,c1,Nat.zero_le _,rfl,rfl,by simp,hown,hK⟩
   case round =>
    clear hown hK
    obtain ⟨j,mm,A2,c2,hj,rfl,rfl,hmm,hown,hK⟩:=hrel
    have HMM:=Lib.hid hmm
    clear hmm
    by_cases hlt:j<k
    ·obtain ⟨b,off,A',c',rfl,hc,hcap,hb⟩:=(HB.out.new hK).at_ (k:=j) (by omega)
     have hfl:=flatten_take_le ls j (by omega)
     rw [← HMM.out] at hfl
     have hft:=Lib.hid (flatten_take ls j (by omega))
     generalize ls[j]'_=x at *
     have hbd:mm+x.length≤140737488355328:=by omega
     have hsz:=hK.size
     go_wp2_with (at_builtin;refine app_bytes _ rfl (.tmp 31) (.tmp 32) rfl w.heap.size A2 mm c2 _ rfl hown D A' x.length c' x rfl hb hbd hsz ?_;intro A3 c3 w3 hown3 hg3 hbk3)
     have hK3:=new_app0 hK hown hg3
     clear hg3 hbk3 hown hK hb hc
     go_roundw
     case rel=>exact ⟨j+1,_,_,_,by omega,by go_num,rfl,by rw [hft.out,List.length_append,← HMM.out],by rw [hft.out];exact hown3,hK3⟩
     case measure=>simp [intOf];omega
    ·obtain rfl:j=k:=by omega
     rw [List.take_of_length_le (by omega)] at HMM hown
     go_wp2_with fail
     go_ret
     have hmm2:=HMM.out
     exact ⟨⟨A2,c2,by rw [← hmm2];rfl,by rw [← hmm2];exact hown⟩,hK⟩
def partN (n:Nat):Nat:=2^(n-1).log2
theorem partN_eq {n j:Nat}(h2:2≤n) (h:2^j<n) (h':n≤2^j+2^j):2^j=partN n:=by
 unfold partN
 rw [(Nat.log2_eq_iff (by omega)).2 ⟨(by omega:2^j≤n-1),by rw [Nat.pow_succ];omega⟩]
theorem partN_lt {n:Nat}(h:2≤n):partN n<n:=by
 have:=Nat.log2_self_le (n:=n-1) (by omega);unfold partN;omega
theorem partN_pos (n:Nat):0<partN n:=Nat.pow_pos (by decide)
theorem part_any (n:Nat) (w:World) (h2:2≤n) (hn:n≤4611686018427387904):
  Calls Tryz.prog 298 #[.int .i64 n] w fun e w'=>e=.returned (.int .i64 (partN n))∧w=w':=by
 go_enter Tryz.func298,Tryz.ntmps298
 go_wp2_with fail
 go_loop [3] (fun s3=>∃ k:Nat,(∃ j,k=2^j)∧k<n∧s3=.int .i64 (k:Int)) (fun s3=>n-(intOf s3).toNat)
 case atStart=>exact ⟨1,⟨0,rfl⟩,by omega,rfl⟩
 case round =>
  obtain ⟨k,hj,hk,rfl⟩:=hrel
  have hpos:0<k:=by obtain ⟨j,rfl⟩:=hj;exact Nat.pow_pos (by decide)
  have HJ:=Lib.hid hj
  clear hj
  by_cases hlt:k<n-k
  ·have hlt':(k:Int)<(n:Int)-k:=by omega
   go_wp2_with fail
   go_round
   case rel=>exact ⟨k+k,by obtain ⟨j,h⟩:=HJ.out;exact ⟨j+1,by rw [Nat.pow_succ,← h];omega⟩,by omega,by go_num⟩
   case measure=>simp [intOf];omega
  ·have hlt':¬ (k:Int)<(n:Int)-k:=by omega
   go_wp2_with fail
   go_ret
   exact ⟨by obtain ⟨j,h⟩:=HJ.out;rw [h,← partN_eq h2 (j:=j) (by omega) (by omega)];rfl,rfl⟩
def rootIn:Nat→List (List UInt8)→List UInt8
 | 0,_=>[]
 | f+1,ls=>if ls.length=0 then shaSum [] else if ls.length=1 then shaSum (0::ls.getD 0 []) else shaSum (1::(rootIn f (ls.take (partN ls.length))++rootIn f (ls.drop (partN ls.length))))
def rootOf (ls:List (List UInt8)):List UInt8:=rootIn (ls.length+1) ls
theorem rootIn_fuel:∀ (f g:Nat) (ls:List (List UInt8)),ls.length<f→ls.length<g→rootIn f ls=rootIn g ls
 | 0,_,_,h,_=>absurd h (by omega)
 | _+1,0,_,_,h=>absurd h (by omega)
 | f+1,g+1,ls,hf,hg=>by
  unfold rootIn
  by_cases h0:ls.length=0
  ·rw [if_pos h0,if_pos h0]
  ·by_cases h1:ls.length=1
   ·rw [if_neg h0,if_neg h0,if_pos h1,if_pos h1]
   ·rw [if_neg h0,if_neg h0,if_neg h1,if_neg h1]
    have hp:=partN_lt (n:=ls.length) (by omega)
    have hq:=partN_pos ls.length
    rw [rootIn_fuel f g (ls.take (partN ls.length)) (by rw [List.length_take];omega) (by rw [List.length_take];omega),
     rootIn_fuel f g (ls.drop (partN ls.length)) (by rw [List.length_drop];omega) (by rw [List.length_drop];omega)]
theorem rootOf_nil:rootOf []=shaSum []:=rfl
theorem rootOf_one (l:List UInt8):rootOf [l]=shaSum (0::l):=rfl
theorem rootOf_more (ls:List (List UInt8)) (h:2≤ls.length):rootOf ls=shaSum (1::(rootOf (ls.take (partN ls.length))++rootOf (ls.drop (partN ls.length)))):=by
 have hp:=partN_lt h
 have hq:=partN_pos ls.length
 unfold rootOf
 rw [rootIn,if_neg (by omega),if_neg (by omega),
  rootIn_fuel ls.length ((ls.take (partN ls.length)).length+1) (ls.take (partN ls.length)) (by rw [List.length_take];omega) (by omega),
  rootIn_fuel ls.length ((ls.drop (partN ls.length)).length+1) (ls.drop (partN ls.length)) (by rw [List.length_drop];omega) (by omega)]
theorem rootOf_length (ls:List (List UInt8)):(rootOf ls).length=32:=by
 rcases Nat.lt_or_ge ls.length 2 with h|h
 ·match ls,h with
  | [],_=>rfl
  | [l],_=>rfl
 ·rw [rootOf_more ls h];rfl
theorem Bss.cutTo {w:World}{D:Nat→Prop}{A:Option Addr}{n:Nat}{ls:List (List UInt8)}(h:Bss w D A n ls){k:Nat}(hk:k≤n):Bss w D A k (ls.take k):=by
 obtain ⟨vs,h1,h2,h3⟩:=h
 have:=h1.cutTo (hi:=k) hk
 rw [Nat.mul_one] at this
 refine ⟨vs.take k,this,by rw [List.length_take];omega,fun i hi=>?_⟩
 have hi':i<k:=by rw [List.length_take] at hi;omega
 obtain ⟨A',c',e,hc,hb⟩:=h3 i (by omega)
 rw [List.getElem_take]
 exact ⟨A',c',by rw [List.getElem?_take,if_pos hi'];exact e,hc,hb⟩
theorem Bss.from_ {w:World}{D:Nat→Prop}{A:Option Addr}{n:Nat}{ls:List (List UInt8)}(h:Bss w D A n ls){k:Nat}(hk:k≤n):Bss w D (Option.map (fun x=>x.add k) A) (n-k) (ls.drop k):=by
 obtain ⟨vs,h1,h2,h3⟩:=h
 have:=h1.from_ (l:=k) hk
 rw [Nat.mul_one] at this
 refine ⟨vs.drop k,this,by rw [List.length_drop];omega,fun i hi=>?_⟩
 rw [List.length_drop] at hi
 obtain ⟨A',c',e,hc,hb⟩:=h3 (k+i) (by omega)
 rw [List.getElem_drop]
 exact ⟨A',c',by rw [List.getElem?_drop];exact e,hc,hb⟩
theorem root_any (n:Nat):∀ (D:Nat→Prop) (A:Option Addr) (c:Nat) (ls:List (List UInt8)) (w:World) (_hB:Bss w D A n ls) (_hc:n≤c) (_hb:ls.flatten.length≤1099511620000) (_hn:n≤1099511627776) (_hc9:c≤9223372036854775807),
  Calls Tryz.prog 259 #[.slice A n c] w fun e w'=>(∃ A' c',e=.returned (.slice A' 32 c')∧OwnB w' w.heap.size 5 A' 32 c' (rootOf ls))∧New w w':=by
 induction n using Nat.strongRecOn with
 | _ n ih =>
  intro D A c ls w hB hc hb hn hc9
  have hl:=hB.len
  have IH:=Lib.hid ih
  clear ih
  by_cases h0:n=0
  ·subst h0
   obtain rfl:ls=[]:=List.eq_nil_of_length_eq_zero hl
   rw [rootOf_nil]
   have hnil:Bs w (fun _=>True) none 0 []:=Row.nil _ _ _ _
   go_enter Tryz.func259,Tryz.ntmps259
   go_wp2_with fail
   refine (shaSum_any _ none 0 0 [] w hnil (Nat.le_refl _) (by omega)).mono ?_
   rintro e w1 ⟨⟨A1,c1,rfl,hown⟩,hK⟩
   go_wp2_with fail
   go_ret
   exact ⟨⟨_,_,rfl,hown⟩,hK⟩
  ·by_cases h1:n=1
   ·subst h1
    obtain ⟨b,off,A',c',rfl,hcell,hcap,hbs⟩:=hB.at_ (k:=0) (by omega)
    rw [Nat.add_zero] at hcell
    have hx:ls=[ls[0]'(by omega)]:=by
     match ls,hl with
     | [x],_=>rfl
    have hlen:(ls[0]'(by omega)).length≤1099511620000:=by
     have:=flatten_take_le ls 0 (by omega);omega
    generalize ls[0]'_=x at *
    subst hx
    rw [rootOf_one]
    clear hB
    go_enter Tryz.func259,Tryz.ntmps259
    go_wp2_with fail
    refine (leaf_any _ A' _ c' x w hbs hcap hlen).mono ?_
    rintro e w1 ⟨⟨A1,c1,rfl,hown⟩,hK⟩
    go_wp2_with fail
    go_ret
    exact ⟨⟨_,_,rfl,hown⟩,hK⟩
   ·have h2:2≤n:=by omega
    have hp:=partN_lt h2
    have hq:=partN_pos n
    have e0:((n:Int)==0)=false:=by simp;omega
    have e1:((n:Int)==1)=false:=by simp;omega
    have HR:=Lib.hid (rootOf_more ls (by omega))
    rw [hl] at HR
    have HPA:=Lib.hid (fun w'=>part_any n w' h2 (by omega))
    have hB1:=hB.cutTo (k:=partN n) (by omega)
    have hB2:=hB.from_ (k:=partN n) (by omega)
    have hf1:(ls.take (partN n)).flatten.length≤1099511620000:=by
     have h:=congrArg (fun l:List (List UInt8)=>l.flatten.length) (List.take_append_drop (partN n) ls)
     simp only [List.flatten_append,List.length_append] at h;omega
    have hf2:(ls.drop (partN n)).flatten.length≤1099511620000:=by
     have h:=congrArg (fun l:List (List UInt8)=>l.flatten.length) (List.take_append_drop (partN n) ls)
     simp only [List.flatten_append,List.length_append] at h;omega
    generalize partN n=k at *
    have HC1:Hid (∀ w',New w w'→Calls Tryz.prog 259 #[.slice A k c] w' fun e w''=>(∃ A' c',e=.returned (.slice A' 32 c')∧OwnB w'' w'.heap.size 5 A' 32 c' (rootOf (ls.take k)))∧New w' w'') :=
     Lib.hid fun w' hN=>IH.out k hp D A c _ w' (hB1.keep hN (fun _ _ _=>trivial)) (by omega) hf1 (by omega) hc9
    have HC2:Hid (∀ w',New w w'→Calls Tryz.prog 259 #[.slice (Option.map (fun x=>x.add k) A) (n-k) (c-k)] w' fun e w''=>(∃ A' c',e=.returned (.slice A' 32 c')∧OwnB w'' w'.heap.size 5 A' 32 c' (rootOf (ls.drop k)))∧New w' w'') :=
     Lib.hid fun w' hN=>IH.out (n-k) (by omega) D _ (c-k) _ w' (hB2.keep hN (fun _ _ _=>trivial)) (by omega) hf2 (by omega) (by omega)
    have b1:(0:Int)≤(k:Int):=by omega
    have b2:(k:Int)≤n:=by omega
    have b3:(k:Int)≤c:=by omega
    have b4:(n:Int)≤c:=by omega
    have b5:¬ c=k:=by omega
    clear hB hB1 hB2 IH hl hf1 hf2 hb
    go_enter Tryz.func259,Tryz.ntmps259
    go_wp2_with fail
    refine (HPA.out _).mono ?_
    rintro e w1 ⟨rfl,rfl⟩
    go_wp2_with fail
    go_region_held3 (fun w'=>New w w') (first|exact New.refl w|exact (New.refl w).drew|exact Keep.new (by assumption) hK3|exact Keep.new (by assumption) hK4|exact Keep.new (by assumption) hK5)
     ((first
      | (go_at_call 259;(with_reducible refine (HC1.out _ (by assumption)).mono ?_);rintro e w3 ⟨⟨A3,c3,rfl,hown3⟩,hK3⟩)
      | (go_at_call 259;(with_reducible refine (HC2.out _ (by assumption)).mono ?_);rintro e w4 ⟨⟨A4,c4,rfl,hown4⟩,hK4⟩)
      | (go_at_call 299;refine (pair_any _ _ A3 A4 32 c3 32 c4 _ _ _ ((Row.of_own hown3).new hK4) (own_cap hown3) (Row.of_own hown4) (own_cap hown4) (by omega)).mono ?_;rintro e w5 ⟨⟨A5,c5,rfl,hown5⟩,hK5⟩)))
    have hN5:New w w5:=by assumption
    have hsz:w.heap.size≤w4.heap.size:=Nat.le_trans hK3.size hK4.size
    clear hK3 hK4 hown3 hown4 hK5
    go_wp2_with fail
    go_ret
    exact ⟨⟨_,_,rfl,by rw [HR.out];exact own_base hown5 hsz⟩,hN5⟩
structure RdS where
 bs:List UInt8
 why:Int
def RdS.raw (s:RdS) (n:Int):List UInt8×RdS :=
 if s.why=0∧(s.bs.length:Int)<n then ([],⟨s.bs,10⟩)
 else if s.why≠0∨n<1 then ([],s)
 else (s.bs.take n.toNat,⟨s.bs.drop n.toNat,0⟩)
theorem RdS.raw_end (s:RdS) (n:Int) (h:s.why=0) (hn:(s.bs.length:Int)<n):s.raw n=([],⟨s.bs,10⟩):=by unfold RdS.raw;rw [if_pos ⟨h,hn⟩]
theorem RdS.raw_none (s:RdS) (n:Int) (h:s.why≠0∨n<1):s.raw n=([],s):=by
 unfold RdS.raw
 rw [if_neg (by rintro ⟨h1,h2⟩;rcases h with h|h;exact h h1;omega),if_pos h]
theorem RdS.raw_some (s:RdS) (n:Int) (h:s.why=0) (h1:1≤n) (hn:n≤s.bs.length):s.raw n=(s.bs.take n.toNat,⟨s.bs.drop n.toNat,0⟩):=by
 unfold RdS.raw
 rw [if_neg (by omega),if_neg (by omega)]
theorem RdS.raw_le (s:RdS) (n:Int):(s.raw n).1.length≤s.bs.length∧(s.raw n).2.bs.length≤s.bs.length∧((s.raw n).1.length:Int)≤max n 0:=by
 unfold RdS.raw
 split
 ·simp;omega
 ·split
  ·simp;omega
  ·simp only [List.length_take,List.length_drop];omega
def beNat (bs:List UInt8):Nat:=bs.foldl (fun a b=>a*256+b.toNat) 0
theorem beNat_snoc (bs:List UInt8) (b:UInt8):beNat (bs++[b])=beNat bs*256+b.toNat:=by unfold beNat;rw [List.foldl_append];rfl
theorem beNat_lt (bs:List UInt8):beNat bs<256^bs.length:=by
 have h:∀ (l:List UInt8) (a:Nat),l.foldl (fun a b=>a*256+b.toNat) a<(a+1)*256^l.length:=by
  intro l
  induction l with
  | nil=>intro a;simp
  | cons b l ih =>
   intro a
   simp only [List.foldl_cons,List.length_cons]
   refine Nat.lt_of_lt_of_le (ih _) ?_
   rw [Nat.pow_succ,Nat.mul_comm (256^l.length) 256,← Nat.mul_assoc]
   exact Nat.mul_le_mul_right _ (by have:=b.toNat_lt;omega)
 have:=h bs 0
 simpa [beNat] using this
def RdS.num (s:RdS) (k:Nat):Nat×RdS:=(beNat (s.raw k).1,(s.raw k).2)
def RdS.lenRow (s:RdS):List UInt8×RdS:=(s.num 2).2.raw (s.num 2).1
def RdS.left (s:RdS):Nat:=if s.why≠0 then 0 else s.bs.length
structure Rd (w:World) (p:Nat) (s:RdS):Prop where
 row:∃ A m c,w.cell? ⟨p,0,none⟩=some (.slice A m c)∧m≤c∧c≤9223372036854775807∧Bs w (fun b=>b≠p) A m s.bs
 why:w.cell? ⟨p,1,none⟩=some (.int .i64 s.why)
 free0:w.frozen? ⟨p,0,none⟩=false
 free1:w.frozen? ⟨p,1,none⟩=false
 bound:s.bs.length≤1099511627776
theorem Rd.lt {w:World}{p:Nat}{s:RdS}(h:Rd w p s):p<w.heap.size:=World.block_lt_of_cell? w _ h.why
theorem Rd.keep {w w':World}{p:Nat}{s:RdS}(h:Rd w p s) (hk:New w w'):Rd w' p s:=by
 obtain ⟨A,m,c,h1,h2,h3,h4⟩:=h.row
 exact ⟨⟨A,m,c,hk.cell_some h1 trivial,h2,h3,h4.new hk⟩,hk.cell_some h.why trivial,(hk.frozen (p:=⟨p,0,none⟩) h.lt trivial).trans h.free0,(hk.frozen (p:=⟨p,1,none⟩) h.lt trivial).trans h.free1,h.bound⟩
theorem newReader_any (D:Nat→Prop) (A:Option Addr) (n c:Nat) (bs:List UInt8) (w:World) (hB:Bs w D A n bs) (hn:n≤1099511627776):
  Calls Tryz.prog 35 #[.slice A n c] w fun e w'=>(∃ p,e=.returned (.pointer (some ⟨p,0,none⟩))∧w.heap.size≤p∧Rd w' p ⟨bs,0⟩)∧New w w':=by
 have hl:=hB.len
 have HC:=Lib.hid (clone_bytes D A n c bs w hB (by omega))
 clear hB
 go_enter Tryz.func35,Tryz.ntmps35
 go_wp2_with fail
 refine HC.out.mono ?_
 rintro e w1 ⟨⟨A1,c1,rfl,hown⟩,hK1⟩
 go_wp2_with fail
 go_ret
 have hh:=heap_alloc_new w1 (.cells #[.slice A1 n c1,.int .i64 0] 117)
 refine ⟨⟨w1.heap.size,rfl,hK1.size,⟨⟨A1,n,c1,cellOf hh rfl,own_cap hown,own_capMax hown,?_⟩,cellOf hh rfl,free_new w1 _ _ _,free_new w1 _ _ _,by show bs.length≤_;omega⟩⟩,hK1.alloc _⟩
 exact ((Row.of_own hown).imp (E:=fun b=>b≠w1.heap.size) (fun b hb _=>Nat.ne_of_lt hb)).alloc _
theorem setCell_free {w:World}{p q:Addr}{u:Value}(h:w.frozen? q=false):(w.setCell p u).frozen? q=false:=(World.frozen?_setCell _ _ _ _).trans h
theorem Rd.setWhy {w:World}{p:Nat}{s:RdS}(h:Rd w p s) (y:Int):Rd (w.setCell ⟨p,1,none⟩ (.int .i64 y)) p ⟨s.bs,y⟩:=by
 obtain ⟨A,m,c,h1,h2,h3,h4⟩:=h.row
 refine ⟨⟨A,m,c,?_,h2,h3,h4.setCell (p:=⟨p,1,none⟩) (fun h=>h rfl) _⟩,World.cell?_setCell_same _ _ _ h.why,setCell_free h.free0,setCell_free h.free1,h.bound⟩
 rw [World.cell?_setCell_other _ _ _ _ (by intro hh;injection hh;omega)];exact h1
theorem Rd.setRow {w:World}{p:Nat}{s:RdS}(h:Rd w p s){A:Option Addr}{m c:Nat}{bs:List UInt8}(hB:Bs w (fun b=>b≠p) A m bs) (hmc:m≤c) (hc:c≤9223372036854775807) (hb:bs.length≤1099511627776):
  Rd (w.setCell ⟨p,0,none⟩ (.slice A m c)) p ⟨bs,s.why⟩:=by
 obtain ⟨A1,m1,c1,h1,_⟩:=h.row
 refine ⟨⟨A,m,c,World.cell?_setCell_same _ _ _ h1,hmc,hc,hB.setCell (p:=⟨p,0,none⟩) (fun h=>h rfl) _⟩,?_,setCell_free h.free0,setCell_free h.free1,hb⟩
 rw [World.cell?_setCell_other _ _ _ _ (by intro hh;injection hh;omega)];exact h.why
theorem rraw_any (p:Nat) (s:RdS) (n:Int) (w:World) (hR:Rd w p s):
  Calls Tryz.prog 102 #[.pointer (some ⟨p,0,none⟩),.int .i64 n] w fun e w' =>
   (∃ A' c',e=.returned (.slice A' (s.raw n).1.length c')∧OwnB w' w.heap.size 5 A' (s.raw n).1.length c' (s.raw n).1)∧Rd w' p (s.raw n).2∧Keep (fun b=>b≠p) w w':=by
 obtain ⟨A,m,c,hc0,hmc,hc9,hB⟩:=hR.row
 have hc1:=hR.why
 have hf0:=hR.free0
 have hf1:=hR.free1
 have hlb:=hR.bound
 have hl:=hB.len
 have HR:=Lib.hid hR
 clear hR
 by_cases hw:s.why=0
 ·by_cases hn:(m:Int)<n
  ·rw [s.raw_end n hw (by omega)]
   have h1:=HR.out.setWhy 10
   have hK:=(Keep.refl (fun b=>b≠p) w).setCell (p:=⟨p,1,none⟩) (fun h=>absurd rfl h) (.int .i64 10)
   rw [hw] at hc1
   clear hw hl hB
   go_enter Tryz.func102,Tryz.ntmps102
   go_wp2_with fail
   go_ret
   exact ⟨⟨none,0,rfl,Own.nil _ _ _ _⟩,h1,hK⟩
  ·by_cases hn1:n<1
   ·rw [s.raw_none n (.inr hn1)]
    rw [hw] at hc1
    clear hw hl hB
    go_enter Tryz.func102,Tryz.ntmps102
    go_wp2_with fail
    go_ret
    exact ⟨⟨none,0,rfl,Own.nil _ _ _ _⟩,HR.out,Keep.refl _ _⟩
   ·obtain ⟨k,rfl⟩:=Int.eq_ofNat_of_zero_le (by omega:0≤n)
    rw [s.raw_some k hw (by omega) (by omega),Int.toNat_natCast]
    have hkm:k≤m:=by omega
    have hmb:m≤1099511627776:=by omega
    have hplt:=HR.out.lt
    have hk1:1≤k:=by omega
    have hkc:(k:Int)≤c:=by omega
    have HL:Hid ((s.bs.take k).length=k):=Lib.hid (by rw [List.length_take];omega)
    have HLD:Hid ((s.bs.drop k).length=m-k):=Lib.hid (by rw [List.length_drop];omega)
    rw [HL.out]
    have hcut:=hB.cutTo hkm
    have HCL:=Lib.hid (clone_bytes _ A k c _ w hcut (by omega))
    have hBD:=Bs.from_ hB hkm
    have HBD:=Lib.hid hBD
    have HW:=Lib.hid hw
    rw [hw] at hc1
    clear hw hl hB hcut hBD
    by_cases hck:c=k
    ·have hmk:m=k:=by omega
     subst hck
     subst hmk
     go_enter Tryz.func102,Tryz.ntmps102
     go_wp2_with fail
     refine HCL.out.mono ?_
     rintro e w1 ⟨⟨A1,c1,rfl,hown⟩,hK1⟩
     have d0:=hK1.cell_some hc0 trivial
     have g0:=(hK1.frozen (p:=⟨p,0,none⟩) HR.out.lt trivial).trans hf0
     go_wp2_with fail
     go_ret
     have hnil:s.bs.drop m=[]:=List.eq_nil_of_length_eq_zero (by rw [HLD.out];omega)
     have hr:=(HR.out.keep hK1).setRow (A:=A) (m:=0) (c:=0) (bs:=[]) (Row.nil _ _ _ _) (Nat.le_refl _) (by omega) (by simp)
     rw [HW.out] at hr
     rw [hnil]
     exact ⟨⟨A1,c1,rfl,own_set (p:=⟨p,0,none⟩) hown (fun e=>by have:=(own_lt hown p e).1;omega) _⟩,hr,(Keep.of_new hK1).setCell (p:=⟨p,0,none⟩) (fun h=>absurd rfl h) _⟩
    ·have hck':¬ c=k:=hck
     go_enter Tryz.func102,Tryz.ntmps102
     go_wp2_with fail
     refine HCL.out.mono ?_
     rintro e w1 ⟨⟨A1,c1,rfl,hown⟩,hK1⟩
     have d0:=hK1.cell_some hc0 trivial
     have g0:=(hK1.frozen (p:=⟨p,0,none⟩) HR.out.lt trivial).trans hf0
     go_wp2_with fail
     go_ret
     have hr:=(HR.out.keep hK1).setRow (c:=c-k) (HBD.out.new hK1) (by omega) (by omega) (by rw [HLD.out];omega)
     rw [HW.out] at hr
     exact ⟨⟨A1,c1,rfl,own_set (p:=⟨p,0,none⟩) hown (fun e=>by have:=(own_lt hown p e).1;omega) _⟩,hr,(Keep.of_new hK1).setCell (p:=⟨p,0,none⟩) (fun h=>absurd rfl h) _⟩
 ·rw [s.raw_none n (.inl hw)]
  have e0:(s.why==0)=false:=by simpa using hw
  have e1:(s.why !=0)=true:=by simpa using hw
  clear hw hl hB
  go_enter Tryz.func102,Tryz.ntmps102
  go_wp2_with fail
  go_ret
  exact ⟨⟨none,0,rfl,Own.nil _ _ _ _⟩,HR.out,Keep.refl _ _⟩
theorem bv_wrap64 (b:UInt8):IntKind.u64.wrap (bv b)=bv b:=by have:=bv_bd b;rw [IntKind.wrap_u64];omega
theorem beNat_shift (x:Nat) (b:UInt8) (h:x<72057594037927936):bits .or .u64 ((x:Int)*256) (bv b)=((x*256+b.toNat:Nat):Int):=by
 have hb:=b.toNat_lt
 unfold bv
 rw [show ((x:Int)*256)=((x*256:Nat):Int) from by omega,u64_or_nat _ _ (by omega) (by omega)]
 congr 1
 rw [show x*256=x*2^8 from rfl,← Nat.shiftLeft_eq,Nat.shiftLeft_add_eq_or_of_lt (by omega:b.toNat<2^8)]
theorem get_any (p k:Nat) (s:RdS) (w:World) (hR:Rd w p s) (hk:k≤8) (ki:Int) (hki:ki=k):
  Calls Tryz.prog 72 #[.pointer (some ⟨p,0,none⟩),.int .i64 ki] w fun e w'=>e=.returned (.int .u64 ((s.num k).1:Nat))∧Rd w' p (s.num k).2∧Keep (fun b=>b≠p) w w':=by
 subst hki
 have hle:=(s.raw_le k).2.2
 unfold RdS.num
 dsimp only
 have HRW:=Lib.hid (rraw_any p s k w hR)
 clear hR
 generalize (s.raw k).1=x at *
 generalize (s.raw k).2=s' at *
 have hx8:x.length≤8:=by omega
 go_enter Tryz.func72,Tryz.ntmps72
 go_wp2_with fail
 refine HRW.out.mono ?_
 rintro e w1 ⟨⟨A1,c1,rfl,hown⟩,hR1,hK1⟩
 have hB:=Row.of_own hown
 clear hown
 go_wp2_with fail
 go_loop [5,12] (fun s5 i=>∃ j:Nat,j≤x.length∧i=.int .i64 (j:Int)∧s5=.int .u64 ((beNat (x.take j):Nat):Int)) (fun _ i=>x.length-(intOf i).toNat)
 case atStart=>exact ⟨0,Nat.zero_le _,rfl,rfl⟩
 case round =>
  obtain ⟨j,hj,rfl,rfl⟩:=hrel
  by_cases hlt:j<x.length
  ·obtain ⟨b,off,rfl,_,_,hc⟩:=Bs.cellAt (bs:=x) hB (by omega)
   have ck:=hc j hlt
   have HS:=Lib.hid (show beNat (x.take (j+1))=beNat (x.take j)*256+(x[j]).toNat from by rw [List.take_succ_eq_append_getElem hlt,beNat_snoc])
   have hsm:beNat (x.take j)<72057594037927936:=by
    refine Nat.lt_of_lt_of_le (beNat_lt _) ?_
    have h7:(x.take j).length≤7:=by rw [List.length_take];omega
    exact Nat.le_trans (Nat.pow_le_pow_right (by decide) h7) (by decide)
   have HO:=Lib.hid (beNat_shift (beNat (x.take j)) x[j] hsm)
   clear hc hB
   generalize x[j]=y at *
   generalize beNat (x.take j)=z at *
   go_wp2_with fail
   go_round
   case rel=>exact ⟨j+1,by omega,by go_num,by rw [bv_wrap64,HO.out,HS.out]⟩
   case measure=>simp [intOf];omega
  ·obtain rfl:j=x.length:=by omega
   rw [List.take_of_length_le (Nat.le_refl _)]
   go_wp2_with fail
   go_ret
   exact ⟨rfl,hR1,hK1⟩
theorem i64_small (n:Nat) (h:n<9223372036854775808):IntKind.i64.wrap (n:Int)=n:=IntWalk.i64_in _ (by omega)
theorem num_lt (s:RdS) (k:Nat):(s.num k).1<256^k:=by
 have h:=beNat_lt (s.raw k).1
 have hl:=(s.raw_le k).2.2
 exact Nat.lt_of_lt_of_le h (Nat.pow_le_pow_right (by decide) (by omega))
theorem rbyte_any (p:Nat) (s:RdS) (w:World) (hR:Rd w p s):
  Calls Tryz.prog 37 #[.pointer (some ⟨p,0,none⟩)] w fun e w'=>e=.returned (.int .i64 ((s.num 1).1:Nat))∧Rd w' p (s.num 1).2∧Keep (fun b=>b≠p) w w':=by
 have hlt:=num_lt s 1
 have HG:=Lib.hid (get_any p 1 s w hR (by decide) 1 rfl)
 clear hR
 generalize (s.num 1).1=z at *
 generalize (s.num 1).2=s' at *
 have hw:=i64_small z (by omega)
 have HW:=Lib.hid hw
 clear hw
 go_enter Tryz.func37,Tryz.ntmps37
 go_wp2_with fail
 refine HG.out.mono ?_
 rintro e w1 ⟨rfl,hR1,hK1⟩
 go_wp2_with fail
 go_ret
 exact ⟨by first|rfl|(rw [← HW.out];rfl),hR1,hK1⟩
theorem rshort_any (p:Nat) (s:RdS) (w:World) (hR:Rd w p s):
  Calls Tryz.prog 76 #[.pointer (some ⟨p,0,none⟩)] w fun e w'=>e=.returned (.int .i64 ((s.num 2).1:Nat))∧Rd w' p (s.num 2).2∧Keep (fun b=>b≠p) w w':=by
 have hlt:=num_lt s 2
 have HG:=Lib.hid (get_any p 2 s w hR (by decide) 2 rfl)
 clear hR
 generalize (s.num 2).1=z at *
 generalize (s.num 2).2=s' at *
 have hw:=i64_small z (by omega)
 have HW:=Lib.hid hw
 clear hw
 go_enter Tryz.func76,Tryz.ntmps76
 go_wp2_with fail
 refine HG.out.mono ?_
 rintro e w1 ⟨rfl,hR1,hK1⟩
 go_wp2_with fail
 go_ret
 exact ⟨by first|rfl|(rw [← HW.out];rfl),hR1,hK1⟩
theorem rlong_any (p:Nat) (s:RdS) (w:World) (hR:Rd w p s):
  Calls Tryz.prog 104 #[.pointer (some ⟨p,0,none⟩)] w fun e w'=>e=.returned (.int .u64 ((s.num 8).1:Nat))∧Rd w' p (s.num 8).2∧Keep (fun b=>b≠p) w w':=by
 have HG:=Lib.hid (get_any p 8 s w hR (by decide) 8 rfl)
 clear hR
 generalize (s.num 8).1=z at *
 generalize (s.num 8).2=s' at *
 go_enter Tryz.func104,Tryz.ntmps104
 go_wp2_with fail
 refine HG.out.mono ?_
 rintro e w1 ⟨rfl,hR1,hK1⟩
 go_wp2_with fail
 go_ret
 exact ⟨rfl,hR1,hK1⟩
theorem rbytes_any (p:Nat) (s:RdS) (w:World) (hR:Rd w p s):
  Calls Tryz.prog 74 #[.pointer (some ⟨p,0,none⟩)] w fun e w' =>
   (∃ A' c',e=.returned (.slice A' s.lenRow.1.length c')∧OwnB w' w.heap.size 5 A' s.lenRow.1.length c' s.lenRow.1)∧Rd w' p s.lenRow.2∧Keep (fun b=>b≠p) w w':=by
 have HG:=Lib.hid (rshort_any p s w hR)
 have HL:Hid (s.lenRow=(s.num 2).2.raw (s.num 2).1):=Lib.hid rfl
 rw [HL.out]
 clear hR HL
 generalize (s.num 2).1=z at *
 generalize (s.num 2).2=s' at *
 have HR:=Lib.hid (rraw_any p s' z)
 generalize (s'.raw z).1=x at *
 generalize (s'.raw z).2=s2 at *
 go_enter Tryz.func74,Tryz.ntmps74
 go_wp2_with fail
 refine HG.out.mono ?_
 rintro e w1 ⟨rfl,hR1,hK1⟩
 go_wp2_with fail
 refine (HR.out w1 hR1).mono ?_
 rintro e w2 ⟨⟨A2,c2,rfl,hown2⟩,hR2,hK2⟩
 go_wp2_with fail
 go_ret
 exact ⟨⟨_,_,rfl,own_base hown2 hK1.size⟩,hR2,hK1.trans hK2⟩
theorem rleft_any (p:Nat) (s:RdS) (w:World) (hR:Rd w p s):
  Calls Tryz.prog 36 #[.pointer (some ⟨p,0,none⟩)] w fun e w'=>e=.returned (.int .i64 (s.left:Nat))∧w=w':=by
 obtain ⟨A,m,c,hc0,hmc,hc9,hB⟩:=hR.row
 have hc1:=hR.why
 have hl:=hB.len
 clear hR hB
 by_cases hw:s.why=0
 ·have hL:s.left=m:=by unfold RdS.left;rw [if_neg (by simpa using hw),hl]
  rw [hL]
  rw [hw] at hc1
  clear hw hl hL
  go_enter Tryz.func36,Tryz.ntmps36
  go_wp2_with fail
  go_ret
  exact ⟨rfl,rfl⟩
 ·have hL:s.left=0:=by unfold RdS.left;rw [if_pos hw]
  rw [hL]
  have e1:(s.why !=0)=true:=by simpa using hw
  clear hw hl hL
  go_enter Tryz.func36,Tryz.ntmps36
  go_wp2_with fail
  go_ret
  exact ⟨rfl,rfl⟩
end Go.Proofs.YtdodbdednpnddaaGreatDoor
