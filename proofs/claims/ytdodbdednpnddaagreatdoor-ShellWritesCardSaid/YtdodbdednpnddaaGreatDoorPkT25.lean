/-
  PROVED HERE: what log.Append answers; conditions: the log is as LogOn says, its records make a segment.
-/
import Derived.Deep.CutBlock
import Derived.Test.YtdodbdednpnddaaGreatDoorPkT24
set_option maxRecDepth 100000
set_option maxHeartbeats 1000000
namespace Go.Proofs.YtdodbdednpnddaaGreatDoor
open Go.RowKit
theorem fits_iff {rs:List RecP}{r:RecP}(h:∀ x∈rs,recRight x=true) (hr:recRight r=true):decide ((rs.length:Int)<(fitsIn 942 (rs++[r]):Nat))=decide (waitBytes rs+recSize r≤942):=by
 have hall:∀ x∈rs++[r],recRight x=true:=fun x hx=>by
  rcases List.mem_append.1 hx with hx|hx
  ·exact h x hx
  ·rw [List.mem_singleton] at hx;subst hx;exact hr
 have hw:=waitBytes_snoc rs hr
 have hl:(rs++[r]).length=rs.length+1:=by simp
 rw [decide_eq_decide]
 constructor
 ·intro h1
  have h2:=(fits_all 942 (rs++[r]) (by omega)).2.1
  unfold waitBytes at *
  omega
 ·intro h1
  have h2:=fits_right (left:=942) hall (by unfold waitBytes at *;omega)
  omega
theorem LogOn.wide {w w':World}{D:Nat→Prop}{base bl:Nat}{q:DiskB}{v:LogV}{A:Option Addr}{c:Nat}{S:List UInt8}(h:LogOn w D base bl q v A c S) (hk:New w w'):LogOn w' (fun b=>D b∨w.heap.size≤b) base bl q v A c S:=by
 have hl:=h.log.lt
 have h2:=h.new hk
 exact ⟨h2.log.imp (fun b _ hd=>.inl hd) (fun hd=>hd.elim h.log.out (fun h=>by omega)),h2.disk,h.size,h.plan,h.apart,h.row,fun b hb=>hb.elim (h.data b) (h.disk.beyond b)⟩
theorem LogOn.under {w w':World}{D:Nat→Prop}{base bl:Nat}{q:DiskB}{v:LogV}{A:Option Addr}{c:Nat}{S:List UInt8}(h:LogOn w D base bl q v A c S) (hk:New w w'):LogOn w' (fun b=>D b∧b<w.heap.size) base bl q v A c S:=by
 have h1:LogOn w (fun b=>D b∧b<w.heap.size) base bl q v A c S:=⟨h.log.imp (fun b hb hd=>⟨hd,hb⟩) (fun hd=>h.log.out hd.1),h.disk,h.size,h.plan,h.apart,h.row,fun b hb=>h.data b hb.1⟩
 exact h1.new hk
def LogV.fits (v:LogV) (r:RecP):Bool:=decide (waitBytes v.waits+recSize r≤942)
def LogV.code (v:LogV) (r:RecP):Int:=if v.g-v.sealed=0 then 15 else if v.fits r=true then 0 else if v.g-v.sealed=1 then 15 else 0
def LogV.more (v:LogV) (r:RecP):LogV:=⟨v.s,v.p,v.g,v.sealed,v.next,v.head,v.waits++[r]⟩
def LogV.append (v:LogV) (r:RecP):LogV:=if v.code r=15 then v else if v.fits r=true then v.more r else v.shut.more r
def LogV.adisk (v:LogV) (r:RecP) (S:List UInt8):List UInt8:=if v.code r=15 then S else if v.fits r=true then S else v.disk S
theorem LogOn.grown {w w9 wA wB wC:World}{D D1:Nat→Prop}{base bl:Nat}{q:DiskB}{v v1:LogV}{A A1 A7 H9:Option Addr}{c c1 c7 hc9 gt:Nat}{S S1:List UInt8}{r:RecP}(h:LogOn w D base bl q v A c S)
  (k0:Keep (fun j=>j≠bl∧DiskOf q j∧some j≠blk A) w w9) (s8:Keep (fun j=>j≠bl∧some j≠blk A1) w9 wC) (h9:LogOn w9 D1 base bl q v1 A1 c1 S1)
  (hbE:wC.heap[bl]?=some (.cells #[.pointer (some ⟨q.bd,0,none⟩),.int .i64 v1.s,.int .i64 v1.p,.int .i64 v1.g,.int .i64 v1.sealed,.slice H9 32 hc9,.int .u64 v1.next,.slice A7 (v1.waits.length+1) c7] 197 (0,0))) (h32:32≤hc9)
  (hB9:Bs w9 (fun b=>D1 b∧some b≠blk A1) H9 32 v1.head) (kS:Keep (fun b=>b≠bl) wB wC) (o7:OwnSl 188 recElt wB base (fun b=>D1 b∨gt≤b) A7 (v1.waits.length+1) c7 (v1.waits++[r]))
  (hbk7:blk A7=blk A1∨blk A7=some wA.heap.size) (hA9:w9.heap.size≤wA.heap.size) (hgt:w.heap.size≤gt) (hA1:blk A1=blk A∨A1=none) (hD1:∀ b,D1 b→D b∨w.heap.size≤b) (hn:v1.waits.length+1≤100):
  Keep (fun j=>j≠bl∧DiskOf q j∧some j≠blk A) w wC∧∃ A' c',LogOn wC (fun b=>D b∨w.heap.size≤b) base bl q (v1.more r) A' c' S1∧(blk A'=blk A∨∀ k,blk A'=some k→w.heap.size≤k):=by
 have e:(v1.waits++[r]).length=v1.waits.length+1:=by simp
 have hl:=h.log.lt
 have hz:=k0.size
 have hap:=h9.log.apart
 have ha7:blk A7≠some bl:=fun e=>by
  rcases hbk7 with h1|h1
  ·exact hap (h1.symm.trans e)
  ·rw [h1] at e;injection e;omega
 rw [← e] at hbE o7
 refine ⟨k0.trans2 s8 (fun j _ hd=>⟨hd.1,fun e=>?_⟩),A7,c7,⟨⟨⟨H9,hc9,hbE,h32,?_⟩,?_,h9.log.next0,h9.log.next1,⟨by rw [← e] at hn;exact hn,h9.log.few.2⟩,fun hd=>hd.elim h.log.out (fun h=>by omega),ha7⟩,h9.disk.keep s8 (fun b hb=>⟨fun e=>diskOf_not hb (e▸h.apart),fun e=>diskOf_not hb (h9.row b e.symm)⟩),h9.size,h9.plan,h.apart,fun k hk=>?_,fun b hb=>hb.elim (h.data b) (h.disk.beyond b)⟩,?_⟩
 ·rcases hA1 with h1|h1
  ·exact hd.2.2 (e.trans h1)
  ·rw [h1] at e;cases e
 ·refine ((hB9.imp (E:=fun b=>(D1 b∧some b≠blk A1)∧b<w9.heap.size) fun b hb hd=>⟨hd,hb⟩).keep s8 (fun b _ hd=>⟨fun e=>h9.log.out (e▸hd.1.1),hd.1.2⟩)).imp fun b _ hd=>⟨hD1 b hd.1.1,fun e=>?_⟩
  rcases hbk7 with h1|h1
  ·exact hd.1.2 (e.trans h1)
  ·rw [h1] at e;injection e;have:=hd.2;omega
 ·exact (o7.keepE kS (fun k hk e=>ha7 (by rw [hk,e])) (fun b hb e=>hb.elim (fun hb=>h9.log.out (e▸hb)) (fun hb=>by omega))).imp fun b _ hb=>hb.elim (hD1 b) (fun hb=>.inr (Nat.le_trans hgt hb))
 ·rcases hbk7 with h1|h1
  ·exact h9.row k (h1.symm.trans hk)
  ·rw [h1] at hk;injection hk with hk;exact h.disk.beyond k (by omega)
 ·rcases hbk7 with h1|h1
  ·rcases hA1 with h2|h2
   ·exact .inl (h1.trans h2)
   ·exact .inr fun k hk=>by rw [h1,h2] at hk;cases hk
  ·exact .inr fun k hk=>by rw [h1] at hk;injection hk with hk;omega
theorem lappend_any {w:World}{D:Nat→Prop}{base bl:Nat}{q:DiskB}{v:LogV}{A:Option Addr}{c:Nat}{S:List UInt8}(h:LogOn w D base bl q v A c S) (r:RecP) (Ar:Option Addr) (m cr:Nat) (hm:r.body.length=m){D2:Nat→Prop}(hB:Bs w D2 Ar m r.body) (hcr:m≤cr) (hcr9:cr≤9223372036854775807) (hD2:∀ j,D2 j→j≠bl∧DiskOf q j∧some j≠blk A) (hbase:base≤w.heap.size)
  (hr:recRight r=true) (hs0:0≤r.seq) (hq:r.seq=v.next+(v.waits.length:Int)) (hwr:∀ x∈v.waits,recRight x=true∧0≤x.seq) (hwb:waitBytes v.waits≤942) (hfine:v.waits.length≠0→SegFine v.sealed v.next v.head v.waits):
  Calls Tryz.prog 130 #[.pointer (some ⟨bl,0,none⟩),.agg #[.int .i64 r.kind,.int .u64 r.seq,.slice Ar m cr]] w fun e w'=>e=.returned (.int .i64 (v.code r))∧Keep (fun j=>j≠bl∧DiskOf q j∧some j≠blk A) w w' ∧
   ∃ A' c',LogOn w' (fun b=>D b∨w.heap.size≤b) base bl q (v.append r) A' c' (v.adisk r S)∧(blk A'=blk A∨∀ k,blk A'=some k→w.heap.size≤k):=by
 have k1:New w (w.alloc (.cells #[.int .i64 r.kind,.int .u64 r.seq,.slice Ar m cr] 188)):=(New.refl w).alloc _
 have x1:=heap_alloc_new w (.cells #[.int .i64 r.kind,.int .u64 r.seq,.slice Ar m cr] 188)
 have HR:=fun W=>Lib.hid (right_any r.kind r.seq Ar m cr r W rfl rfl hm (by have:=recRight_def r;rw [hr] at this;have:=of_decide_eq_true this.symm;omega))
 rw [hr] at HR
 have HN:=fun W (hW:New w W)=>Lib.hid (next21_any (h.log.new hW))
 rw [← hq] at HN
 have hne:(r.seq !=r.seq)=false:=by simp
 have hm9:m≤900:=by have:=recRight_def r;rw [hr] at this;have:=of_decide_eq_true this.symm;omega
 have hs1:r.seq≤1099511627776:=by have:=recRight_def r;rw [hr] at this;have:=of_decide_eq_true this.symm;omega
 have hlb:=h.log.lt
 have hwl:=wait_many hwr
 obtain ⟨hf0,hf1,hf2⟩:=h.log.few
 have hfit:=fits_iff (fun x hx=>(hwr x hx).1) hr
 have hfaa:=fun (Q:Option Addr) (qc:Nat) (W:World) (E:Nat→Prop) (hS:Sl recElt W E Q (v.waits.length+1) (v.waits++[r]))=>fits_any E Q (v.waits.length+1) qc (v.waits++[r]) W (recs_sl.2 hS) (by omega)
 have HFI:Hid (v.fits r=decide (waitBytes v.waits+recSize r≤942)):=Lib.hid rfl
 rw [← HFI.out] at hfit
 have hCL:=fun W (hW:New w W)=>clonerecs_any _ A v.waits.length c v.waits W (h.log.waits.sl.new hW) (by omega)
 obtain ⟨H,hc,hb,h32,hBH⟩:=h.log.cells
 have HH:=Lib.hid (And.intro h (And.intro hB (And.intro hD2 (And.intro hfine hbase))))
 have HX:=Lib.hid (And.intro x1 k1)
 obtain ⟨n,hn⟩:∃ n,n=v.waits.length:=⟨_,rfl⟩
 rw [← hn] at hb hfit hCL hf0 hfaa
 have HCL:=Lib.hid hCL
 have hn61:n≤62:=by omega
 generalize fitsIn 942 (v.waits++[r])=fi at *
 have HFA:=Lib.hid hfaa
 clear hfaa
 replace hfit:=Lib.hid hfit
 replace hq:=Lib.hid hq
 replace hwr:=Lib.hid hwr
 replace hwb:=Lib.hid hwb
 clear hr
 have hrow:∀ (W:World) (t:TypeId),Row (W.alloc (.cells #[.int .i64 r.kind,.int .u64 r.seq,.slice Ar m cr] t)) (fun _=>True) (some ⟨W.heap.size,0,none⟩) 1 3 [.int .i64 r.kind,.int .u64 r.seq,.slice Ar m cr]:=fun W t=>(Row.made W t #[.int .i64 r.kind,.int .u64 r.seq,.slice Ar m cr] 1 3 rfl).imp fun _ _ _=>trivial
 have HRO:=Lib.hid hrow
 have HBW:=Lib.hid (fun W (hW:New w W)=>(hB.imp (E:=fun b=>D2 b∧b<w.heap.size) fun b hb hd=>⟨hd,hb⟩).new hW)
 replace hm:=Lib.hid hm
 clear h hB hD2 hfine hbase hCL hBH hwl hrow
 generalize hw1:w.alloc (.cells #[.int .i64 r.kind,.int .u64 r.seq,.slice Ar m cr] 188)=w1 at *
 clear k1 x1
 have y0:∀ W,New w1 W→W.cell? ⟨w.heap.size,0,none⟩=some (.int .i64 r.kind):=fun W hW=>cellOf (k:=0) (hW.blockAt HX.out.1 trivial) rfl
 have y1:∀ W,New w1 W→W.cell? ⟨w.heap.size,1,none⟩=some (.int .u64 r.seq):=fun W hW=>cellOf (k:=1) (hW.blockAt HX.out.1 trivial) rfl
 have y2:∀ W,New w1 W→W.cell? ⟨w.heap.size,2,none⟩=some (.slice Ar m cr):=fun W hW=>cellOf (k:=2) (hW.blockAt HX.out.1 trivial) rfl
 have z7:∀ W,New w1 W→W.cell? ⟨bl,7,none⟩=some (.slice A n c):=fun W hW=>cellOf (k:=7) ((HX.out.2.new hW).blockAt hb trivial) rfl
 replace hn:=Lib.hid hn
 go_enter Tryz.func130,Tryz.ntmps130
 go_upto_region 1 with fail
 clear hw1
 refine hold_begin (by kernel_rfl) ?_
 have n0:New w1 w1.drew:=(New.refl w1).drew
 replace y0:=fun W (hW:New w1.drew W)=>y0 W (Keep.new n0 hW)
 replace y1:=fun W (hW:New w1.drew W)=>y1 W (Keep.new n0 hW)
 replace y2:=fun W (hW:New w1.drew W)=>y2 W (Keep.new n0 hW)
 replace z7:=fun W (hW:New w1.drew W)=>z7 W (Keep.new n0 hW)
 refine take1 0 ?_
 refine hold_step (i:=1) (by kernel_rfl) rfl rfl (fun K hK=>?_)
 go_simp
 refine (HR _).out.mono ?_
 rintro e w2 ⟨rfl,k2⟩
 go_wp2_with fail
 refine hK.out _ _ k2 ?_
 clear hK K
 try simp only [Act.put,ly1,ly2,ly3,ly4,ly5,ly6]
 replace n0:=Keep.new n0 k2
 replace y0:=fun W (hW:New w2 W)=>y0 W (Keep.new k2 hW)
 replace y1:=fun W (hW:New w2 W)=>y1 W (Keep.new k2 hW)
 replace y2:=fun W (hW:New w2 W)=>y2 W (Keep.new k2 hW)
 replace z7:=fun W (hW:New w2 W)=>z7 W (Keep.new k2 hW)
 refine take1 2 ?_
 refine take1 3 ?_
 refine take1 4 ?_
 refine take1 5 ?_
 refine take1 6 ?_
 refine hold_step (i:=7) (by kernel_rfl) rfl rfl (fun K hK=>?_)
 go_simp
 refine (HN _ (HX.out.2.new n0)).out.mono ?_
 rintro e w3 ⟨rfl,k3⟩
 go_wp2_with fail
 refine hK.out _ _ k3 ?_
 clear hK K
 try simp only [Act.put,ly1,ly2,ly3,ly4,ly5,ly6]
 replace n0:=Keep.new n0 k3
 replace y0:=fun W (hW:New w3 W)=>y0 W (Keep.new k3 hW)
 replace y1:=fun W (hW:New w3 W)=>y1 W (Keep.new k3 hW)
 replace y2:=fun W (hW:New w3 W)=>y2 W (Keep.new k3 hW)
 replace z7:=fun W (hW:New w3 W)=>z7 W (Keep.new k3 hW)
 refine take1 8 ?_
 refine take1 9 ?_
 refine wpAnyH_done (by kernel_rfl) ?_ _
 have n3:New w1 w3:=n0
 have HK3:=Lib.hid (HX.out.2.new n3)
 have HX3:=Lib.hid (n3.blockAt HX.out.1 trivial)
 clear k2 k3 n0 n3 HR HN
 go_upto_region 3 with fail
 go_cut [5] (fun s5 wx=>s5=.bool (v.fits r)∧New w3 wx)
 case first =>
  have n3:New w3 w3.drew:=(New.refl w3).drew
  refine hold_beginS (New w3.drew) (by kernel_rfl) ?_
  have n0:New w3.drew w3.drew:=New.refl _
  generalize w3.drew=w4 at *
  have HK4:=Lib.hid (HK3.out.new n3)
  have HX4:=Lib.hid (n3.blockAt HX3.out trivial)
  clear y0 y1 y2 z7
  have y0:∀ W,New w4 W→W.cell? ⟨w.heap.size,0,none⟩=some (.int .i64 r.kind):=fun W hW=>cellOf (k:=0) (hW.blockAt HX4.out trivial) rfl
  have y1:∀ W,New w4 W→W.cell? ⟨w.heap.size,1,none⟩=some (.int .u64 r.seq):=fun W hW=>cellOf (k:=1) (hW.blockAt HX4.out trivial) rfl
  have y2:∀ W,New w4 W→W.cell? ⟨w.heap.size,2,none⟩=some (.slice Ar m cr):=fun W hW=>cellOf (k:=2) (hW.blockAt HX4.out trivial) rfl
  have z7:∀ W,New w4 W→W.cell? ⟨bl,7,none⟩=some (.slice A n c):=fun W hW=>cellOf (k:=7) ((HK4.out.new hW).blockAt hb trivial) rfl
  refine take0 0 n0 ?_
  refine take0 1 n0 ?_
  refine take0 2 n0 ?_
  refine take0 3 n0 ?_
  refine take0 5 n0 ?_
  refine take0 9 n0 ?_
  refine take0 10 n0 ?_
  refine take0 11 n0 ?_
  refine take0 12 n0 ?_
  refine take0 13 n0 ?_
  clear y0 y1 y2 z7
  refine hold_fork0 (i:=4) (j:=6) (by kernel_rfl) rfl rfl rfl rfl (fun K hK=>?_) (fun K hK=>?_)
  ·as_aux_lemma =>
   go_simp
   refine (HCL.out _ (HK4.out.new n0)).mono ?_
   rintro e w5 ⟨⟨A5,c5,rfl,o5⟩,k5⟩
   go_wp2_with fail
   have n5:=Keep.new n0 k5
   refine hK.out _ _ n5 ?_
   clear hK K
   try simp only [Act.put,ly1,ly2,ly3,ly4,ly5,ly6]
   refine hold_step0 (i:=6) (by kernel_rfl) rfl rfl (fun K hK=>?_)
   go_simp
   try go_wp2_with fail
   have n6:New w4 (w5.alloc (.cells #[.int .i64 r.kind,.int .u64 r.seq,.slice Ar m cr] 188)):=n5.alloc _
   refine hK.out _ _ n6 ?_
   clear hK K
   try simp only [Act.put,ly1,ly2,ly3,ly4,ly5,ly6]
   have hRW:=HRO.out w5 188
   have o5:=o5.new ((New.refl w5).alloc (.cells #[.int .i64 r.kind,.int .u64 r.seq,.slice Ar m cr] 188))
   have hz0:=n5.size
   have hz1:w4.heap.size≤w4.heap.size:=Nat.le_refl _
   generalize w5.alloc (.cells #[.int .i64 r.kind,.int .u64 r.seq,.slice Ar m cr] 188)=wz at *
   generalize w5.heap.size=gr at *
   generalize hb5:w4.heap.size=b5 at o5
   have hz5:=o5.lt
   have hz6:=n6.size
   have hz4:=HK4.out.size
   refine hold_step0 (i:=7) (by kernel_rfl) rfl rfl (fun K hK=>?_)
   obtain ⟨q0,hq0,hqz,hqs,hqb⟩:=info_parts info_record
   refine wp_sl (E:=recElt) _ _ _ 195 188 rfl q0 (.agg #[.int .i64 0,.int .u64 0,.slice none 0 0]) 40 Tryz.underlying195 hq0 hqz hqs hqb rfl b5 (fun b=>b<b5) A5 n c5 v.waits rfl o5 (fun _=>True) (some ⟨gr,0,none⟩) 1 [.int .i64 r.kind,.int .u64 r.seq,.slice Ar m cr] r rfl hRW ⟨Ar,cr,rfl,rfl,by rw [hm.out];rfl,by rw [hm.out];exact hcr,by rw [hm.out];exact (HBW.out _ (HK4.out.new n6)).imp (fun b _ hb=>⟨by have:=hb.2;omega,fun e=>by have h1:=(hz5 b e.symm).1;have h2:=hb.2;omega⟩),hs0,by omega,by rw [hm.out];omega,hcr9⟩ (by omega) (by omega) (by omega) ?_
   intro A6 c6 w6 o6 hg6 hbk6
   have n7:New w4 w6:=n6.grown hg6 (fun k hk _=>by have:=(hz5 k hk).1;omega)
   refine hK.out _ _ n7 ?_
   clear hK K
   try simp only [Act.put,ly1,ly2,ly3,ly4,ly5,ly6]
   have HF:=Lib.hid (HFA.out A6 c6 w6 _ o6.sl)
   clear o6 o5 hRW hg6 hbk6 hz5 n6
   refine hold_step0 (i:=8) (by kernel_rfl) rfl rfl (fun K hK=>?_)
   go_simp
   refine HF.out.mono ?_
   rintro e w7 ⟨rfl,k7⟩
   go_wp2_with fail
   have n8:=Keep.new n7 k7
   refine hK.out _ _ n8 ?_
   clear hK K
   try simp only [Act.put,ly1,ly2,ly3,ly4,ly5,ly6]
   refine take0 14 n8 ?_
   refine take0 15 n8 ?_
   refine wpAnyH_done (by kernel_rfl) ?_ _
   go_wp2_with fail
   go_meet
   exact ⟨by rw [← hfit.out];congr 1;exact decide_eq_decide.2 (by omega),n3.new n8⟩
  ·as_aux_lemma =>
   go_simp
   try go_wp2_with fail
   have n5:New w4 (w4.alloc (.cells #[.int .i64 r.kind,.int .u64 r.seq,.slice Ar m cr] 188)):=n0.alloc _
   refine hK.out _ _ n5 ?_
   clear hK K
   try simp only [Act.put,ly1,ly2,ly3,ly4,ly5,ly6]
   have hRW:=HRO.out w4 188
   have hz1:=n5.size
   generalize w4.alloc (.cells #[.int .i64 r.kind,.int .u64 r.seq,.slice Ar m cr] 188)=wa at *
   generalize hgr:w4.heap.size=gr at hRW ⊢
   refine hold_step0 (i:=4) (by kernel_rfl) rfl rfl (fun K hK=>?_)
   go_simp
   refine (HCL.out _ (HK4.out.new n5)).mono ?_
   rintro e w5 ⟨⟨A5,c5,rfl,o5⟩,k5⟩
   go_wp2_with fail
   have n6:=Keep.new n5 k5
   refine hK.out _ _ n6 ?_
   clear hK K
   try simp only [Act.put,ly1,ly2,ly3,ly4,ly5,ly6]
   have hRW:=hRW.new k5
   have hz0:=k5.size
   generalize hb5:wa.heap.size=b5 at o5
   generalize w5=wz at *
   have hz5:=o5.lt
   have hz6:=n6.size
   have hz4:=HK4.out.size
   refine hold_step0 (i:=7) (by kernel_rfl) rfl rfl (fun K hK=>?_)
   obtain ⟨q0,hq0,hqz,hqs,hqb⟩:=info_parts info_record
   refine wp_sl (E:=recElt) _ _ _ 195 188 rfl q0 (.agg #[.int .i64 0,.int .u64 0,.slice none 0 0]) 40 Tryz.underlying195 hq0 hqz hqs hqb rfl b5 (fun b=>b<b5) A5 n c5 v.waits rfl o5 (fun _=>True) (some ⟨gr,0,none⟩) 1 [.int .i64 r.kind,.int .u64 r.seq,.slice Ar m cr] r rfl hRW ⟨Ar,cr,rfl,rfl,by rw [hm.out];rfl,by rw [hm.out];exact hcr,by rw [hm.out];exact (HBW.out _ (HK4.out.new n6)).imp (fun b _ hb=>⟨by have:=hb.2;omega,fun e=>by have h1:=(hz5 b e.symm).1;have h2:=hb.2;omega⟩),hs0,by omega,by rw [hm.out];omega,hcr9⟩ (by omega) (by omega) (by omega) ?_
   intro A6 c6 w6 o6 hg6 hbk6
   have n7:New w4 w6:=n6.grown hg6 (fun k hk _=>by have:=(hz5 k hk).1;omega)
   refine hK.out _ _ n7 ?_
   clear hK K
   try simp only [Act.put,ly1,ly2,ly3,ly4,ly5,ly6]
   have HF:=Lib.hid (HFA.out A6 c6 w6 _ o6.sl)
   clear o6 o5 hRW hg6 hbk6 hz5 n6
   refine hold_step0 (i:=8) (by kernel_rfl) rfl rfl (fun K hK=>?_)
   go_simp
   refine HF.out.mono ?_
   rintro e w7 ⟨rfl,k7⟩
   go_wp2_with fail
   have n8:=Keep.new n7 k7
   refine hK.out _ _ n8 ?_
   clear hK K
   try simp only [Act.put,ly1,ly2,ly3,ly4,ly5,ly6]
   refine take0 14 n8 ?_
   refine take0 15 n8 ?_
   refine wpAnyH_done (by kernel_rfl) ?_ _
   go_wp2_with fail
   go_meet
   exact ⟨by rw [← hfit.out];congr 1;exact decide_eq_decide.2 (by omega),n3.new n8⟩
 case rest =>
  obtain ⟨rfl,n4⟩:=hcut
  have HKr:=Lib.hid (HK3.out.new n4)
  have HXr:=Lib.hid (n4.blockAt HX3.out trivial)
  have HRM:=Lib.hid (fun W (hW:New w W)=>room21_any (HH.out.1.log.new hW))
  obtain ⟨ro,hro⟩:∃ ro,ro=(v.g:Int)-(v.sealed:Int):=⟨_,rfl⟩
  rw [← hro] at HRM
  have HRO2:=Lib.hid hro
  clear hro y0 y1 y2 z7 n4 HCL HFA HRO HX3 HK3 HX hb hfit
  generalize hft:v.fits r=ft at *
  have HFT:=Lib.hid hft
  clear hft HFI
  by_cases e0:ro=0
  ·subst e0
   go_wp2_with fail
   refine (HRM.out _ HKr.out).mono ?_
   rintro e w5 ⟨rfl,k5⟩
   have HKE:=Lib.hid (HKr.out.new k5)
   clear k5
   go_wp2_with fail
   go_ret
   have hcode:v.code r=15:=by unfold LogV.code;rw [HFT.out];have h1:=HRO2.out;rw [if_pos (by omega)]
   rw [hcode,show v.append r=v from by unfold LogV.append;rw [if_pos hcode],show v.adisk r S=S from by unfold LogV.adisk;rw [if_pos hcode]]
   first|exact ⟨rfl,Keep.of_new HKE.out,A,c,LogOn.wide (HH.out.1) HKE.out,.inl rfl⟩|exact ⟨rfl,Keep.of_new HKE.out,A,⟨c,LogOn.wide (HH.out.1) HKE.out⟩,.inl rfl⟩
  have d0:(ro==0)=false:=by simpa using e0
  cases ft
  ·by_cases e1:ro=1
   ·subst e1
    go_wp2_with fail
    refine (HRM.out _ HKr.out).mono ?_
    rintro e w5 ⟨rfl,k5⟩
    have HKE:=Lib.hid (HKr.out.new k5)
    clear k5
    go_wp2_with fail
    refine (HRM.out _ HKE.out).mono ?_
    rintro e w6 ⟨rfl,k6⟩
    have HKE:=Lib.hid (HKE.out.new k6)
    clear k6
    go_wp2_with fail
    go_ret
    have hcode:v.code r=15:=by unfold LogV.code;rw [HFT.out];have h1:=HRO2.out;rw [if_neg (by omega),if_neg (by simp),if_pos (by omega)]
    rw [hcode,show v.append r=v from by unfold LogV.append;rw [if_pos hcode],show v.adisk r S=S from by unfold LogV.adisk;rw [if_pos hcode]]
    first|exact ⟨rfl,Keep.of_new HKE.out,A,c,LogOn.wide (HH.out.1) HKE.out,.inl rfl⟩|exact ⟨rfl,Keep.of_new HKE.out,A,⟨c,LogOn.wide (HH.out.1) HKE.out⟩,.inl rfl⟩
   have d1:(ro==1)=false:=by simpa using e1
   ·as_aux_lemma =>
    go_wp2_with fail
    refine (HRM.out _ HKr.out).mono ?_
    rintro e w5 ⟨rfl,k5⟩
    have HXr:=Lib.hid (k5.blockAt HXr.out trivial)
    have HKE:=Lib.hid (HKr.out.new k5)
    clear k5
    go_wp2_with fail
    refine (HRM.out _ HKE.out).mono ?_
    rintro e w6 ⟨rfl,k6⟩
    have HXr:=Lib.hid (k6.blockAt HXr.out trivial)
    have HKE:=Lib.hid (HKE.out.new k6)
    clear k6
    have hsg:v.sealed<v.g∧v.g-v.sealed≠0∧v.g-v.sealed≠1:=by have:=HRO2.out;omega
    have HSL:=Lib.hid (lseal_any (LogOn.under HH.out.1 HKE.out) (fun hne=>⟨HH.out.2.2.2.1 hne,hsg.1⟩))
    have hwse:v.shut.waits.length≤62:=by unfold LogV.shut;have:=hn.out;split <;> simp <;> omega
    have HN1:=Lib.hid hwse
    have hcode:v.code r=0:=by unfold LogV.code;rw [HFT.out,if_neg hsg.2.1,if_neg (by simp),if_neg hsg.2.2]
    have happ:v.append r=v.shut.more r:=by unfold LogV.append;rw [if_neg (by rw [hcode];decide),if_neg (by rw [HFT.out];simp)]
    have hdsk:v.adisk r S=v.disk S:=by unfold LogV.adisk;rw [if_neg (by rw [hcode];decide),if_neg (by rw [HFT.out];simp)]
    clear hwse
    generalize v.shut=vs at *
    generalize v.disk S=Ss at *
    replace hcode:=Lib.hid hcode
    replace happ:=Lib.hid happ
    replace hdsk:=Lib.hid hdsk
    go_wp2_with fail
    refine HSL.out.mono ?_
    rintro e wS ⟨rfl,kS0,A1,c1,hL1,hA1⟩
    have hlt1:=hL1.log.rowLt
    have hzz:=HKE.out.size
    have hg0l:=(Array.getElem?_eq_some_iff.1 HXr.out).1
    have hdq:∀ j,j=q.bd∨j=q.bs∨j=q.bm→j<w.heap.size:=HH.out.1.disk.lt
    have hdb:∀ j,w.heap.size≤j→j≠bl∧DiskOf q j:=fun j hj=>⟨by omega,HH.out.1.disk.beyond j hj⟩
    have hAlt:=HH.out.1.log.rowLt
    have HL:=Lib.hid hL1
    have HBX:=Lib.hid (kS0.blockAt HXr.out (hdb _ (Nat.le_refl _)))
    have HBT:=Lib.hid ((HBW.out _ HKE.out).keep kS0 (fun b _ hb=>⟨(HH.out.2.2.1 b hb.1).1,(HH.out.2.2.1 b hb.1).2.1⟩))
    have HKT:Hid (Keep (fun j=>j≠bl∧DiskOf q j∧some j≠blk A) w wS):=Lib.hid ((Keep.of_new HKE.out).trans2 kS0 (fun j _ hj=>⟨hj.1,hj.2.1⟩))
    have HA1:Hid (blk A1≠some w.heap.size):=Lib.hid fun e=>by rcases hA1 with rfl|rfl;have:=(hAlt _ e).2;omega;cases e
    have HA2:Hid (∀ k,blk A1=some k→k<wS.heap.size):=Lib.hid fun k hk=>(hlt1 k hk).2
    have HX1:Hid ((blk A1=blk A∨A1=none)∧∀ b,(fun b=>D b∧b<w.heap.size∨w6.heap.size≤b) b→D b∨w.heap.size≤b):=Lib.hid ⟨hA1.imp (fun e=>by rw [e]) id,fun b hb=>hb.imp (fun h=>h.1) (fun h=>by omega)⟩
    generalize hDD:(fun b=>(D b∧b<w.heap.size)∨w6.heap.size≤b)=D1 at *
    have HD1:Hid (∀ b,D1 b→b≠w.heap.size):=Lib.hid fun b hb e=>by rw [← hDD] at hb;rcases hb with hb|hb;have:=hb.2;omega;omega
    have HQL:=Lib.hid hdq
    clear hDD hL1 hlt1 hdq hdb hAlt hA1 kS0 HSL HRM d0 d1 hzz hg0l hsg
    have c2:=cellOf HBX.out (k:=2) rfl
    have HCB:=Lib.hid (clone_bytes (fun b=>D2 b∧b<w.heap.size) Ar m cr r.body wS HBT.out (by omega))
    have hzt:w.heap.size<wS.heap.size:=(Array.getElem?_eq_some_iff.1 HBX.out).1
    go_wp2_with fail
    refine HCB.out.mono ?_
    rintro e w7 ⟨⟨A5,c5,rfl,o5⟩,k7⟩
    have hbx7:=k7.blockAt HBX.out trivial
    have f2:=frozenOf hbx7 2
    have c2:=cellOf hbx7 (k:=2) rfl
    have HL7:=Lib.hid (HL.out.new k7)
    have HO5:=Lib.hid o5
    have HKT7:=Lib.hid (Keep.new HKT.out k7)
    have hz7:=k7.size
    clear o5 HCB k7
    go_upto_region 10 with fail
    have hb8:=setCell_block hbx7 2 (.slice A5 m c5)
    have q8:Keep (fun j=>j≠w.heap.size) w7 (w7.setCell ⟨w.heap.size,2,none⟩ (.slice A5 m c5)):=(Keep.refl _ w7).setCell (p:=⟨w.heap.size,2,none⟩) (fun hd=>absurd rfl hd) _
    clear f2 c2 hbx7
    generalize w7.setCell ⟨w.heap.size,2,none⟩ (.slice A5 m c5)=w8 at *
    have hLn:=HL7.out.log.rowLt
    have hL8:LogOn w8 D1 base bl q vs A1 c1 Ss:=HL7.out.keep q8 (by omega) (fun k hk e=>HA1.out (by rw [hk,e])) (fun b hb=>HD1.out b hb) (fun b hb e=>by have:=HQL.out b hb;omega)
    have hB8:Bs w8 (fun b=>wS.heap.size≤b) A5 m r.body:=(Row.of_own HO5.out).keep q8 (fun b _ hb=>by omega)
    have hc5:m≤c5∧c5≤9223372036854775807:=⟨own_cap HO5.out,own_capMax HO5.out⟩
    have hz8:=q8.size
    have HK8:=Lib.hid ((HKT7.out.trans2 q8 (fun j hj _=>by omega)).drew)
    replace hL8:=hL8.new (New.refl w8).drew
    replace hB8:=hB8.drew
    have hb8:w8.drew.heap[w.heap.size]?=_:=hb8
    clear HO5 HL7 HKT7 q8 HBX HBT HXr HKE HKT
    refine holdW_begin [7,10] (Keep (fun j=>j≠bl∧some j≠blk A1) w8.drew) (New w8.drew) (by kernel_rfl) ?_
    have hz9:w8.heap.size=w8.drew.heap.size:=rfl
    rw [hz9] at hz8
    clear hz9
    generalize w8.drew=w9 at *
    have s0:Keep (fun j=>j≠bl∧some j≠blk A1) w9 w9:=Keep.refl _ _
    have t0:New w9 w9:=New.refl _
    have hg0:w.heap.size≠bl∧some w.heap.size≠blk A1:=⟨by omega,fun e=>HA1.out e.symm⟩
    have r0:∀ W,Keep (fun j=>j≠bl∧some j≠blk A1) w9 W→W.cell? _=_:=fun W h=>cellOf (h.blockAt hb8 hg0) (k:=0) rfl
    have r1:∀ W,Keep (fun j=>j≠bl∧some j≠blk A1) w9 W→W.cell? _=_:=fun W h=>cellOf (h.blockAt hb8 hg0) (k:=1) rfl
    have r2:∀ W,Keep (fun j=>j≠bl∧some j≠blk A1) w9 W→W.cell? _=_:=fun W h=>cellOf (h.blockAt hb8 hg0) (k:=2) rfl
    obtain ⟨H9,hc9,hb9,h329,hB9⟩:=hL8.log.cells
    have r7:∀ W,New w9 W→W.cell? ⟨bl,7,none⟩=_:=fun W h=>cellOf (h.blockAt hb9 trivial) (k:=7) rfl
    have HL8:=Lib.hid hL8
    have HB9:=Lib.hid hB9
    have HB8:=Lib.hid hB8
    have HL9:=Lib.hid (And.intro hb9 hb8)
    clear hL8 hB9 hB8 hb9 hb8
    refine holdW_read (i:=0) (v:=?_) ⟨s0,fun _=>t0⟩ rfl (by kernel_rfl) (by kernel_rfl) (by kernel_rfl) rfl (fun _ _ _ h=>h) rfl ?_ ?_
    rotate_left
    ·intro w' hN
     go_simp
     try with_reducible rfl
    simp only [Act.put,ly1,ly3,ly4,ly5,ly6]
    refine holdW_read (i:=1) (v:=?_) ⟨s0,fun _=>t0⟩ rfl (by kernel_rfl) (by kernel_rfl) (by kernel_rfl) rfl (fun _ _ _ h=>h) rfl ?_ ?_
    rotate_left
    ·intro w' hN
     go_simp
     try with_reducible rfl
    simp only [Act.put,ly1,ly2,ly3,ly4,ly5,ly6]
    refine holdW_read (i:=2) (v:=?_) ⟨s0,fun _=>t0⟩ rfl (by kernel_rfl) (by kernel_rfl) (by kernel_rfl) rfl (fun _ _ _ h=>h) rfl ?_ ?_
    rotate_left
    ·intro w' hN
     go_simp
     try with_reducible rfl
    simp only [Act.put,ly1,ly2,ly3,ly4,ly5,ly6]
    refine holdW_read (i:=3) (v:=?_) ⟨s0,fun _=>t0⟩ rfl (by kernel_rfl) (by kernel_rfl) (by kernel_rfl) rfl (fun _ _ _ h=>h) rfl ?_ ?_
    rotate_left
    ·intro w' hN
     go_simp
     try with_reducible rfl
    simp only [Act.put,ly1,ly2,ly3,ly4,ly5,ly6]
    refine holdW_readT (i:=4) (v:=?_) ⟨s0,fun _=>t0⟩ rfl (by kernel_rfl) (by kernel_rfl) (by kernel_rfl) (by kernel_rfl) (by kernel_rfl) (fun _ _ _ h=>h) rfl ?_ ?_
    rotate_left
    ·intro w' hN
     go_simp
     try with_reducible rfl
    simp only [Act.put,ly1,ly2,ly3,ly4,ly5,ly6]
    refine holdW_read (i:=5) (v:=?_) ⟨s0,fun _=>t0⟩ rfl (by kernel_rfl) (by kernel_rfl) (by kernel_rfl) rfl (fun _ _ _ h=>h) rfl ?_ ?_
    rotate_left
    ·intro w' hN
     go_simp
     try with_reducible rfl
    simp only [Act.put,ly1,ly2,ly3,ly4,ly5,ly6]
    clear r0 r1 r2 r7
    refine holdW_step (i:=6) (by kernel_rfl) rfl rfl (fun K hK=>?_)
    go_simp
    try go_wp2_with fail
    have kA:New w9 (w9.alloc (.cells #[.int .i64 r.kind,.int .u64 r.seq,.slice A5 m c5] 188)):=(New.refl w9).alloc _
    have hrw:=(Row.made w9 188 #[.int .i64 r.kind,.int .u64 r.seq,.slice A5 m c5] 1 3 rfl).imp (E:=fun _=>True) fun _ _ _=>trivial
    refine hK.out _ _ ⟨s0.new kA,fun _=>kA⟩ ?_
    clear hK K
    try simp only [Act.put,ly1,ly2,ly3,ly4,ly5,ly6]
    generalize w9.alloc (.cells #[.int .i64 r.kind,.int .u64 r.seq,.slice A5 m c5] 188)=wA at *
    have hw8:=HL8.out.log.waits.new kA
    have hw8:=hw8.imp (F:=fun b=>D1 b∨wS.heap.size≤b) fun b _ hb=>.inl hb
    have hlo:=hw8.lt
    refine holdW_step (i:=7) (by kernel_rfl) rfl rfl (fun K hK=>?_)
    obtain ⟨q0,hq0,hqz,hqs,hqb⟩:=info_parts info_record
    refine wp_sl (E:=recElt) _ _ _ 195 188 rfl q0 (.agg #[.int .i64 0,.int .u64 0,.slice none 0 0]) 40 Tryz.underlying195 hq0 hqz hqs hqb rfl base (fun b=>D1 b∨wS.heap.size≤b) A1 vs.waits.length c1 vs.waits rfl hw8 (fun _=>True) (some ⟨w9.heap.size,0,none⟩) 1 [.int .i64 r.kind,.int .u64 r.seq,.slice A5 m c5] r rfl hrw ⟨A5,c5,rfl,rfl,by rw [hm.out];rfl,by rw [hm.out];exact hc5.1,by rw [hm.out];exact (HB8.out.new kA).imp (fun b _ hb=>⟨.inr hb,fun e=>by have:=HA2.out b e.symm;omega⟩),hs0,by omega,by rw [hm.out];omega,hc5.2⟩ (by have:=HN1.out;omega) (by have:=HN1.out;omega) (by have:=kA.size;have:=HH.out.2.2.2.2;omega) ?_
    intro A7 c7 wB o7 hg7 hbk7
    have kB:Keep (fun j=>some j≠blk A1) wA wB:=Keep.grown (Keep.refl _ _) hg7 (fun j hj hd=>absurd hj.symm hd)
    have s7:Keep (fun j=>j≠bl∧some j≠blk A1) w9 wB:=(s0.new kA).trans2 kB (fun b _ hb=>hb.2)
    refine hK.out _ _ ⟨s7,fun h=>absurd h (by decide)⟩ ?_
    clear hK K
    try simp only [Act.put,ly1,ly2,ly3,ly4,ly5,ly6]
    refine holdW_read (i:=8) (v:=?_) ⟨s7,fun h=>absurd h (by decide)⟩ rfl (by kernel_rfl) (by kernel_rfl) (by kernel_rfl) rfl (fun _ _ _ h=>h) rfl ?_ ?_
    rotate_left
    ·intro w' hN
     go_simp
     try with_reducible rfl
    simp only [Act.put,ly1,ly2,ly3,ly4,ly5,ly6]
    refine holdW_read (i:=9) (v:=?_) ⟨s7,fun h=>absurd h (by decide)⟩ rfl (by kernel_rfl) (by kernel_rfl) (by kernel_rfl) rfl (fun _ _ _ h=>h) rfl ?_ ?_
    rotate_left
    ·intro w' hN
     go_simp
     try with_reducible rfl
    simp only [Act.put,ly1,ly2,ly3,ly4,ly5,ly6]
    have hbB:=kB.blockAt (kA.blockAt HL9.out.1 trivial) (fun e=>HL8.out.log.apart e.symm)
    have d7:=cellOf hbB (k:=7) rfl
    have z7:=frozenOf hbB 7
    refine holdW_step (i:=10) (by kernel_rfl) rfl rfl (fun K hK=>?_)
    go_simp
    have hbE:=setCell_block hbB 7 (.slice A7 (vs.waits.length+1) c7)
    have kS:Keep (fun b=>b≠bl) wB (wB.setCell ⟨bl,7,none⟩ (.slice A7 (vs.waits.length+1) c7)):=(Keep.refl _ wB).setCell (p:=⟨bl,7,none⟩) (fun hd=>absurd rfl hd) _
    have s8:=s7.trans2 kS (fun b _ hb=>hb.1)
    refine hK.out _ _ ⟨s8,fun h=>absurd h (by decide)⟩ ?_
    clear hK K d7 z7
    try simp only [Act.put,ly1,ly2,ly3,ly4,ly5,ly6]
    generalize wB.setCell _ _=wC at *
    refine wpAnyW_done (by kernel_rfl) ?_ _
    go_wp2_with fail
    go_ret
    rw [hcode.out,show v.append r=LogV.more vs r from happ.out,show v.adisk r S=Ss from hdsk.out]
    obtain ⟨hk,A8,c8,hl8,hb8⟩:=LogOn.grown HH.out.1 HK8.out s8 HL8.out hbE h329 HB9.out kS o7 hbk7 kA.size (by omega) HX1.out.1 HX1.out.2 (by have:=HN1.out;omega)
    first|exact ⟨rfl,hk,A8,c8,hl8,hb8⟩|exact ⟨rfl,hk,A8,⟨c8,hl8⟩,hb8⟩
  ·as_aux_lemma =>
   go_wp2_with fail
   refine (HRM.out _ HKr.out).mono ?_
   rintro e w5 ⟨rfl,k5⟩
   have HXr:=Lib.hid (k5.blockAt HXr.out trivial)
   have HKE:=Lib.hid (HKr.out.new k5)
   clear k5
   have hsg:v.g-v.sealed≠0:=by have:=HRO2.out;omega
   have HN1:Hid (v.waits.length≤62):=Lib.hid (by have:=hn.out;omega)
   have hcode:Hid (v.code r=0):=Lib.hid (by unfold LogV.code;rw [HFT.out,if_neg hsg,if_pos rfl])
   have happ:Hid (v.append r=v.more r):=Lib.hid (by unfold LogV.append;rw [if_neg (by rw [hcode.out];decide),if_pos HFT.out])
   have hdsk:Hid (v.adisk r S=S):=Lib.hid (by unfold LogV.adisk;rw [if_neg (by rw [hcode.out];decide),if_pos HFT.out])
   have HL:=Lib.hid (LogOn.under HH.out.1 HKE.out)
   have HBX:=HXr
   have HBT:=Lib.hid (HBW.out _ HKE.out)
   have HKT:Hid (Keep (fun j=>j≠bl∧DiskOf q j∧some j≠blk A) w w5):=Lib.hid (Keep.of_new HKE.out)
   have hAlt:=HH.out.1.log.rowLt
   have hdq:∀ j,j=q.bd∨j=q.bs∨j=q.bm→j<w.heap.size:=HH.out.1.disk.lt
   have hzz:=HKE.out.size
   have HA1:Hid (blk A≠some w.heap.size):=Lib.hid fun e=>by have:=(hAlt _ e).2;omega
   have HA2:Hid (∀ k,blk A=some k→k<w5.heap.size):=Lib.hid fun k hk=>Nat.lt_of_lt_of_le (hAlt k hk).2 hzz
   have HX1:Hid ((blk A=blk A∨A=none)∧∀ b,(fun b=>D b∧b<w.heap.size) b→D b∨w.heap.size≤b):=Lib.hid ⟨.inl rfl,fun b hb=>.inl hb.1⟩
   generalize hDD:(fun b=>D b∧b<w.heap.size)=D1 at *
   have HD1:Hid (∀ b,D1 b→b≠w.heap.size):=Lib.hid fun b hb e=>by rw [← hDD] at hb;have:=hb.2;omega
   have HQL:=Lib.hid hdq
   clear hDD hAlt hdq hzz HRM d0 hsg
   have c2:=cellOf HBX.out (k:=2) rfl
   have HCB:=Lib.hid (clone_bytes (fun b=>D2 b∧b<w.heap.size) Ar m cr r.body w5 HBT.out (by omega))
   have hzt:w.heap.size<w5.heap.size:=(Array.getElem?_eq_some_iff.1 HBX.out).1
   go_wp2_with fail
   refine HCB.out.mono ?_
   rintro e w7 ⟨⟨A5,c5,rfl,o5⟩,k7⟩
   have hbx7:=k7.blockAt HBX.out trivial
   have f2:=frozenOf hbx7 2
   have c2:=cellOf hbx7 (k:=2) rfl
   have HL7:=Lib.hid (HL.out.new k7)
   have HO5:=Lib.hid o5
   have HKT7:=Lib.hid (Keep.new HKT.out k7)
   have hz7:=k7.size
   clear o5 HCB k7
   go_upto_region 10 with fail
   have hb8:=setCell_block hbx7 2 (.slice A5 m c5)
   have q8:Keep (fun j=>j≠w.heap.size) w7 (w7.setCell ⟨w.heap.size,2,none⟩ (.slice A5 m c5)):=(Keep.refl _ w7).setCell (p:=⟨w.heap.size,2,none⟩) (fun hd=>absurd rfl hd) _
   clear f2 c2 hbx7
   generalize w7.setCell ⟨w.heap.size,2,none⟩ (.slice A5 m c5)=w8 at *
   have hLn:=HL7.out.log.rowLt
   have hL8:LogOn w8 D1 base bl q v A c S:=HL7.out.keep q8 (by omega) (fun k hk e=>HA1.out (by rw [hk,e])) (fun b hb=>HD1.out b hb) (fun b hb e=>by have:=HQL.out b hb;omega)
   have hB8:Bs w8 (fun b=>w5.heap.size≤b) A5 m r.body:=(Row.of_own HO5.out).keep q8 (fun b _ hb=>by omega)
   have hc5:m≤c5∧c5≤9223372036854775807:=⟨own_cap HO5.out,own_capMax HO5.out⟩
   have hz8:=q8.size
   have HK8:=Lib.hid ((HKT7.out.trans2 q8 (fun j hj _=>by omega)).drew)
   replace hL8:=hL8.new (New.refl w8).drew
   replace hB8:=hB8.drew
   have hb8:w8.drew.heap[w.heap.size]?=_:=hb8
   clear HO5 HL7 HKT7 q8 HBX HBT HXr HKE HKT
   refine holdW_begin [7,10] (Keep (fun j=>j≠bl∧some j≠blk A) w8.drew) (New w8.drew) (by kernel_rfl) ?_
   have hz9:w8.heap.size=w8.drew.heap.size:=rfl
   rw [hz9] at hz8
   clear hz9
   generalize w8.drew=w9 at *
   have s0:Keep (fun j=>j≠bl∧some j≠blk A) w9 w9:=Keep.refl _ _
   have t0:New w9 w9:=New.refl _
   have hg0:w.heap.size≠bl∧some w.heap.size≠blk A:=⟨by omega,fun e=>HA1.out e.symm⟩
   have r0:∀ W,Keep (fun j=>j≠bl∧some j≠blk A) w9 W→W.cell? _=_:=fun W h=>cellOf (h.blockAt hb8 hg0) (k:=0) rfl
   have r1:∀ W,Keep (fun j=>j≠bl∧some j≠blk A) w9 W→W.cell? _=_:=fun W h=>cellOf (h.blockAt hb8 hg0) (k:=1) rfl
   have r2:∀ W,Keep (fun j=>j≠bl∧some j≠blk A) w9 W→W.cell? _=_:=fun W h=>cellOf (h.blockAt hb8 hg0) (k:=2) rfl
   obtain ⟨H9,hc9,hb9,h329,hB9⟩:=hL8.log.cells
   have r7:∀ W,New w9 W→W.cell? ⟨bl,7,none⟩=_:=fun W h=>cellOf (h.blockAt hb9 trivial) (k:=7) rfl
   have HL8:=Lib.hid hL8
   have HB9:=Lib.hid hB9
   have HB8:=Lib.hid hB8
   have HL9:=Lib.hid (And.intro hb9 hb8)
   clear hL8 hB9 hB8 hb9 hb8
   refine holdW_read (i:=0) (v:=?_) ⟨s0,fun _=>t0⟩ rfl (by kernel_rfl) (by kernel_rfl) (by kernel_rfl) rfl (fun _ _ _ h=>h) rfl ?_ ?_
   rotate_left
   ·intro w' hN
    go_simp
    try with_reducible rfl
   simp only [Act.put,ly1,ly3,ly4,ly5,ly6]
   refine holdW_read (i:=1) (v:=?_) ⟨s0,fun _=>t0⟩ rfl (by kernel_rfl) (by kernel_rfl) (by kernel_rfl) rfl (fun _ _ _ h=>h) rfl ?_ ?_
   rotate_left
   ·intro w' hN
    go_simp
    try with_reducible rfl
   simp only [Act.put,ly1,ly2,ly3,ly4,ly5,ly6]
   refine holdW_read (i:=2) (v:=?_) ⟨s0,fun _=>t0⟩ rfl (by kernel_rfl) (by kernel_rfl) (by kernel_rfl) rfl (fun _ _ _ h=>h) rfl ?_ ?_
   rotate_left
   ·intro w' hN
    go_simp
    try with_reducible rfl
   simp only [Act.put,ly1,ly2,ly3,ly4,ly5,ly6]
   refine holdW_read (i:=3) (v:=?_) ⟨s0,fun _=>t0⟩ rfl (by kernel_rfl) (by kernel_rfl) (by kernel_rfl) rfl (fun _ _ _ h=>h) rfl ?_ ?_
   rotate_left
   ·intro w' hN
    go_simp
    try with_reducible rfl
   simp only [Act.put,ly1,ly2,ly3,ly4,ly5,ly6]
   refine holdW_readT (i:=4) (v:=?_) ⟨s0,fun _=>t0⟩ rfl (by kernel_rfl) (by kernel_rfl) (by kernel_rfl) (by kernel_rfl) (by kernel_rfl) (fun _ _ _ h=>h) rfl ?_ ?_
   rotate_left
   ·intro w' hN
    go_simp
    try with_reducible rfl
   simp only [Act.put,ly1,ly2,ly3,ly4,ly5,ly6]
   refine holdW_read (i:=5) (v:=?_) ⟨s0,fun _=>t0⟩ rfl (by kernel_rfl) (by kernel_rfl) (by kernel_rfl) rfl (fun _ _ _ h=>h) rfl ?_ ?_
   rotate_left
   ·intro w' hN
    go_simp
    try with_reducible rfl
   simp only [Act.put,ly1,ly2,ly3,ly4,ly5,ly6]
   clear r0 r1 r2 r7
   refine holdW_step (i:=6) (by kernel_rfl) rfl rfl (fun K hK=>?_)
   go_simp
   try go_wp2_with fail
   have kA:New w9 (w9.alloc (.cells #[.int .i64 r.kind,.int .u64 r.seq,.slice A5 m c5] 188)):=(New.refl w9).alloc _
   have hrw:=(Row.made w9 188 #[.int .i64 r.kind,.int .u64 r.seq,.slice A5 m c5] 1 3 rfl).imp (E:=fun _=>True) fun _ _ _=>trivial
   refine hK.out _ _ ⟨s0.new kA,fun _=>kA⟩ ?_
   clear hK K
   try simp only [Act.put,ly1,ly2,ly3,ly4,ly5,ly6]
   generalize w9.alloc (.cells #[.int .i64 r.kind,.int .u64 r.seq,.slice A5 m c5] 188)=wA at *
   have hw8:=HL8.out.log.waits.new kA
   have hw8:=hw8.imp (F:=fun b=>D1 b∨w5.heap.size≤b) fun b _ hb=>.inl hb
   have hlo:=hw8.lt
   refine holdW_step (i:=7) (by kernel_rfl) rfl rfl (fun K hK=>?_)
   obtain ⟨q0,hq0,hqz,hqs,hqb⟩:=info_parts info_record
   refine wp_sl (E:=recElt) _ _ _ 195 188 rfl q0 (.agg #[.int .i64 0,.int .u64 0,.slice none 0 0]) 40 Tryz.underlying195 hq0 hqz hqs hqb rfl base (fun b=>D1 b∨w5.heap.size≤b) A v.waits.length c v.waits rfl hw8 (fun _=>True) (some ⟨w9.heap.size,0,none⟩) 1 [.int .i64 r.kind,.int .u64 r.seq,.slice A5 m c5] r rfl hrw ⟨A5,c5,rfl,rfl,by rw [hm.out];rfl,by rw [hm.out];exact hc5.1,by rw [hm.out];exact (HB8.out.new kA).imp (fun b _ hb=>⟨.inr hb,fun e=>by have:=HA2.out b e.symm;omega⟩),hs0,by omega,by rw [hm.out];omega,hc5.2⟩ (by have:=HN1.out;omega) (by have:=HN1.out;omega) (by have:=kA.size;have:=HH.out.2.2.2.2;omega) ?_
   intro A7 c7 wB o7 hg7 hbk7
   have kB:Keep (fun j=>some j≠blk A) wA wB:=Keep.grown (Keep.refl _ _) hg7 (fun j hj hd=>absurd hj.symm hd)
   have s7:Keep (fun j=>j≠bl∧some j≠blk A) w9 wB:=(s0.new kA).trans2 kB (fun b _ hb=>hb.2)
   refine hK.out _ _ ⟨s7,fun h=>absurd h (by decide)⟩ ?_
   clear hK K
   try simp only [Act.put,ly1,ly2,ly3,ly4,ly5,ly6]
   refine holdW_read (i:=8) (v:=?_) ⟨s7,fun h=>absurd h (by decide)⟩ rfl (by kernel_rfl) (by kernel_rfl) (by kernel_rfl) rfl (fun _ _ _ h=>h) rfl ?_ ?_
   rotate_left
   ·intro w' hN
    go_simp
    try with_reducible rfl
   simp only [Act.put,ly1,ly2,ly3,ly4,ly5,ly6]
   refine holdW_read (i:=9) (v:=?_) ⟨s7,fun h=>absurd h (by decide)⟩ rfl (by kernel_rfl) (by kernel_rfl) (by kernel_rfl) rfl (fun _ _ _ h=>h) rfl ?_ ?_
   rotate_left
   ·intro w' hN
    go_simp
    try with_reducible rfl
   simp only [Act.put,ly1,ly2,ly3,ly4,ly5,ly6]
   have hbB:=kB.blockAt (kA.blockAt HL9.out.1 trivial) (fun e=>HL8.out.log.apart e.symm)
   have d7:=cellOf hbB (k:=7) rfl
   have z7:=frozenOf hbB 7
   refine holdW_step (i:=10) (by kernel_rfl) rfl rfl (fun K hK=>?_)
   go_simp
   have hbE:=setCell_block hbB 7 (.slice A7 (v.waits.length+1) c7)
   have kS:Keep (fun b=>b≠bl) wB (wB.setCell ⟨bl,7,none⟩ (.slice A7 (v.waits.length+1) c7)):=(Keep.refl _ wB).setCell (p:=⟨bl,7,none⟩) (fun hd=>absurd rfl hd) _
   have s8:=s7.trans2 kS (fun b _ hb=>hb.1)
   refine hK.out _ _ ⟨s8,fun h=>absurd h (by decide)⟩ ?_
   clear hK K d7 z7
   try simp only [Act.put,ly1,ly2,ly3,ly4,ly5,ly6]
   generalize wB.setCell _ _=wC at *
   refine wpAnyW_done (by kernel_rfl) ?_ _
   go_wp2_with fail
   go_ret
   rw [hcode.out,show v.append r=LogV.more v r from happ.out,show v.adisk r S=S from hdsk.out]
   obtain ⟨hk,A8,c8,hl8,hb8⟩:=LogOn.grown HH.out.1 HK8.out s8 HL8.out hbE h329 HB9.out kS o7 hbk7 kA.size (by omega) (.inl rfl) HX1.out.2 (by have:=HN1.out;omega)
   first|exact ⟨rfl,hk,A8,c8,hl8,hb8⟩|exact ⟨rfl,hk,A8,⟨c8,hl8⟩,hb8⟩
end Go.Proofs.YtdodbdednpnddaaGreatDoor
