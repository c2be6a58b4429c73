/-
  PROVED HERE: what segment.Read answers; conditions: lengths that a slice may have.
-/
import Derived.Test.YtdodbdednpnddaaGreatDoorPkT12
import Derived.Test.YtdodbdednpnddaaGreatDoorPkT13
set_option maxRecDepth 100000
set_option maxHeartbeats 4000000
namespace Go.Proofs.YtdodbdednpnddaaGreatDoor
open Go.RowKit
def noHead:HeadP:=⟨0,0,0,0,[],[]⟩
def headOf (bs:List UInt8):HeadP :=
 let s1:=(RdS.mk bs 0).num 2
 let s2:=s1.2.num 8
 let s3:=s2.2.num 2
 let s4:=s3.2.num 2
 let s5:=s4.2.raw 32
 ⟨s1.1,s2.1,s3.1,s4.1,s5.1,(s5.2.raw 32).1⟩
def segRead (bs:List UInt8):HeadP×List RecP×Int :=
 if bs.length≠1024 then (noHead,[],1)
 else if be4 (crcSum (bs.take 78))≠(bs.drop 78).take 4 then (noHead,[],14)
 else if (headOf bs).count=0∨942<(headOf bs).bytes then (noHead,[],12)
 else match recsGo (headOf bs).first (headOf bs).count.toNat 0 ((bs.drop 82).take (headOf bs).bytes.toNat) with
  | none=>(noHead,[],12)
  | some (rs,rest) =>
   if rest.length≠0∨(bs.drop (82+(headOf bs).bytes.toNat)).all (· == 0)=false then (noHead,[],12)
   else if rootOf (leavesOf rs)≠(headOf bs).root then (noHead,[],40)
   else (headOf bs,rs,0)
def ReadRet (d:HeadP×List RecP×Int) (w:World) (e:Ending) (w':World):Prop :=
 (∃ A1 c1 A2 c2 A3 c3,e=.returned (.tuple #[.agg #[.int .i64 d.1.index,.int .u64 d.1.first,.int .i64 d.1.count,.int .i64 d.1.bytes,.slice A1 d.1.prev.length c1,.slice A2 d.1.root.length c2],.slice A3 d.2.1.length c3,.int .i64 d.2.2]) ∧
  d.1.prev.length≤c1∧d.1.root.length≤c2∧Bs w' (fun b=>w.heap.size≤b) A1 d.1.prev.length d.1.prev∧Bs w' (fun b=>w.heap.size≤b) A2 d.1.root.length d.1.root∧OwnRecs w' w.heap.size (fun b=>w.heap.size≤b) A3 d.2.1.length c3 d.2.1)∧New w w'
theorem read_short (D:Nat→Prop) (A:Option Addr) (n c:Nat) (bs:List UInt8) (w:World) (hB:Bs w D A n bs) (h:n≠1024):
  Calls Tryz.prog 194 #[.slice A n c] w (ReadRet (segRead bs) w):=by
 have hd:Hid (segRead bs=(noHead,[],1)):=Lib.hid (by unfold segRead;rw [if_pos (by rw [hB.len];exact h)])
 have hn:((n:Int) !=1024)=true:=by simp;omega
 clear hB
 go_enter Tryz.func194,Tryz.ntmps194
 go_wp2_with fail
 refine bodyPost_ret (v:=.tuple #[.agg #[.int .i64 0,.int .u64 0,.int .i64 0,.int .i64 0,.slice none 0 0,.slice none 0 0],.slice none 0 0,.int .i64 1]) (by simp [results,Tryz.results194,go_sem]) rfl ?_
 rw [hd.out]
 exact ⟨⟨none,0,none,0,none,0,rfl,Nat.le_refl _,Nat.le_refl _,Row.nil _ _ _ _,Row.nil _ _ _ _,OwnRecs.nil _ _ _⟩,(New.refl w).alloc _⟩
theorem set_six {w:World}{g:Nat}{a b c d e f:Value}{t:TypeId}(h:w.heap[g]?=some (.cells #[a,b,c,d,e,f] t (0,0))) (x0 x1 x2 x3 x4 x5:Value):
  ((((((w.setCell ⟨g,0,none⟩ x0).setCell ⟨g,1,none⟩ x1).setCell ⟨g,2,none⟩ x2).setCell ⟨g,3,none⟩ x3).setCell ⟨g,4,none⟩ x4).setCell ⟨g,5,none⟩ x5).heap[g]?=some (.cells #[x0,x1,x2,x3,x4,x5] t (0,0)) :=
 setCell_block (setCell_block (setCell_block (setCell_block (setCell_block (setCell_block h 0 x0) 1 x1) 2 x2) 3 x3) 4 x4) 5 x5
theorem keep_six (w:World) (g:Nat) (x0 x1 x2 x3 x4 x5:Value):
  Keep (fun b=>b≠g) w ((((((w.setCell ⟨g,0,none⟩ x0).setCell ⟨g,1,none⟩ x1).setCell ⟨g,2,none⟩ x2).setCell ⟨g,3,none⟩ x3).setCell ⟨g,4,none⟩ x4).setCell ⟨g,5,none⟩ x5) :=
 ((((((Keep.refl _ w).setCell (p:=⟨g,0,none⟩) (fun h=>absurd rfl h) x0).setCell (p:=⟨g,1,none⟩) (fun h=>absurd rfl h) x1).setCell (p:=⟨g,2,none⟩) (fun h=>absurd rfl h) x2).setCell (p:=⟨g,3,none⟩) (fun h=>absurd rfl h) x3).setCell (p:=⟨g,4,none⟩) (fun h=>absurd rfl h) x4).setCell (p:=⟨g,5,none⟩) (fun h=>absurd rfl h) x5
theorem new_six {w0 w:World}(h:New w0 w){g:Nat}(hg:w0.heap.size≤g) (x0 x1 x2 x3 x4 x5:Value):
  New w0 ((((((w.setCell ⟨g,0,none⟩ x0).setCell ⟨g,1,none⟩ x1).setCell ⟨g,2,none⟩ x2).setCell ⟨g,3,none⟩ x3).setCell ⟨g,4,none⟩ x4).setCell ⟨g,5,none⟩ x5) :=
 (Keep.trans2 (D:=fun b=>b<w0.heap.size) (Keep.of_new h) (keep_six w g x0 x1 x2 x3 x4 x5) (fun i hi _=>by omega)).toNew (fun i hi=>hi)
theorem OwnRecs.keep {w w':World}{base:Nat}{D E:Nat→Prop}{A:Option Addr}{n c:Nat}{rs:List RecP}(h:OwnRecs w base D A n c rs) (hk:Keep E w w') (hb:∀ k,base≤k→E k) (hD:∀ b,D b→E b):OwnRecs w' base D A n c rs:=by
 obtain ⟨vs,h1,h2,h3⟩:=h
 exact ⟨vs,own_keep h1 hk (fun k hk'=>hb k (own_lt h1 k hk').1),h2,fun k hk'=>(h3 k hk').keep hk fun b _ hd=>hD b hd.1⟩
theorem OwnRecs.imp {w:World}{base:Nat}{D E:Nat→Prop}{A:Option Addr}{n c:Nat}{rs:List RecP}(h:OwnRecs w base D A n c rs) (hE:∀ b,D b→E b):OwnRecs w base E A n c rs:=by
 obtain ⟨vs,h1,h2,h3⟩:=h
 exact ⟨vs,h1,h2,fun k hk'=>(h3 k hk').imp fun b _ hd=>⟨hE b hd.1,hd.2⟩⟩
theorem OwnRecs.rebase {w:World}{base base':Nat}{D:Nat→Prop}{A:Option Addr}{n c:Nat}{rs:List RecP}(h:OwnRecs w base' D A n c rs) (hb:base≤base'):OwnRecs w base D A n c rs:=by
 obtain ⟨vs,h1,h2,h3⟩:=h
 exact ⟨vs,own_base h1 hb,h2,h3⟩
theorem read_go (D:Nat→Prop) (A:Option Addr) (c:Nat) (bs:List UInt8) (w:World) (hB:Bs w D A 1024 bs) (hc:1024≤c) (hc9:c≤9223372036854775807):
  Calls Tryz.prog 194 #[.slice A 1024 c] w (ReadRet (segRead bs) w):=by
 have hH:Hid (headOf bs=⟨((RdS.mk bs 0).num 2).1,(((RdS.mk bs 0).num 2).2.num 8).1,((((RdS.mk bs 0).num 2).2.num 8).2.num 2).1,(((((RdS.mk bs 0).num 2).2.num 8).2.num 2).2.num 2).1,((((((RdS.mk bs 0).num 2).2.num 8).2.num 2).2.num 2).2.raw 32).1,(((((((RdS.mk bs 0).num 2).2.num 8).2.num 2).2.num 2).2.raw 32).2.raw 32).1⟩):=Lib.hid rfl
 have hC:Hid (segRead bs=(if be4 (crcSum (bs.take 78))≠(bs.drop 78).take 4 then (noHead,[],14)
  else if (headOf bs).count=0∨942<(headOf bs).bytes then (noHead,[],12)
  else match recsGo (headOf bs).first (headOf bs).count.toNat 0 ((bs.drop 82).take (headOf bs).bytes.toNat) with
  | none=>(noHead,[],12)
  | some (rs,rest) =>
   if rest.length≠0∨(bs.drop (82+(headOf bs).bytes.toNat)).all (· == 0)=false then (noHead,[],12)
   else if rootOf (leavesOf rs)≠(headOf bs).root then (noHead,[],40)
   else (headOf bs,rs,0):HeadP×List RecP×Int)):=Lib.hid (by unfold segRead;rw [if_neg (by rw [hB.len];decide)])
 have r2:=num_lt ((RdS.mk bs 0).num 2).2 8
 have r3:=num_lt (((RdS.mk bs 0).num 2).2.num 8).2 2
 have r4:=num_lt ((((RdS.mk bs 0).num 2).2.num 8).2.num 2).2 2
 have G1:=Lib.hid (fun p w' h=>rshort_any p (RdS.mk bs 0) w' h)
 generalize ((RdS.mk bs 0).num 2).1=ix at *
 generalize ((RdS.mk bs 0).num 2).2=s1 at *
 have G2:=Lib.hid (fun p w' h=>rlong_any p s1 w' h)
 generalize (s1.num 8).1=fi at *
 generalize (s1.num 8).2=s2 at *
 have G3:=Lib.hid (fun p w' h=>rshort_any p s2 w' h)
 generalize (s2.num 2).1=co at *
 generalize (s2.num 2).2=s3 at *
 have G4:=Lib.hid (fun p w' h=>rshort_any p s3 w' h)
 generalize (s3.num 2).1=by' at *
 generalize (s3.num 2).2=s4 at *
 have G5:=Lib.hid (fun p w' h=>rraw_any p s4 32 w' h)
 generalize (s4.raw 32).1=pr at *
 generalize (s4.raw 32).2=s5 at *
 have G6:=Lib.hid (fun p w' h=>rraw_any p s5 32 w' h)
 generalize (s5.raw 32).1=ro at *
 generalize (s5.raw 32).2=s6 at *
 rw [hH.out] at hC
 dsimp only at hC
 rw [Int.toNat_natCast,Int.toNat_natCast] at hC
 have hct0:Bs w D A 78 (bs.take 78):=hB.cutTo (by decide)
 have HCT:=Lib.hid hct0
 have hcs0:Bs w D (Option.map (fun x=>x.add 78) A) 4 ((bs.drop 78).take 4):=(hB.from_ (l:=78) (by decide)).cutTo (hi:=4) (by decide)
 have HCS:=Lib.hid hcs0
 have HCR:Hid (∀ W,New w W→Calls Tryz.prog 111 #[.slice A 78 c] W fun e w'=>e=.returned (.int .u32 (wv (crcSum (bs.take 78))))∧New W w') :=
  Lib.hid fun W h=>(crc_sum D A 78 c _ W (HCT.out.new h) (by decide)).mono fun e w' ⟨h1,h2⟩=>⟨h1,h2▸New.refl _⟩
 have HEQ:Hid (∀ W b A9 c9 x,New w W→OwnB W b 5 A9 4 c9 x→Calls Tryz.prog 205 #[.slice A9 4 c9,.slice (Option.map (fun x=>x.add 78) A) 4 (c-78)] W fun e w'=>e=.returned (.bool (x==(bs.drop 78).take 4))∧New W w') :=
  Lib.hid fun W b A9 c9 x h ho=>(equal_any _ D A9 _ 4 c9 4 (c-78) x _ W (Row.of_own ho) (HCS.out.new h)).mono fun e w' ⟨h1,h2⟩=>⟨h1,h2▸New.refl _⟩
 have HB0:=Lib.hid hB
 clear hct0 hcs0 HCT HCS
 generalize crcSum (bs.take 78)=cx at *
 generalize (bs.drop 78).take 4=ck at *
 have HO0:=Lib.hid (heap_alloc_new w (.cells #[.int .i64 0,.int .u64 0,.int .i64 0,.int .i64 0,.slice none 0 0,.slice none 0 0] 264))
 have hK0:New w (w.alloc (.cells #[.int .i64 0,.int .u64 0,.int .i64 0,.int .i64 0,.slice none 0 0,.slice none 0 0] 264)):=(New.refl w).alloc _
 clear hB
 go_enter Tryz.func194,Tryz.ntmps194
 go_wp2_with fail
 refine (newReader_any D _ 1024 c bs _ (HB0.out.new ((New.refl w).alloc _)) (by decide)).mono ?_
 rintro e w1 ⟨⟨p,rfl,hp,hR1⟩,hK1⟩
 have hpg:w.heap.size<p:=by rw [World.size_alloc] at hp;omega
 have HO1:=Lib.hid (hK1.blockAt HO0.out trivial)
 have hK01:=hK0.new hK1
 have hpl1:=hR1.lt
 clear hK1 hp hK0 HO0
 go_wp2_with fail
 refine (G1.out p w1 hR1).mono ?_
 rintro e w2 ⟨rfl,hR2,hK2⟩
 go_wp2_with fail
 refine (G2.out p w2 hR2).mono ?_
 rintro e w3 ⟨rfl,hR3,hK3⟩
 go_wp2_with fail
 refine (G3.out p w3 hR3).mono ?_
 rintro e w4 ⟨rfl,hR4,hK4⟩
 go_wp2_with fail
 refine (G4.out p w4 hR4).mono ?_
 rintro e w5 ⟨rfl,hR5,hK5⟩
 go_wp2_with fail
 refine (G5.out p w5 hR5).mono ?_
 rintro e w6 ⟨⟨A6,c6,rfl,hown6⟩,hR6,hK6⟩
 go_wp2_with fail
 refine (G6.out p w6 hR6).mono ?_
 rintro e w7 ⟨⟨A7,c7,rfl,hown7⟩,hR7,hK7⟩
 have hK15:=(((hK2.trans hK3).trans hK4).trans hK5)
 have hK17:=(hK15.trans hK6).trans hK7
 have HO7:=Lib.hid (hK17.blockAt HO1.out (Nat.ne_of_lt hpg))
 have hK07:New w w7:=(Keep.trans2 (D:=fun b=>b<w.heap.size) (Keep.of_new hK01) hK17 (fun i hi _=>by omega)).toNew (fun i hi=>hi)
 have h15:=hK15.size
 have h16:=(hK15.trans hK6).size
 have hw1:w.heap.size<w1.heap.size:=Nat.lt_trans hpg hpl1
 have hown6':=own_base (base:=w.heap.size+1) (own_keep hown6 hK7 (fun k hk e=>by have:=(own_lt hown6 k hk).1;omega)) (by omega)
 have hown7':=own_base (base:=w.heap.size+1) hown7 (by omega)
 clear hR1 hR2 hR3 hR4 hR5 hR6 hR7 hK2 hK3 hK4 hK5 hK6 hK7 hK15 hK17 hown6 hown7 hK01 HO1 h15 h16 hw1 G1 G2 G3 G4 G5 G6 hpg hpl1
 go_wp2_with fail
 have hN8:New w7 (w7.alloc (.cells #[.int .i64 (ix:Int),.int .u64 (fi:Int),.int .i64 (co:Int),.int .i64 (by':Int),.slice A6 pr.length c6,.slice A7 ro.length c7] 264)):=(New.refl w7).alloc _
 have HX8:=Lib.hid (heap_alloc_new w7 (.cells #[.int .i64 (ix:Int),.int .u64 (fi:Int),.int .i64 (co:Int),.int .i64 (by':Int),.slice A6 pr.length c6,.slice A7 ro.length c7] 264))
 have hgx:w.heap.size<w7.heap.size:=(Array.getElem?_eq_some_iff.1 HO7.out).1
 generalize w7.alloc _=w8 at *
 generalize w7.heap.size=gx at *
 have hK08:=hK07.new hN8
 have HO8:=Lib.hid (hN8.blockAt HO7.out trivial)
 have hown6:=Own.keepNew hown6' hN8
 have hown7:=Own.keepNew hown7' hN8
 clear hown6' hown7' hK07 hN8 HO7
 have i1:(78:Int)≤c:=by omega
 have i2:(82:Int)≤c:=by omega
 have i3:¬ c=78:=by omega
 have i4:(1024:Int)≤c:=by omega
 by_cases hs:be4 cx=ck
 ·have hs':(be4 cx==ck)=true:=by simpa using hs
  have HS:=Lib.hid hs
  clear hs
  refine hold_begin (by kernel_rfl) ?_
  have n0:New w8 w8.drew:=(New.refl w8).drew
  refine take1 0 ?_
  refine take1 1 ?_
  refine take1 4 ?_
  refine take1 5 ?_
  refine hold_step (i:=2) (by kernel_rfl) rfl rfl (fun K hK=>?_)
  go_simp
  refine (HCR.out _ (hK08.new n0)).mono ?_
  rintro e w9 ⟨rfl,k9⟩
  go_wp2_with fail
  refine hK.out _ _ k9 ?_
  clear hK K
  try simp only [Act.put,ly1,ly2,ly3,ly4,ly5,ly6]
  replace n0:=Keep.new n0 k9
  refine hold_step (i:=3) (by kernel_rfl) rfl rfl (fun K hK=>?_)
  go_simp
  refine (four_any _ _).mono ?_
  rintro e w10 ⟨⟨A10,c10,rfl,o10⟩,k10⟩
  go_wp2_with fail
  refine hK.out _ _ k10 ?_
  clear hK K
  try simp only [Act.put,ly1,ly2,ly3,ly4,ly5,ly6]
  replace n0:=Keep.new n0 k10
  refine hold_step (i:=6) (by kernel_rfl) rfl rfl (fun K hK=>?_)
  go_simp
  refine (HEQ.out _ _ A10 c10 _ (hK08.new n0) o10).mono ?_
  rintro e w11 ⟨rfl,k11⟩
  go_wp2_with fail
  refine hK.out _ _ k11 ?_
  clear hK K
  try simp only [Act.put,ly1,ly2,ly3,ly4,ly5,ly6]
  replace n0:=Keep.new n0 k11
  refine take1 7 ?_
  refine wpAnyH_done (by kernel_rfl) ?_ _
  clear hs' HCR HEQ k9 k10 k11 o10
  have HOb:=Lib.hid (n0.blockAt HO8.out trivial)
  have HXb:=Lib.hid (n0.blockAt HX8.out trivial)
  have hK11:=hK08.new n0
  have p6:=Own.keepNew hown6 n0
  have p7:=Own.keepNew hown7 n0
  rw [if_neg (fun h=>h HS.out)] at hC
  clear HO8 HX8 hK08 hown6 hown7 n0
  by_cases hco:co=0
  ·have hc0:((co:Int)==0)=true:=by rw [hco];rfl
   have x2:w11.cell? ⟨gx,2,none⟩=some (.int .i64 (co:Int)):=cellOf HXb.out rfl
   have HCO:=Lib.hid hco
   clear hco
   have d0:w11.cell? ⟨w.heap.size,0,none⟩=some (.int .i64 0):=cellOf HOb.out rfl
   have d1:w11.cell? ⟨w.heap.size,1,none⟩=some (.int .u64 0):=cellOf HOb.out rfl
   have d2:w11.cell? ⟨w.heap.size,2,none⟩=some (.int .i64 0):=cellOf HOb.out rfl
   have d3:w11.cell? ⟨w.heap.size,3,none⟩=some (.int .i64 0):=cellOf HOb.out rfl
   have d4:w11.cell? ⟨w.heap.size,4,none⟩=some (.slice none 0 0):=cellOf HOb.out rfl
   have d5:w11.cell? ⟨w.heap.size,5,none⟩=some (.slice none 0 0):=cellOf HOb.out rfl
   obtain ⟨z0,z1,z2,z3,z4,z5⟩:=fz6 HOb.out
   go_wp2_with fail
   clear d0 d1 d2 d3 d4 d5 z0 z1 z2 z3 z4 z5
   have hE:=set_six HOb.out (.int .i64 0) (.int .u64 0) (.int .i64 0) (.int .i64 0) (.slice none 0 0) (.slice none 0 0)
   have hKE:=new_six hK11 (g:=w.heap.size) (Nat.le_refl _) (.int .i64 0) (.int .u64 0) (.int .i64 0) (.int .i64 0) (.slice none 0 0) (.slice none 0 0)
   generalize World.setCell _ _ _=wE at *
   have f0:wE.cell? ⟨w.heap.size,0,none⟩=some (.int .i64 0):=cellOf hE rfl
   have f1:wE.cell? ⟨w.heap.size,1,none⟩=some (.int .u64 0):=cellOf hE rfl
   have f2:wE.cell? ⟨w.heap.size,2,none⟩=some (.int .i64 0):=cellOf hE rfl
   have f3:wE.cell? ⟨w.heap.size,3,none⟩=some (.int .i64 0):=cellOf hE rfl
   have f4:wE.cell? ⟨w.heap.size,4,none⟩=some (.slice none 0 0):=cellOf hE rfl
   have f5:wE.cell? ⟨w.heap.size,5,none⟩=some (.slice none 0 0):=cellOf hE rfl
   refine bodyPost_ret (v:=.tuple #[.agg #[.int .i64 0,.int .u64 0,.int .i64 0,.int .i64 0,.slice none 0 0,.slice none 0 0],.slice none 0 0,.int .i64 12]) (by simp [results,Tryz.results194,go_sem,f0,f1,f2,f3,f4,f5]) rfl ?_
   rw [show segRead bs=(noHead,[],12) from by rw [hC.out,if_pos (.inl (by rw [HCO.out];rfl))]]
   exact ⟨⟨none,0,none,0,none,0,rfl,Nat.le_refl _,Nat.le_refl _,Row.nil _ _ _ _,Row.nil _ _ _ _,OwnRecs.nil _ _ _⟩,hKE⟩
  ·have hc0:((co:Int)==0)=false:=by simpa using hco
   have x2:w11.cell? ⟨gx,2,none⟩=some (.int .i64 (co:Int)):=cellOf HXb.out rfl
   have x3:w11.cell? ⟨gx,3,none⟩=some (.int .i64 (by':Int)):=cellOf HXb.out rfl
   by_cases hby:(942:Int)<by'
   ·-- BEGIN bad12b
    have d0:w11.cell? ⟨w.heap.size,0,none⟩=some (.int .i64 0):=cellOf HOb.out rfl
    have d1:w11.cell? ⟨w.heap.size,1,none⟩=some (.int .u64 0):=cellOf HOb.out rfl
    have d2:w11.cell? ⟨w.heap.size,2,none⟩=some (.int .i64 0):=cellOf HOb.out rfl
    have d3:w11.cell? ⟨w.heap.size,3,none⟩=some (.int .i64 0):=cellOf HOb.out rfl
    have d4:w11.cell? ⟨w.heap.size,4,none⟩=some (.slice none 0 0):=cellOf HOb.out rfl
    have d5:w11.cell? ⟨w.heap.size,5,none⟩=some (.slice none 0 0):=cellOf HOb.out rfl
    obtain ⟨z0,z1,z2,z3,z4,z5⟩:=fz6 HOb.out
    go_wp2_with fail
    clear d0 d1 d2 d3 d4 d5 z0 z1 z2 z3 z4 z5
    have hE:=set_six HOb.out (.int .i64 0) (.int .u64 0) (.int .i64 0) (.int .i64 0) (.slice none 0 0) (.slice none 0 0)
    have hKE:=new_six hK11 (g:=w.heap.size) (Nat.le_refl _) (.int .i64 0) (.int .u64 0) (.int .i64 0) (.int .i64 0) (.slice none 0 0) (.slice none 0 0)
    generalize World.setCell _ _ _=wE at *
    have f0:wE.cell? ⟨w.heap.size,0,none⟩=some (.int .i64 0):=cellOf hE rfl
    have f1:wE.cell? ⟨w.heap.size,1,none⟩=some (.int .u64 0):=cellOf hE rfl
    have f2:wE.cell? ⟨w.heap.size,2,none⟩=some (.int .i64 0):=cellOf hE rfl
    have f3:wE.cell? ⟨w.heap.size,3,none⟩=some (.int .i64 0):=cellOf hE rfl
    have f4:wE.cell? ⟨w.heap.size,4,none⟩=some (.slice none 0 0):=cellOf hE rfl
    have f5:wE.cell? ⟨w.heap.size,5,none⟩=some (.slice none 0 0):=cellOf hE rfl
    refine bodyPost_ret (v:=.tuple #[.agg #[.int .i64 0,.int .u64 0,.int .i64 0,.int .i64 0,.slice none 0 0,.slice none 0 0],.slice none 0 0,.int .i64 12]) (by simp [results,Tryz.results194,go_sem,f0,f1,f2,f3,f4,f5]) rfl ?_
    rw [show segRead bs=(noHead,[],12) from by rw [hC.out,if_pos (.inr hby)]]
    exact ⟨⟨none,0,none,0,none,0,rfl,Nat.le_refl _,Nat.le_refl _,Row.nil _ _ _ _,Row.nil _ _ _ _,OwnRecs.nil _ _ _⟩,hKE⟩
   ·have hco':¬ ((co:Int)=0):=by omega
    rw [if_neg (by omega)] at hC
    go_wp2_with fail
    clear x2 x3 hco hco' hc0
    have y0:∀ W,New w11 W→W.cell? ⟨gx,0,none⟩=some (.int .i64 (ix:Int)):=fun W h=>cellOf (h.blockAt HXb.out trivial) rfl
    have y1:∀ W,New w11 W→W.cell? ⟨gx,1,none⟩=some (.int .u64 (fi:Int)):=fun W h=>cellOf (h.blockAt HXb.out trivial) rfl
    have y2:∀ W,New w11 W→W.cell? ⟨gx,2,none⟩=some (.int .i64 (co:Int)):=fun W h=>cellOf (h.blockAt HXb.out trivial) rfl
    have y3:∀ W,New w11 W→W.cell? ⟨gx,3,none⟩=some (.int .i64 (by':Int)):=fun W h=>cellOf (h.blockAt HXb.out trivial) rfl
    have y4:∀ W,New w11 W→W.cell? ⟨gx,4,none⟩=some (.slice A6 pr.length c6):=fun W h=>cellOf (h.blockAt HXb.out trivial) rfl
    have y5:∀ W,New w11 W→W.cell? ⟨gx,5,none⟩=some (.slice A7 ro.length c7):=fun W h=>cellOf (h.blockAt HXb.out trivial) rfl
    have q1:IntKind.i64.wrap (82+(by':Int))=82+(by':Int):=IntWalk.i64_in _ (by omega)
    have q2:(82:Int)≤82+(by':Int):=by omega
    have q3:82+(by':Int)≤c:=by omega
    have q4:¬ c=82:=by omega
    have q5:(82+(by':Int)).toNat=82+by':=by omega
    have q6:82+by'-82=by':=by omega
    have h82:Bs w11 D (Option.map (fun x=>x.add 82) A) (1024-82) (bs.drop 82):=Bs.from_ (HB0.out.new hK11) (by decide)
    have hsub:Bs w11 D (Option.map (fun x=>x.add 82) A) by' ((bs.drop 82).take by'):=Bs.cutTo h82 (by omega)
    have hsl:=hsub.len
    have HSB:=Lib.hid hsub
    have HRC:Hid (∀ W,New w11 W→Calls Tryz.prog 261 #[.slice (Option.map (fun x=>x.add 82) A) by' (c-82),.agg #[.int .i64 (ix:Int),.int .u64 (fi:Int),.int .i64 (co:Int),.int .i64 (by':Int),.slice A6 pr.length c6,.slice A7 ro.length c7]] W fun e w'=>(RecsRet (recsGo fi co 0 ((bs.drop 82).take by')) W.heap.size e w')∧New W w') :=
     Lib.hid fun W h=>records_any D _ A6 A7 by' (c-82) pr.length c6 ro.length c7 _ ix fi by' co W (HSB.out.new h) (by omega) (by omega) (by omega) (by omega) (by omega) (by omega)
    have HGO:=Lib.hid (fun rs rest=>recsGo_ok (fi:Int) co 0 ((bs.drop 82).take by') rs rest)
    have hLT:=(Array.getElem?_eq_some_iff.1 HXb.out).1
    clear hsub h82
    generalize (bs.drop 82).take by'=sub at *
    rcases hG:recsGo (fi:Int) co 0 sub with _|⟨rs,rest⟩
    ·rw [hG] at HRC hC
     refine hold_begin (by kernel_rfl) ?_
     have n0:New w11 w11.drew:=(New.refl w11).drew
     replace y0:=fun W (hW:New w11.drew W)=>y0 W (Keep.new n0 hW)
     replace y1:=fun W (hW:New w11.drew W)=>y1 W (Keep.new n0 hW)
     replace y2:=fun W (hW:New w11.drew W)=>y2 W (Keep.new n0 hW)
     replace y3:=fun W (hW:New w11.drew W)=>y3 W (Keep.new n0 hW)
     replace y4:=fun W (hW:New w11.drew W)=>y4 W (Keep.new n0 hW)
     replace y5:=fun W (hW:New w11.drew W)=>y5 W (Keep.new n0 hW)
     refine take1 0 ?_
     refine take1 1 ?_
     refine take1 2 ?_
     refine take1 3 ?_
     refine take1 4 ?_
     refine take1 5 ?_
     refine hold_step (i:=6) (by kernel_rfl) rfl rfl (fun K hK=>?_)
     go_simp
     refine (HRC.out _ n0).mono ?_
     rintro e w12 ⟨hret,k12⟩;obtain rfl:=hret
     go_wp2_with fail
     refine hK.out _ _ k12 ?_
     clear hK K
     try simp only [Act.put,ly1,ly2,ly3,ly4,ly5,ly6]
     replace n0:=Keep.new n0 k12
     replace y0:=fun W (hW:New w12 W)=>y0 W (Keep.new k12 hW)
     replace y1:=fun W (hW:New w12 W)=>y1 W (Keep.new k12 hW)
     replace y2:=fun W (hW:New w12 W)=>y2 W (Keep.new k12 hW)
     replace y3:=fun W (hW:New w12 W)=>y3 W (Keep.new k12 hW)
     replace y4:=fun W (hW:New w12 W)=>y4 W (Keep.new k12 hW)
     replace y5:=fun W (hW:New w12 W)=>y5 W (Keep.new k12 hW)
     refine take1 7 ?_
     refine take1 8 ?_
     refine take1 9 ?_
     refine take1 10 ?_
     refine take1 11 ?_
     refine wpAnyH_done (by kernel_rfl) ?_ _
     have HO:=Lib.hid (n0.blockAt HOb.out trivial)
     have hK:=hK11.new n0
     clear y0 y1 y2 y3 y4 y5
     have d0:w12.cell? ⟨w.heap.size,0,none⟩=some (.int .i64 0):=cellOf HO.out rfl
     have d1:w12.cell? ⟨w.heap.size,1,none⟩=some (.int .u64 0):=cellOf HO.out rfl
     have d2:w12.cell? ⟨w.heap.size,2,none⟩=some (.int .i64 0):=cellOf HO.out rfl
     have d3:w12.cell? ⟨w.heap.size,3,none⟩=some (.int .i64 0):=cellOf HO.out rfl
     have d4:w12.cell? ⟨w.heap.size,4,none⟩=some (.slice none 0 0):=cellOf HO.out rfl
     have d5:w12.cell? ⟨w.heap.size,5,none⟩=some (.slice none 0 0):=cellOf HO.out rfl
     obtain ⟨z0,z1,z2,z3,z4,z5⟩:=fz6 HO.out
     go_wp2_with fail
     clear d0 d1 d2 d3 d4 d5 z0 z1 z2 z3 z4 z5
     have hE:=set_six HO.out (.int .i64 0) (.int .u64 0) (.int .i64 0) (.int .i64 0) (.slice none 0 0) (.slice none 0 0)
     have hKE:=new_six hK (g:=w.heap.size) (Nat.le_refl _) (.int .i64 0) (.int .u64 0) (.int .i64 0) (.int .i64 0) (.slice none 0 0) (.slice none 0 0)
     generalize World.setCell _ _ _=wE at *
     have f0:wE.cell? ⟨w.heap.size,0,none⟩=some (.int .i64 0):=cellOf hE rfl
     have f1:wE.cell? ⟨w.heap.size,1,none⟩=some (.int .u64 0):=cellOf hE rfl
     have f2:wE.cell? ⟨w.heap.size,2,none⟩=some (.int .i64 0):=cellOf hE rfl
     have f3:wE.cell? ⟨w.heap.size,3,none⟩=some (.int .i64 0):=cellOf hE rfl
     have f4:wE.cell? ⟨w.heap.size,4,none⟩=some (.slice none 0 0):=cellOf hE rfl
     have f5:wE.cell? ⟨w.heap.size,5,none⟩=some (.slice none 0 0):=cellOf hE rfl
     refine bodyPost_ret (v:=.tuple #[.agg #[.int .i64 0,.int .u64 0,.int .i64 0,.int .i64 0,.slice none 0 0,.slice none 0 0],.slice none 0 0,.int .i64 12]) (by simp [results,Tryz.results194,go_sem,f0,f1,f2,f3,f4,f5]) rfl ?_
     rw [show segRead bs=(noHead,[],12) from by rw [hC.out]]
     exact ⟨⟨none,0,none,0,none,0,rfl,Nat.le_refl _,Nat.le_refl _,Row.nil _ _ _ _,Row.nil _ _ _ _,OwnRecs.nil _ _ _⟩,hKE⟩
    ·rw [hG] at HRC hC
     have HG:=Lib.hid (HGO.out rs rest hG)
     clear HGO hG
     by_cases hrest:rest.length=0
     ·have hrd:decide (rest.length=0)=true:=by simpa using hrest
      refine hold_begin (by kernel_rfl) ?_
      have n0:New w11 w11.drew:=(New.refl w11).drew
      replace y0:=fun W (hW:New w11.drew W)=>y0 W (Keep.new n0 hW)
      replace y1:=fun W (hW:New w11.drew W)=>y1 W (Keep.new n0 hW)
      replace y2:=fun W (hW:New w11.drew W)=>y2 W (Keep.new n0 hW)
      replace y3:=fun W (hW:New w11.drew W)=>y3 W (Keep.new n0 hW)
      replace y4:=fun W (hW:New w11.drew W)=>y4 W (Keep.new n0 hW)
      replace y5:=fun W (hW:New w11.drew W)=>y5 W (Keep.new n0 hW)
      refine take1 0 ?_
      refine take1 1 ?_
      refine take1 2 ?_
      refine take1 3 ?_
      refine take1 4 ?_
      refine take1 5 ?_
      refine hold_step (i:=6) (by kernel_rfl) rfl rfl (fun K hK=>?_)
      go_simp
      refine (HRC.out _ n0).mono ?_
      rintro e w12 ⟨hret,k12⟩;unfold RecsRet at hret;dsimp only at hret;rw [hrd] at hret;obtain ⟨A12,c12,rfl,o12⟩:=hret
      go_wp2_with fail
      refine hK.out _ _ k12 ?_
      clear hK K
      try simp only [Act.put,ly1,ly2,ly3,ly4,ly5,ly6]
      replace n0:=Keep.new n0 k12
      replace y0:=fun W (hW:New w12 W)=>y0 W (Keep.new k12 hW)
      replace y1:=fun W (hW:New w12 W)=>y1 W (Keep.new k12 hW)
      replace y2:=fun W (hW:New w12 W)=>y2 W (Keep.new k12 hW)
      replace y3:=fun W (hW:New w12 W)=>y3 W (Keep.new k12 hW)
      replace y4:=fun W (hW:New w12 W)=>y4 W (Keep.new k12 hW)
      replace y5:=fun W (hW:New w12 W)=>y5 W (Keep.new k12 hW)
      refine take1 7 ?_
      refine take1 8 ?_
      refine take1 9 ?_
      refine take1 10 ?_
      refine take1 11 ?_
      refine wpAnyH_done (by kernel_rfl) ?_ _
      have HO12:=Lib.hid (n0.blockAt HOb.out trivial)
      have HX12:=Lib.hid (n0.blockAt HXb.out trivial)
      have hK12:=hK11.new n0
      have s6:=Own.keepNew p6 n0
      have s7:=Own.keepNew p7 n0
      have x3:w12.cell? ⟨gx,3,none⟩=some (.int .i64 (by':Int)):=cellOf HX12.out rfl
      have hlt11:gx<w11.drew.heap.size:=hLT
      have o12':=OwnRecs.rebase (base:=w.heap.size+1) (OwnRecs.imp o12 (E:=fun b=>w.heap.size+1≤b) (fun b hb=>by omega)) (by omega)
      clear o12 hlt11 p6 p7 n0 y0 y1 y2 y3 y4 y5 k12
      have hB12:=HB0.out.new hK12
      have hl12:bs.length=1024:=Bs.len hB12
      have q7:(82:Int)+(by':Int)≤1024:=by omega
      have hHTR:(∃ X m cc,(if c=82+by' then A else Option.map (fun x=>x.add (82+by')) A)=X∧1024-(82+by')=m∧c-(82+by')=cc∧Hid (Calls Tryz.prog 168 #[.slice X m cc,.string { data:=#[0] }] w12 fun e w'=>TrimRet (bs.drop (82+by')) e∧New w12 w')):=by
       refine ⟨_,_,_,rfl,rfl,rfl,Lib.hid (trim_any D _ _ (c-(82+by')) _ w12 ?_ (by omega) (by omega))⟩
       by_cases e:c=82+by'
       ·have e1:1024-(82+by')=0:=by omega
        have e2:bs.drop (82+by')=[]:=List.drop_eq_nil_of_le (by omega)
        rw [e1,e2];exact Row.nil _ _ _ _
       ·rw [if_neg e];exact Bs.from_ hB12 (by omega)
      have hsum:=HG.out.1
      have hlrs:=HG.out.2.1
      have hfl:(leavesOf rs).flatten.length≤942:=by
       have h:=congrArg List.length hsum
       rw [List.length_append] at h
       omega
      have hbod:∀ r∈rs,r.body.length≤9223372036854770000:=fun r hr=>by
       have h:=(HG.out.2.2.1 r hr).1
       unfold recRight at h
       rw [decide_eq_true_eq] at h
       omega
      have HLV0:=Lib.hid (o12'.recs hbod)
      have hrl:rs.length≤1099511620000:=by omega
      have hfl2:(leavesOf rs).flatten.length≤1099511620000:=by omega
      have hll:(leavesOf rs).length=rs.length:=by unfold leavesOf;rw [List.length_map]
      have HRT:Hid (∀ W b (E:Nat→Prop) A14 c14,OwnBss W b E A14 rs.length c14 (leavesOf rs)→Calls Tryz.prog 259 #[.slice A14 rs.length c14] W fun e w'=>(∃ A' c',e=.returned (.slice A' 32 c')∧OwnB w' W.heap.size 5 A' 32 c' (rootOf (leavesOf rs)))∧New W w') :=
       Lib.hid fun W b E A14 c14 ho=>root_any rs.length _ A14 c14 (leavesOf rs) W ho.bss ho.cap hfl2 (by omega) ho.capMax
      have HE2:Hid (∀ W b A15 c15,New w12 W→OwnB W b 5 A15 32 c15 (rootOf (leavesOf rs))→Calls Tryz.prog 205 #[.slice A15 32 c15,.slice A7 ro.length c7] W fun e w'=>e=.returned (.bool (rootOf (leavesOf rs)==ro))∧New W w') :=
       Lib.hid fun W b A15 c15 hN ho=>(equal_any _ _ A15 A7 32 c15 ro.length c7 _ ro W (Row.of_own ho) (Row.of_own (Own.keepNew s7 hN))).mono fun e w' ⟨h1,h2⟩=>⟨h1,h2▸New.refl _⟩
      clear hsum hlrs hfl hbod hl12 hB12
      by_cases hcc:c=82+by'
      all_goals
       obtain ⟨X,m,cc,hX,hm,hcc2,HTR⟩:=hHTR
       first
        | (rw [if_pos hcc] at hX)
        | (rw [if_neg hcc] at hX)
       subst hX
       subst hm
       subst hcc2
       try subst hcc
       go_wp2_with fail
       try rw [Nat.sub_self,show 1024-(82+by')=0 from by omega] at HTR
       refine HTR.out.mono ?_
       rintro e w13 ⟨⟨A13,m13,c13,rfl,t1,t2⟩,k13⟩
       have HO13:=Lib.hid (k13.blockAt HO12.out trivial)
       have HX13:=Lib.hid (k13.blockAt HX12.out trivial)
       have hK13:=hK12.new k13
       by_cases hm13:m13=0
       ·have hz:=t1 hm13
        have hm13':¬ (0:Int)<m13:=by omega
        have HZ:Hid ((bs.drop (82+by')).all (· == 0)=true):=Lib.hid (by rw [List.all_eq_true];intro x hx;simpa using hz x hx)
        clear hz t1 t2 hm13
        go_wp2_with fail
        have y5:∀ W,New w13 W→W.cell? ⟨gx,5,none⟩=some (.slice A7 ro.length c7):=fun W h=>cellOf (h.blockAt HX13.out trivial) rfl
        have HLV:Hid (∀ W,New w13 W→Calls Tryz.prog 258 #[.slice A12 rs.length c12] W fun e w'=>(∃ A' c',e=.returned (.slice A' rs.length c')∧OwnBss w' W.heap.size (fun b=>W.heap.size≤b) A' rs.length c' (leavesOf rs))∧New W w') :=
         Lib.hid fun W h=>leaves_any _ A12 rs.length c12 rs W ((HLV0.out.new k13).new h) hrl
        by_cases hro:rootOf (leavesOf rs)=ro
        ·have hro':(rootOf (leavesOf rs)==ro)=true:=by simpa using hro
         have HRO:=Lib.hid hro
         clear hro
         refine hold_begin (by kernel_rfl) ?_
         have n0:New w13 w13.drew:=(New.refl w13).drew
         replace y5:=fun W (hW:New w13.drew W)=>y5 W (Keep.new n0 hW)
         refine take1 0 ?_
         refine take1 3 ?_
         refine take1 4 ?_
         refine hold_step (i:=1) (by kernel_rfl) rfl rfl (fun K hK=>?_)
         go_simp
         refine (HLV.out _ n0).mono ?_
         rintro e w14 ⟨⟨A14,c14,rfl,o14⟩,k14⟩
         go_wp2_with fail
         refine hK.out _ _ k14 ?_
         clear hK K
         try simp only [Act.put,ly1,ly2,ly3,ly4,ly5,ly6]
         replace n0:=Keep.new n0 k14
         replace y5:=fun W (hW:New w14 W)=>y5 W (Keep.new k14 hW)
         refine hold_step (i:=2) (by kernel_rfl) rfl rfl (fun K hK=>?_)
         go_simp
         refine (HRT.out _ _ _ _ _ o14).mono ?_
         rintro e w15 ⟨⟨A15,c15,rfl,o15⟩,k15⟩
         go_wp2_with fail
         refine hK.out _ _ k15 ?_
         clear hK K
         try simp only [Act.put,ly1,ly2,ly3,ly4,ly5,ly6]
         replace n0:=Keep.new n0 k15
         replace y5:=fun W (hW:New w15 W)=>y5 W (Keep.new k15 hW)
         refine hold_step (i:=5) (by kernel_rfl) rfl rfl (fun K hK=>?_)
         go_simp
         refine (HE2.out _ _ _ _ (k13.new n0) o15).mono ?_
         rintro e w16 ⟨rfl,k16⟩
         go_wp2_with fail
         refine hK.out _ _ k16 ?_
         clear hK K
         try simp only [Act.put,ly1,ly2,ly3,ly4,ly5,ly6]
         replace n0:=Keep.new n0 k16
         replace y5:=fun W (hW:New w16 W)=>y5 W (Keep.new k16 hW)
         refine take1 6 ?_
         refine wpAnyH_done (by kernel_rfl) ?_ _
         clear hro' y5
         have HO:=Lib.hid (n0.blockAt HO13.out trivial)
         have HX:=Lib.hid (n0.blockAt HX13.out trivial)
         have hK:=hK13.new n0
         have v6:=Own.keepNew (Own.keepNew s6 k13) n0
         have v7:=Own.keepNew (Own.keepNew s7 k13) n0
         have v12:=(o12'.new k13).new n0
         have c0:w16.cell? ⟨gx,0,none⟩=some (.int .i64 (ix:Int)):=cellOf HX.out rfl
         have c1:w16.cell? ⟨gx,1,none⟩=some (.int .u64 (fi:Int)):=cellOf HX.out rfl
         have c2:w16.cell? ⟨gx,2,none⟩=some (.int .i64 (co:Int)):=cellOf HX.out rfl
         have c3:w16.cell? ⟨gx,3,none⟩=some (.int .i64 (by':Int)):=cellOf HX.out rfl
         have c4:w16.cell? ⟨gx,4,none⟩=some (.slice A6 pr.length c6):=cellOf HX.out rfl
         have c5:w16.cell? ⟨gx,5,none⟩=some (.slice A7 ro.length c7):=cellOf HX.out rfl
         have d0:w16.cell? ⟨w.heap.size,0,none⟩=some (.int .i64 0):=cellOf HO.out rfl
         have d1:w16.cell? ⟨w.heap.size,1,none⟩=some (.int .u64 0):=cellOf HO.out rfl
         have d2:w16.cell? ⟨w.heap.size,2,none⟩=some (.int .i64 0):=cellOf HO.out rfl
         have d3:w16.cell? ⟨w.heap.size,3,none⟩=some (.int .i64 0):=cellOf HO.out rfl
         have d4:w16.cell? ⟨w.heap.size,4,none⟩=some (.slice none 0 0):=cellOf HO.out rfl
         have d5:w16.cell? ⟨w.heap.size,5,none⟩=some (.slice none 0 0):=cellOf HO.out rfl
         obtain ⟨z0,z1,z2,z3,z4,z5⟩:=fz6 HO.out
         go_wp2_with fail
         clear c0 c1 c2 c3 c4 c5 d0 d1 d2 d3 d4 d5 z0 z1 z2 z3 z4 z5
         have hE:=set_six HO.out (.int .i64 (ix:Int)) (.int .u64 (fi:Int)) (.int .i64 (co:Int)) (.int .i64 (by':Int)) (.slice A6 pr.length c6) (.slice A7 ro.length c7)
         have hKS:=keep_six w16 w.heap.size (.int .i64 (ix:Int)) (.int .u64 (fi:Int)) (.int .i64 (co:Int)) (.int .i64 (by':Int)) (.slice A6 pr.length c6) (.slice A7 ro.length c7)
         have hKE:=new_six hK (g:=w.heap.size) (Nat.le_refl _) (.int .i64 (ix:Int)) (.int .u64 (fi:Int)) (.int .i64 (co:Int)) (.int .i64 (by':Int)) (.slice A6 pr.length c6) (.slice A7 ro.length c7)
         generalize World.setCell _ _ _=wE at *
         have f0:wE.cell? ⟨w.heap.size,0,none⟩=some (.int .i64 (ix:Int)):=cellOf hE rfl
         have f1:wE.cell? ⟨w.heap.size,1,none⟩=some (.int .u64 (fi:Int)):=cellOf hE rfl
         have f2:wE.cell? ⟨w.heap.size,2,none⟩=some (.int .i64 (co:Int)):=cellOf hE rfl
         have f3:wE.cell? ⟨w.heap.size,3,none⟩=some (.int .i64 (by':Int)):=cellOf hE rfl
         have f4:wE.cell? ⟨w.heap.size,4,none⟩=some (.slice A6 pr.length c6):=cellOf hE rfl
         have f5:wE.cell? ⟨w.heap.size,5,none⟩=some (.slice A7 ro.length c7):=cellOf hE rfl
         refine bodyPost_ret (v:=.tuple #[.agg #[.int .i64 (ix:Int),.int .u64 (fi:Int),.int .i64 (co:Int),.int .i64 (by':Int),.slice A6 pr.length c6,.slice A7 ro.length c7],.slice A12 rs.length c12,.int .i64 0]) (by simp [results,Tryz.results194,go_sem,f0,f1,f2,f3,f4,f5]) rfl ?_
         rw [show segRead bs=(⟨ix,fi,co,by',pr,ro⟩,rs,0) from by rw [hC.out];exact (if_neg (by rintro (h|h);exact h hrest;rw [HZ.out] at h;cases h)).trans (if_neg (fun h=>h HRO.out))]
         have u6:=own_keep v6 hKS (fun k hk e=>by have:=(own_lt v6 k hk).1;omega)
         have u7:=own_keep v7 hKS (fun k hk e=>by have:=(own_lt v7 k hk).1;omega)
         exact ⟨⟨A6,c6,A7,c7,A12,c12,rfl,own_cap u6,own_cap u7,(Row.of_own u6).imp (fun b _ h=>by omega),(Row.of_own u7).imp (fun b _ h=>by omega),OwnRecs.rebase (OwnRecs.imp (OwnRecs.keep v12 hKS (fun k hk=>by omega) (fun b hb=>by omega)) (fun b hb=>by omega)) (Nat.le_succ _)⟩,hKE⟩
        ·have hro':(rootOf (leavesOf rs)==ro)=false:=by simpa using hro
         have HRO:=Lib.hid hro
         clear hro
         refine hold_begin (by kernel_rfl) ?_
         have n0:New w13 w13.drew:=(New.refl w13).drew
         replace y5:=fun W (hW:New w13.drew W)=>y5 W (Keep.new n0 hW)
         refine take1 0 ?_
         refine take1 3 ?_
         refine take1 4 ?_
         refine hold_step (i:=1) (by kernel_rfl) rfl rfl (fun K hK=>?_)
         go_simp
         refine (HLV.out _ n0).mono ?_
         rintro e w14 ⟨⟨A14,c14,rfl,o14⟩,k14⟩
         go_wp2_with fail
         refine hK.out _ _ k14 ?_
         clear hK K
         try simp only [Act.put,ly1,ly2,ly3,ly4,ly5,ly6]
         replace n0:=Keep.new n0 k14
         replace y5:=fun W (hW:New w14 W)=>y5 W (Keep.new k14 hW)
         refine hold_step (i:=2) (by kernel_rfl) rfl rfl (fun K hK=>?_)
         go_simp
         refine (HRT.out _ _ _ _ _ o14).mono ?_
         rintro e w15 ⟨⟨A15,c15,rfl,o15⟩,k15⟩
         go_wp2_with fail
         refine hK.out _ _ k15 ?_
         clear hK K
         try simp only [Act.put,ly1,ly2,ly3,ly4,ly5,ly6]
         replace n0:=Keep.new n0 k15
         replace y5:=fun W (hW:New w15 W)=>y5 W (Keep.new k15 hW)
         refine hold_step (i:=5) (by kernel_rfl) rfl rfl (fun K hK=>?_)
         go_simp
         refine (HE2.out _ _ _ _ (k13.new n0) o15).mono ?_
         rintro e w16 ⟨rfl,k16⟩
         go_wp2_with fail
         refine hK.out _ _ k16 ?_
         clear hK K
         try simp only [Act.put,ly1,ly2,ly3,ly4,ly5,ly6]
         replace n0:=Keep.new n0 k16
         replace y5:=fun W (hW:New w16 W)=>y5 W (Keep.new k16 hW)
         refine take1 6 ?_
         refine wpAnyH_done (by kernel_rfl) ?_ _
         clear hro' y5
         have HO:=Lib.hid (n0.blockAt HO13.out trivial)
         have hK:=hK13.new n0
         have d0:w16.cell? ⟨w.heap.size,0,none⟩=some (.int .i64 0):=cellOf HO.out rfl
         have d1:w16.cell? ⟨w.heap.size,1,none⟩=some (.int .u64 0):=cellOf HO.out rfl
         have d2:w16.cell? ⟨w.heap.size,2,none⟩=some (.int .i64 0):=cellOf HO.out rfl
         have d3:w16.cell? ⟨w.heap.size,3,none⟩=some (.int .i64 0):=cellOf HO.out rfl
         have d4:w16.cell? ⟨w.heap.size,4,none⟩=some (.slice none 0 0):=cellOf HO.out rfl
         have d5:w16.cell? ⟨w.heap.size,5,none⟩=some (.slice none 0 0):=cellOf HO.out rfl
         obtain ⟨z0,z1,z2,z3,z4,z5⟩:=fz6 HO.out
         go_wp2_with fail
         clear d0 d1 d2 d3 d4 d5 z0 z1 z2 z3 z4 z5
         have hE:=set_six HO.out (.int .i64 0) (.int .u64 0) (.int .i64 0) (.int .i64 0) (.slice none 0 0) (.slice none 0 0)
         have hKE:=new_six hK (g:=w.heap.size) (Nat.le_refl _) (.int .i64 0) (.int .u64 0) (.int .i64 0) (.int .i64 0) (.slice none 0 0) (.slice none 0 0)
         generalize World.setCell _ _ _=wE at *
         have f0:wE.cell? ⟨w.heap.size,0,none⟩=some (.int .i64 0):=cellOf hE rfl
         have f1:wE.cell? ⟨w.heap.size,1,none⟩=some (.int .u64 0):=cellOf hE rfl
         have f2:wE.cell? ⟨w.heap.size,2,none⟩=some (.int .i64 0):=cellOf hE rfl
         have f3:wE.cell? ⟨w.heap.size,3,none⟩=some (.int .i64 0):=cellOf hE rfl
         have f4:wE.cell? ⟨w.heap.size,4,none⟩=some (.slice none 0 0):=cellOf hE rfl
         have f5:wE.cell? ⟨w.heap.size,5,none⟩=some (.slice none 0 0):=cellOf hE rfl
         refine bodyPost_ret (v:=.tuple #[.agg #[.int .i64 0,.int .u64 0,.int .i64 0,.int .i64 0,.slice none 0 0,.slice none 0 0],.slice none 0 0,.int .i64 40]) (by simp [results,Tryz.results194,go_sem,f0,f1,f2,f3,f4,f5]) rfl ?_
         rw [show segRead bs=(noHead,[],40) from by rw [hC.out];exact (if_neg (by rintro (h|h);exact h hrest;rw [HZ.out] at h;cases h)).trans (if_pos HRO.out)]
         exact ⟨⟨none,0,none,0,none,0,rfl,Nat.le_refl _,Nat.le_refl _,Row.nil _ _ _ _,Row.nil _ _ _ _,OwnRecs.nil _ _ _⟩,hKE⟩
       ·have hm13':(0:Int)<m13:=by omega
        have HZ:Hid ((bs.drop (82+by')).all (· == 0)=false):=Lib.hid (by
         rw [List.all_eq_false]
         apply Decidable.byContradiction
         intro hh
         exact hm13 (t2 fun x hx=>Decidable.byContradiction fun hx0=>hh ⟨x,hx,by simpa using hx0⟩))
        clear t1 t2 hm13
        have d0:w13.cell? ⟨w.heap.size,0,none⟩=some (.int .i64 0):=cellOf HO13.out rfl
        have d1:w13.cell? ⟨w.heap.size,1,none⟩=some (.int .u64 0):=cellOf HO13.out rfl
        have d2:w13.cell? ⟨w.heap.size,2,none⟩=some (.int .i64 0):=cellOf HO13.out rfl
        have d3:w13.cell? ⟨w.heap.size,3,none⟩=some (.int .i64 0):=cellOf HO13.out rfl
        have d4:w13.cell? ⟨w.heap.size,4,none⟩=some (.slice none 0 0):=cellOf HO13.out rfl
        have d5:w13.cell? ⟨w.heap.size,5,none⟩=some (.slice none 0 0):=cellOf HO13.out rfl
        obtain ⟨z0,z1,z2,z3,z4,z5⟩:=fz6 HO13.out
        go_wp2_with fail
        clear d0 d1 d2 d3 d4 d5 z0 z1 z2 z3 z4 z5
        have hE:=set_six HO13.out (.int .i64 0) (.int .u64 0) (.int .i64 0) (.int .i64 0) (.slice none 0 0) (.slice none 0 0)
        have hKE:=new_six hK13 (g:=w.heap.size) (Nat.le_refl _) (.int .i64 0) (.int .u64 0) (.int .i64 0) (.int .i64 0) (.slice none 0 0) (.slice none 0 0)
        generalize World.setCell _ _ _=wE at *
        have f0:wE.cell? ⟨w.heap.size,0,none⟩=some (.int .i64 0):=cellOf hE rfl
        have f1:wE.cell? ⟨w.heap.size,1,none⟩=some (.int .u64 0):=cellOf hE rfl
        have f2:wE.cell? ⟨w.heap.size,2,none⟩=some (.int .i64 0):=cellOf hE rfl
        have f3:wE.cell? ⟨w.heap.size,3,none⟩=some (.int .i64 0):=cellOf hE rfl
        have f4:wE.cell? ⟨w.heap.size,4,none⟩=some (.slice none 0 0):=cellOf hE rfl
        have f5:wE.cell? ⟨w.heap.size,5,none⟩=some (.slice none 0 0):=cellOf hE rfl
        refine bodyPost_ret (v:=.tuple #[.agg #[.int .i64 0,.int .u64 0,.int .i64 0,.int .i64 0,.slice none 0 0,.slice none 0 0],.slice none 0 0,.int .i64 12]) (by simp [results,Tryz.results194,go_sem,f0,f1,f2,f3,f4,f5]) rfl ?_
        rw [show segRead bs=(noHead,[],12) from by rw [hC.out];exact if_pos (.inr HZ.out)]
        exact ⟨⟨none,0,none,0,none,0,rfl,Nat.le_refl _,Nat.le_refl _,Row.nil _ _ _ _,Row.nil _ _ _ _,OwnRecs.nil _ _ _⟩,hKE⟩
     ·have hrd:decide (rest.length=0)=false:=by simpa using hrest
      refine hold_begin (by kernel_rfl) ?_
      have n0:New w11 w11.drew:=(New.refl w11).drew
      replace y0:=fun W (hW:New w11.drew W)=>y0 W (Keep.new n0 hW)
      replace y1:=fun W (hW:New w11.drew W)=>y1 W (Keep.new n0 hW)
      replace y2:=fun W (hW:New w11.drew W)=>y2 W (Keep.new n0 hW)
      replace y3:=fun W (hW:New w11.drew W)=>y3 W (Keep.new n0 hW)
      replace y4:=fun W (hW:New w11.drew W)=>y4 W (Keep.new n0 hW)
      replace y5:=fun W (hW:New w11.drew W)=>y5 W (Keep.new n0 hW)
      refine take1 0 ?_
      refine take1 1 ?_
      refine take1 2 ?_
      refine take1 3 ?_
      refine take1 4 ?_
      refine take1 5 ?_
      refine hold_step (i:=6) (by kernel_rfl) rfl rfl (fun K hK=>?_)
      go_simp
      refine (HRC.out _ n0).mono ?_
      rintro e w12 ⟨hret,k12⟩;unfold RecsRet at hret;dsimp only at hret;rw [hrd] at hret;obtain ⟨A12,c12,rfl,o12⟩:=hret
      go_wp2_with fail
      refine hK.out _ _ k12 ?_
      clear hK K
      try simp only [Act.put,ly1,ly2,ly3,ly4,ly5,ly6]
      replace n0:=Keep.new n0 k12
      replace y0:=fun W (hW:New w12 W)=>y0 W (Keep.new k12 hW)
      replace y1:=fun W (hW:New w12 W)=>y1 W (Keep.new k12 hW)
      replace y2:=fun W (hW:New w12 W)=>y2 W (Keep.new k12 hW)
      replace y3:=fun W (hW:New w12 W)=>y3 W (Keep.new k12 hW)
      replace y4:=fun W (hW:New w12 W)=>y4 W (Keep.new k12 hW)
      replace y5:=fun W (hW:New w12 W)=>y5 W (Keep.new k12 hW)
      refine take1 7 ?_
      refine take1 8 ?_
      refine take1 9 ?_
      refine take1 10 ?_
      refine take1 11 ?_
      refine wpAnyH_done (by kernel_rfl) ?_ _
      have HO:=Lib.hid (n0.blockAt HOb.out trivial)
      have hK:=hK11.new n0
      clear y0 y1 y2 y3 y4 y5
      have d0:w12.cell? ⟨w.heap.size,0,none⟩=some (.int .i64 0):=cellOf HO.out rfl
      have d1:w12.cell? ⟨w.heap.size,1,none⟩=some (.int .u64 0):=cellOf HO.out rfl
      have d2:w12.cell? ⟨w.heap.size,2,none⟩=some (.int .i64 0):=cellOf HO.out rfl
      have d3:w12.cell? ⟨w.heap.size,3,none⟩=some (.int .i64 0):=cellOf HO.out rfl
      have d4:w12.cell? ⟨w.heap.size,4,none⟩=some (.slice none 0 0):=cellOf HO.out rfl
      have d5:w12.cell? ⟨w.heap.size,5,none⟩=some (.slice none 0 0):=cellOf HO.out rfl
      obtain ⟨z0,z1,z2,z3,z4,z5⟩:=fz6 HO.out
      go_wp2_with fail
      clear d0 d1 d2 d3 d4 d5 z0 z1 z2 z3 z4 z5
      have hE:=set_six HO.out (.int .i64 0) (.int .u64 0) (.int .i64 0) (.int .i64 0) (.slice none 0 0) (.slice none 0 0)
      have hKE:=new_six hK (g:=w.heap.size) (Nat.le_refl _) (.int .i64 0) (.int .u64 0) (.int .i64 0) (.int .i64 0) (.slice none 0 0) (.slice none 0 0)
      generalize World.setCell _ _ _=wE at *
      have f0:wE.cell? ⟨w.heap.size,0,none⟩=some (.int .i64 0):=cellOf hE rfl
      have f1:wE.cell? ⟨w.heap.size,1,none⟩=some (.int .u64 0):=cellOf hE rfl
      have f2:wE.cell? ⟨w.heap.size,2,none⟩=some (.int .i64 0):=cellOf hE rfl
      have f3:wE.cell? ⟨w.heap.size,3,none⟩=some (.int .i64 0):=cellOf hE rfl
      have f4:wE.cell? ⟨w.heap.size,4,none⟩=some (.slice none 0 0):=cellOf hE rfl
      have f5:wE.cell? ⟨w.heap.size,5,none⟩=some (.slice none 0 0):=cellOf hE rfl
      refine bodyPost_ret (v:=.tuple #[.agg #[.int .i64 0,.int .u64 0,.int .i64 0,.int .i64 0,.slice none 0 0,.slice none 0 0],.slice none 0 0,.int .i64 12]) (by simp [results,Tryz.results194,go_sem,f0,f1,f2,f3,f4,f5]) rfl ?_
      rw [show segRead bs=(noHead,[],12) from by rw [hC.out];exact if_pos (.inl hrest)]
      exact ⟨⟨none,0,none,0,none,0,rfl,Nat.le_refl _,Nat.le_refl _,Row.nil _ _ _ _,Row.nil _ _ _ _,OwnRecs.nil _ _ _⟩,hKE⟩
 ·have hs':(be4 cx==ck)=false:=by simpa using hs
  have HS:=Lib.hid hs
  clear hs
  refine hold_begin (by kernel_rfl) ?_
  have n0:New w8 w8.drew:=(New.refl w8).drew
  refine take1 0 ?_
  refine take1 1 ?_
  refine take1 4 ?_
  refine take1 5 ?_
  refine hold_step (i:=2) (by kernel_rfl) rfl rfl (fun K hK=>?_)
  go_simp
  refine (HCR.out _ (hK08.new n0)).mono ?_
  rintro e w9 ⟨rfl,k9⟩
  go_wp2_with fail
  refine hK.out _ _ k9 ?_
  clear hK K
  try simp only [Act.put,ly1,ly2,ly3,ly4,ly5,ly6]
  replace n0:=Keep.new n0 k9
  refine hold_step (i:=3) (by kernel_rfl) rfl rfl (fun K hK=>?_)
  go_simp
  refine (four_any _ _).mono ?_
  rintro e w10 ⟨⟨A10,c10,rfl,o10⟩,k10⟩
  go_wp2_with fail
  refine hK.out _ _ k10 ?_
  clear hK K
  try simp only [Act.put,ly1,ly2,ly3,ly4,ly5,ly6]
  replace n0:=Keep.new n0 k10
  refine hold_step (i:=6) (by kernel_rfl) rfl rfl (fun K hK=>?_)
  go_simp
  refine (HEQ.out _ _ A10 c10 _ (hK08.new n0) o10).mono ?_
  rintro e w11 ⟨rfl,k11⟩
  go_wp2_with fail
  refine hK.out _ _ k11 ?_
  clear hK K
  try simp only [Act.put,ly1,ly2,ly3,ly4,ly5,ly6]
  replace n0:=Keep.new n0 k11
  refine take1 7 ?_
  refine wpAnyH_done (by kernel_rfl) ?_ _
  clear hs'
  have HO:=Lib.hid (n0.blockAt HO8.out trivial)
  have hK:=hK08.new n0
  have d0:w11.cell? ⟨w.heap.size,0,none⟩=some (.int .i64 0):=cellOf HO.out rfl
  have d1:w11.cell? ⟨w.heap.size,1,none⟩=some (.int .u64 0):=cellOf HO.out rfl
  have d2:w11.cell? ⟨w.heap.size,2,none⟩=some (.int .i64 0):=cellOf HO.out rfl
  have d3:w11.cell? ⟨w.heap.size,3,none⟩=some (.int .i64 0):=cellOf HO.out rfl
  have d4:w11.cell? ⟨w.heap.size,4,none⟩=some (.slice none 0 0):=cellOf HO.out rfl
  have d5:w11.cell? ⟨w.heap.size,5,none⟩=some (.slice none 0 0):=cellOf HO.out rfl
  obtain ⟨z0,z1,z2,z3,z4,z5⟩:=fz6 HO.out
  go_wp2_with fail
  clear d0 d1 d2 d3 d4 d5 z0 z1 z2 z3 z4 z5
  have hE:=set_six HO.out (.int .i64 0) (.int .u64 0) (.int .i64 0) (.int .i64 0) (.slice none 0 0) (.slice none 0 0)
  have hKE:=new_six hK (g:=w.heap.size) (Nat.le_refl _) (.int .i64 0) (.int .u64 0) (.int .i64 0) (.int .i64 0) (.slice none 0 0) (.slice none 0 0)
  generalize World.setCell _ _ _=wE at *
  have f0:wE.cell? ⟨w.heap.size,0,none⟩=some (.int .i64 0):=cellOf hE rfl
  have f1:wE.cell? ⟨w.heap.size,1,none⟩=some (.int .u64 0):=cellOf hE rfl
  have f2:wE.cell? ⟨w.heap.size,2,none⟩=some (.int .i64 0):=cellOf hE rfl
  have f3:wE.cell? ⟨w.heap.size,3,none⟩=some (.int .i64 0):=cellOf hE rfl
  have f4:wE.cell? ⟨w.heap.size,4,none⟩=some (.slice none 0 0):=cellOf hE rfl
  have f5:wE.cell? ⟨w.heap.size,5,none⟩=some (.slice none 0 0):=cellOf hE rfl
  refine bodyPost_ret (v:=.tuple #[.agg #[.int .i64 0,.int .u64 0,.int .i64 0,.int .i64 0,.slice none 0 0,.slice none 0 0],.slice none 0 0,.int .i64 14]) (by simp [results,Tryz.results194,go_sem,f0,f1,f2,f3,f4,f5]) rfl ?_
  rw [show segRead bs=(noHead,[],14) from by rw [hC.out,if_pos HS.out]]
  exact ⟨⟨none,0,none,0,none,0,rfl,Nat.le_refl _,Nat.le_refl _,Row.nil _ _ _ _,Row.nil _ _ _ _,OwnRecs.nil _ _ _⟩,hKE⟩
theorem read_any (D:Nat→Prop) (A:Option Addr) (n c:Nat) (bs:List UInt8) (w:World) (hB:Bs w D A n bs) (hc:n≤c) (hc9:c≤9223372036854775807):
  Calls Tryz.prog 194 #[.slice A n c] w (ReadRet (segRead bs) w):=by
 by_cases h:n=1024
 ·subst h;exact read_go D A c bs w hB hc hc9
 ·exact read_short D A n c bs w hB h
end Go.Proofs.YtdodbdednpnddaaGreatDoor
