/-
  PROVED HERE: texts that belong together, one behind the other; what each proves, and under which conditions, its own opening remark says: Disk, Plan21, Disk2.
-/
import Derived.IntWalk
import Derived.Test.YtdodbdednpnddaaGreatDoorPkT08
import Derived.Test.YtdodbdednpnddaaGreatDoorPkT20
set_option maxRecDepth 100000
namespace Go.Proofs.YtdodbdednpnddaaGreatDoor
open Go.RowKit
open Go.Maps (Keyed)
section
variable {w:World}{D:Nat→Prop}{q:DiskB}{S:List UInt8}{M:Dirt}{n:Nat}{wr:Int}{k:Nat}
theorem sectors_any (h:DiskAt w D q S M n wr) (hk:S.length=k*128):
  Calls Tryz.prog 88 #[.pointer (some ⟨q.bd,0,none⟩)] w fun e w'=>e=.returned (.int .i64 k)∧w=w':=by
 have c0:w.cell? ⟨q.bd,0,none⟩=some (.slice (some ⟨q.bs,0,none⟩) S.length S.length):=by rw [cell_of_row _ _ _ _ _ (0,0) h.disk];rfl
 rw [hk] at c0
 obtain ⟨k',e,h1,h2⟩:=h.size
 have q1:((k:Int)*128).tdiv 128=k:=by rw [Int.tdiv_eq_ediv_of_nonneg (by omega)];omega
 have hk2:k≤4096:=by omega
 clear h hk
 go_enter Tryz.func88,Tryz.ntmps88
 go_wp2_with fail
 go_ret
 exact ⟨rfl,rfl⟩
theorem is_any (h:DiskAt w D q S M n wr) (hk:S.length=k*128) (i:Int):
  Calls Tryz.prog 146 #[.pointer (some ⟨q.bd,0,none⟩),.int .i64 i] w fun e w'=>e=.returned (.bool (decide (0≤i∧i<k)))∧w=w':=by
 have HS:=Lib.hid (sectors_any h hk)
 clear h hk
 by_cases h0:0≤i
 ·have e0:decide (0≤i∧i<(k:Int))=decide (i<(k:Int)):=by simp [h0]
  rw [e0]
  clear e0
  have d0:decide (0≤i)=true:=decide_eq_true h0
  go_enter Tryz.func146,Tryz.ntmps146
  go_wp2_with fail
  refine HS.out.mono ?_
  rintro e w' ⟨rfl,rfl⟩
  go_wp2_with fail
  go_ret
  exact ⟨rfl,rfl⟩
 ·have e0:decide (0≤i∧i<(k:Int))=false:=by simp [h0]
  rw [e0]
  clear e0
  have d0:decide (0≤i)=false:=decide_eq_false h0
  go_enter Tryz.func146,Tryz.ntmps146
  go_wp2_with fail
  go_ret
  exact ⟨rfl,rfl⟩
theorem at_raw {bd bs:Nat}(c0:w.cell? ⟨bd,0,none⟩=some (.slice (some ⟨bs,0,none⟩) (k*128) (k*128))) (hk2:k≤4096) (i:Nat) (hi:i<k):
  Calls Tryz.prog 123 #[.pointer (some ⟨bd,0,none⟩),.int .i64 i] w fun e w'=>e=.returned (.slice (some ⟨bs,i*128,none⟩) 128 (k*128-i*128))∧w=w':=by
 go_enter Tryz.func123,Tryz.ntmps123
 go_wp2_with fail
 go_ret
 refine ⟨?_,rfl⟩
 show Ending.returned (Value.slice (some ⟨bs,i*128,none⟩) ((i+1)*128-i*128) (k*128-i*128))=_
 rw [show (i+1)*128-i*128=128 from by omega]
theorem at_any (h:DiskAt w D q S M n wr) (hk:S.length=k*128) (i:Nat) (hi:i<k):
  Calls Tryz.prog 123 #[.pointer (some ⟨q.bd,0,none⟩),.int .i64 i] w fun e w'=>e=.returned (.slice (some ⟨q.bs,i*128,none⟩) 128 (k*128-i*128))∧w=w':=by
 have c0:w.cell? ⟨q.bd,0,none⟩=some (.slice (some ⟨q.bs,0,none⟩) S.length S.length):=by rw [cell_of_row _ _ _ _ _ (0,0) h.disk];rfl
 rw [hk] at c0
 obtain ⟨k',e,h1,h2⟩:=h.size
 exact at_raw c0 (by omega) i hi
def sectorOf (S:List UInt8) (M:Dirt) (i:Nat):List UInt8:=match M i with|some b=>b|none=>(S.drop (i*128)).take 128
theorem zero_bytes (w:World):(zeroValue 24).run Tryz.prog w=.ok (.slice none 0 0) w:=by kernel_rfl
theorem dread_any (h:DiskAt w D q S M n wr) (hk:S.length=k*128) (i:Nat) (hi:i<k):
  Calls Tryz.prog 220 #[.pointer (some ⟨q.bd,0,none⟩),.int .i64 i] w fun e w'=>(∃ A' c',e=.returned (.tuple #[.slice A' 128 c',.int .i64 0])∧OwnB w' w.heap.size 5 A' 128 c' (sectorOf S M i))∧New w w':=by
 have HI:=Lib.hid (is_any h hk i)
 rw [decide_eq_true (by omega)] at HI
 have HA:=Lib.hid (at_any h hk i hi)
 have HB:=Lib.hid (h.sector (i:=i) (by omega))
 have c1:w.cell? ⟨q.bd,1,none⟩=some (.map (some q.bm)):=by rw [cell_of_row _ _ _ _ _ (0,0) h.disk];rfl
 obtain ⟨k',e,h1,h2⟩:=h.size
 have hwf:(Lit.int .i64 (i:Int)).wf=true:=wfI (by omega) (by omega)
 obtain ⟨E,hown,hs⟩:=h.dirty
 have hD:=h.lt
 have HM:Hid (sectorOf S M i=match M i with|some b=>b|none=>(S.drop (i*128)).take 128):=Lib.hid rfl
 generalize sectorOf S M i=out at *
 have hs0:=(hs i).1
 have hs1:=(hs i).2
 clear h hs hk e h1 h2
 have HP:=fun (A:Option Addr) (c:Nat) (D:Nat→Prop) (bs:List UInt8) (hB:Bs w D A 128 bs)=>Lib.hid (clone_bytes D A 128 c bs w hB (by decide))
 rcases hm:M i with _|b
 ·have g0:=hs0 hm
  rw [hm] at HM
  obtain rfl:out=_:=HM.out
  clear hs0 hs1 hm
  go_enter Tryz.func220,Tryz.ntmps220
  go_wp2_with fail
  refine HI.out.mono ?_
  rintro e w' ⟨rfl,rfl⟩
  go_wp2_with (at_lookup;refine wpList_lookup_own_ok _ rfl _ _ 131 rfl 3 24 keyI Tryz.underlying131 heldR (zero_bytes _) (.held (.slice none 0 0)) [] rfl q.bm n E rfl hown _ _ rfl (keyOfI hwf) ?_;intro v ps hv)
  refine HA.out.mono ?_
  rintro e w' ⟨rfl,rfl⟩
  go_wp2_with fail
  refine (HP _ _ _ _ HB.out).out.mono ?_
  rintro e w' ⟨⟨A',c',rfl,ho⟩,hk2⟩
  go_wp2_with fail
  refine bodyPost_ret (v:=.tuple #[.slice A' 128 c',.int .i64 0]) (by simp [results,Tryz.results220,go_sem]) rfl ?_
  exact ⟨⟨A',c',rfl,ho⟩,hk2⟩
 ·obtain ⟨g0,g1,g2,g3,A,c,g4,g5,g6,g7⟩:=hs1 b hm
  rw [hm] at HM
  obtain rfl:out=_:=HM.out
  have g8:=g6 (.held (.slice none 0 0))
  clear hs0 hs1 hm g6
  go_enter Tryz.func220,Tryz.ntmps220
  go_wp2_with fail
  refine HI.out.mono ?_
  rintro e w' ⟨rfl,rfl⟩
  go_wp2_with (at_lookup;refine wpList_lookup_own_ok _ rfl _ _ 131 rfl 3 24 keyI Tryz.underlying131 heldR (zero_bytes _) (.held (.slice none 0 0)) [] rfl q.bm n E rfl hown _ _ rfl (keyOfI hwf) ?_;intro v ps hv;have hv2:v=.slice A 128 c:=(by rw [g8] at hv;injection hv with hv;injection hv with hv;injection hv);rw [hv2];clear hv hv2)
  refine (HP _ _ _ _ g7).out.mono ?_
  rintro e w' ⟨⟨A',c',rfl,ho⟩,hk2⟩
  go_wp2_with fail
  refine bodyPost_ret (v:=.tuple #[.slice A' 128 c',.int .i64 0]) (by simp [results,Tryz.results220,go_sem]) rfl ?_
  exact ⟨⟨A',c',rfl,ho⟩,hk2⟩
theorem wp_mapUpdate {H:Type}{P:Program}(w:World){o:Oper}{a:Act}{K:Act→World→Prop}{Q:Exit→Act→World→Prop}(m x v:Operand) (t:TypeId) (hop:o.op=Op.mapUpdate t m x v)
  (k e:TypeId) (Kd:Keyed P k) (ht:P.underlying t=some (.map k e)) (R:Value→Option (DataW H×List MemPlace)) (b n:Nat) (D:DataW H)
  (hm:a.eval m=.map (some b)) (hown:w.ownsMap P k R b n D) (hn:n<maxLen) (key val:Value) (kl:Lit) (hx:a.eval x=key) (hv:a.eval v=val) (hkey:keyOf P k key=some kl)
  (d:DataW H) (ps:List MemPlace) (hval:R val=some (d,ps))
  (hK:∀ w',w'.ownsMap P k R b (n+1) (D.put kl d)→w.grownBy w' (some b)→w'.heap.size=w.heap.size→K (a.put o.dst undef) w'):o.wp P a w K Q:=by
 obtain ⟨w',hrun,r1,r2⟩:=hown.store Kd ht hn hkey hval
 unfold Oper.wp
 simp [execOp,hop,hm,hx,hv,hrun,Result.andThen]
 refine hK w' r1 r2.grown ?_
 obtain ⟨es,clock,es',clock',_,rfl⟩:=r2
 simp [ChangeMaps.setBlock]
theorem dwrite_any (h:DiskAt w D q S M n wr) (hk:S.length=k*128) (hD:∀ b,w.heap.size≤b→D b) (hn:n<1000000) (i:Nat) (hi:i<k){D2:Nat→Prop}(A:Option Addr) (c:Nat) (b:List UInt8) (hB:Bs w D2 A 128 b):
  Calls Tryz.prog 113 #[.pointer (some ⟨q.bd,0,none⟩),.int .i64 i,.slice A 128 c] w fun e w'=>e=.returned (.int .i64 0)∧Keep (fun b=>b≠q.bd∧b≠q.bm) w w'∧∃ wr',DiskAt w' D q S (M.put i b) (n+1) wr':=by
 have HI:=Lib.hid (is_any h hk i)
 rw [decide_eq_true (by omega)] at HI
 have hne:=h.ne
 have hsz:=h.size
 have hlt:=h.lt
 have hout:=h.out
 have hdisk:=h.disk
 have hsafe:=h.safe
 obtain ⟨E,hown,hs⟩:=h.dirty
 have hE:=hown.isMap
 have hi4:i<4096:=by obtain ⟨k',e,h1,h2⟩:=hsz;omega
 have hwf:(Lit.int .i64 (i:Int)).wf=true:=wfI (by omega) (by omega)
 have y1:∀ W,Keep (fun b=>b≠q.bm) w.drew W→W.cell? ⟨q.bd,1,none⟩=some (.map (some q.bm)):=fun W hW=>by
  rw [cell_of_row _ _ _ _ _ (0,0) ((hW.block q.bd (hlt _ (.inl rfl)) hne.2.1).trans hdisk)];rfl
 have HW:=Lib.hid (clone_bytes D2 A 128 c b w.drew hB (by decide))
 have hz:Hid (w.drew.heap.size=w.heap.size):=Lib.hid rfl
 have HH:=Lib.hid (And.intro hdisk (And.intro hsafe (And.intro hsz (And.intro hlt (And.intro hout (And.intro hne hD))))))
 have HS:=Lib.hid hs
 have HE:=Lib.hid hE
 have hbl:=Lib.hid hB.len
 clear hdisk hsafe hsz hlt hout hne hD hs hE h hk
 go_enter Tryz.func113,Tryz.ntmps113
 go_wp2_with fail
 refine HI.out.mono ?_
 rintro e w' ⟨rfl,rfl⟩
 go_wp2_with fail
 refine hold_beginS (Keep (fun b=>b≠q.bm) w.drew) (by kernel_rfl) ?_
 have n0:Keep (fun b=>b≠q.bm) w.drew w.drew:=Keep.refl _ _
 refine take0 0 n0 ?_
 refine take0 1 n0 ?_
 refine take0 2 n0 ?_
 refine take0 3 n0 ?_
 refine take0 4 n0 ?_
 refine take0 5 n0 ?_
 refine hold_step0 (i:=6) (by kernel_rfl) rfl rfl (fun K hK=>?_)
 go_simp
 refine HW.out.mono ?_
 rintro e w1 ⟨⟨A1,c1,rfl,o1⟩,k1⟩
 go_wp2_with fail
 have n1:=Keep.new n0 k1
 refine hK.out _ _ n1 ?_
 clear hK K n0
 try simp only [Act.put,ly1,ly2,ly3,ly4,ly5,ly6]
 have own1:=ownsMap_keep (w:=w.drew) (F:=fun _=>True) hown k1 trivial
 have hn2:n<maxLen:=by unfold maxLen;omega
 refine hold_step0 (i:=7) (by kernel_rfl) rfl rfl (fun K hK=>?_)
 refine wp_mapUpdate w1 _ _ _ 131 rfl 3 24 keyI Tryz.underlying131 heldR q.bm n E rfl own1 hn2 _ _ _ rfl rfl (keyOfI hwf) _ _ rfl ?_
 intro w2 own2 hg2 hz2
 have n2:=n1.trans ((Keep.refl (fun b=>b≠q.bm) w1).grown hg2 (fun j hj hd=>absurd (by injection hj with hj;exact hj.symm) hd))
 refine hK.out _ _ n2 ?_
 clear hK K n1
 try simp only [Act.put,List.getElem_toArray,List.getElem_cons_succ,List.getElem_cons_zero]
 refine wpAnyH_done (by kernel_rfl) ?_ _
 obtain ⟨hdisk,hsafe,hsz,hlt,hout,hne,hD⟩:=HH.out
 have hd2:=(n2.block q.bd (hlt _ (.inl rfl)) hne.2.1).trans hdisk
 have hs2:=(n2.block q.bs (hlt _ (.inr (.inl rfl))) hne.2.2).trans hsafe
 have n2:Keep (fun j=>j≠q.bm) w w2:=((Keep.refl _ w).drew).trans n2
 have c2:w2.cell? ⟨q.bd,2,none⟩=some (.int .i64 wr):=by rw [cell_of_row _ _ _ _ _ (0,0) hd2];rfl
 have f2:=frozenOf hd2 2
 have hB1:Bs w2 D A1 128 b:=((Row.of_own o1).keep (E:=fun j=>j≠q.bm) ((Keep.refl (fun j=>j≠q.bm) w1).grown hg2 (fun j hj hd=>absurd (by injection hj with hj;exact hj.symm) hd)) (fun j _ hj e=>by subst e;have:=hlt _ (.inr (.inr rfl));have:=hz.out;omega)).imp fun j _ hj=>hD j (by have:=hz.out;omega)
 have hS2:=(HS.out.keep n2 (fun j _ hj e=>hout j (.inr (.inr e)) hj)).put HE.out (i:=i) (by omega) (by omega) hbl.out (by have:=own_cap o1;omega) (by have:=own_capMax o1;omega) hB1
 have hlt2:=Nat.lt_of_lt_of_le (hlt _ (.inl rfl)) n2.size
 have HF:=Lib.hid (And.intro hd2 (And.intro hs2 (And.intro own2 (And.intro hS2 n2))))
 clear hd2 hs2 own2 hS2 n2 hdisk hsafe hlt hD hB1 hg2 own1 o1 k1 y1 hown
 go_wp2_with fail
 go_ret
 obtain ⟨hd2,hs2,own2,hS2,n2⟩:=HF.out
 have hk3:Keep (fun j=>j≠q.bd) w2 (w2.setCell ⟨q.bd,2,none⟩ (.int .i64 (wrap64 (wr+1)))):=(Keep.refl _ w2).setCell (fun hd=>absurd rfl hd) _
 refine ⟨rfl,?_,wrap64 (wr+1),?_⟩
 ·exact (n2.imp (E:=fun j=>j≠q.bd∧j≠q.bm) fun j _ hj=>hj.2).trans2 hk3 fun j _ hj=>hj.1
 ·exact ⟨setCell_block hd2 2 _,(hk3.block q.bs (Array.getElem?_eq_some_iff.1 hs2).1 (Ne.symm hne.1)).trans hs2,⟨_,own2.setCell (Ne.symm hne.2.1) _,hS2.keep hk3 (fun j _ hj e=>hout j (.inl e) hj)⟩,hsz,hout⟩
end
end Go.Proofs.YtdodbdednpnddaaGreatDoor
namespace Go.Proofs.YtdodbdednpnddaaGreatDoor
open Go.RowKit
def planOf (n:Int):Int×Int×Int×Int:=if n<64∨4096<n then (0,0,0,1) else (n,n/4,(n-1-2*(n/4))/8,0)
theorem planOf_lo {n:Int}(h:n<64):planOf n=(0,0,0,1):=by unfold planOf;rw [if_pos (.inl h)]
theorem planOf_hi {n:Int}(h:4096<n):planOf n=(0,0,0,1):=by unfold planOf;rw [if_pos (.inr h)]
theorem planOf_mid {n:Int}(h:64≤n) (h2:n≤4096):planOf n=(n,n/4,(n-1-2*(n/4))/8,0):=by unfold planOf;rw [if_neg (by omega)]
def planRight (s p g:Int):Bool:=decide (64≤s∧s≤4096∧p=s/4∧g=(s-1-2*(s/4))/8)
theorem planRight_iff {s p g:Int}:planRight s p g=true↔(64≤s∧s≤4096∧p=s/4∧g=(s-1-2*(s/4))/8):=decide_eq_true_iff
theorem of21_any (n:Int) (hn : -9223372036854775808≤n∧n≤9223372036854775807) (w:World):
  Calls Tryz.prog 89 #[.int .i64 n] w fun e w'=>e=.returned (.tuple #[.agg #[.int .i64 (planOf n).1,.int .i64 (planOf n).2.1,.int .i64 (planOf n).2.2.1],.int .i64 (planOf n).2.2.2])∧New w w':=by
 have c0:=cellOf (heap_alloc_new w (.cells #[.int .i64 0,.int .i64 0,.int .i64 0] 33)) (k:=0) rfl
 by_cases h1:n<64
 ·rw [planOf_lo h1]
  go_enter Tryz.func89,Tryz.ntmps89
  go_wp2_with fail
  refine bodyPost_ret (v:=.tuple #[.agg #[.int .i64 0,.int .i64 0,.int .i64 0],.int .i64 1]) (by simp [results,Tryz.results89,go_sem]) rfl ?_
  exact ⟨rfl,(New.refl _).alloc _⟩
 ·by_cases h2:4096<n
  ·rw [planOf_hi h2]
   go_enter Tryz.func89,Tryz.ntmps89
   go_wp2_with fail
   refine bodyPost_ret (v:=.tuple #[.agg #[.int .i64 0,.int .i64 0,.int .i64 0],.int .i64 1]) (by simp [results,Tryz.results89,go_sem]) rfl ?_
   exact ⟨rfl,(New.refl _).alloc _⟩
  ·rw [planOf_mid (by omega) (by omega)]
   have q1:n.tdiv 4=n/4:=by rw [Int.tdiv_eq_ediv_of_nonneg (by omega)]
   have q2:(n-1-2*(n/4)).tdiv 8=(n-1-2*(n/4))/8:=by rw [Int.tdiv_eq_ediv_of_nonneg (by omega)]
   go_enter Tryz.func89,Tryz.ntmps89
   go_wp2_with fail
   refine bodyPost_ret (v:=.tuple #[.agg #[.int .i64 n,.int .i64 (n/4),.int .i64 ((n-1-2*(n/4))/8)],.int .i64 0]) (by simp [results,Tryz.results89,go_sem]) rfl ?_
   exact ⟨rfl,(New.refl _).alloc _⟩
theorem right21_any (s p g:Int) (hs : -9223372036854775808≤s∧s≤9223372036854775807) (w:World):
  Calls Tryz.prog 147 #[.agg #[.int .i64 s,.int .i64 p,.int .i64 g]] w fun e w'=>e=.returned (.bool (planRight s p g))∧New w w':=by
 have hb:=heap_alloc_new w (.cells #[.int .i64 s,.int .i64 p,.int .i64 g] 33)
 have kA:New w (w.alloc (.cells #[.int .i64 s,.int .i64 p,.int .i64 g] 33)):=(New.refl w).alloc _
 have HO:=fun W=>Lib.hid (of21_any s hs W)
 by_cases h:64≤s∧s≤4096
 ·have e:planOf s=(s,s/4,(s-1-2*(s/4))/8,0):=planOf_mid h.1 h.2
  have er:planRight s p g=decide (p=s/4∧g=(s-1-2*(s/4))/8):=by unfold planRight;simp [h.1,h.2]
  rw [er]
  rw [e] at HO
  dsimp only at HO
  generalize s/4=p' at *
  generalize (s-1-2*p')/8=g' at *
  clear e er h
  go_enter Tryz.func147,Tryz.ntmps147
  go_wp2_with fail
  refine (HO _).out.mono ?_
  rintro e w' ⟨rfl,k1⟩
  go_upto_region 2 with fail
  have k2:=k1.alloc (.cells #[.int .i64 s,.int .i64 p',.int .i64 g'] 33)
  have hb1:=k2.blockAt hb trivial
  have hb2:=heap_alloc_new w' (.cells #[.int .i64 s,.int .i64 p',.int .i64 g'] 33)
  generalize w'.alloc _=w2 at *
  generalize w'.heap.size=g2 at *
  obtain ⟨c0,c1,c2⟩:=cs3 hb1
  obtain ⟨d0,d1,d2⟩:=cs3 hb2
  have HK:=Lib.hid (kA.new k2)
  clear hb hb1 hb2 kA k1 k2 HO
  go_wp2_with fail
  all_goals go_ret
  all_goals refine ⟨?_,HK.out⟩
  all_goals simp_all
 ·have e:planOf s=(0,0,0,1):=by unfold planOf;rw [if_pos (by omega)]
  have er:planRight s p g=false:=by unfold planRight;rw [decide_eq_false];omega
  rw [er]
  rw [e] at HO
  dsimp only at HO
  clear e er h
  go_enter Tryz.func147,Tryz.ntmps147
  go_wp2_with fail
  refine (HO _).out.mono ?_
  rintro e w' ⟨rfl,k1⟩
  go_wp2_with fail
  go_ret
  exact ⟨rfl,(kA.new k1).alloc _⟩
def segAt (s p g i:Int):Int×Int:=if planRight s p g=true∧0≤i∧i<g then (1+2*p+i*8,0) else (0,1)
theorem segment21_any (s p g i:Int) (hs : -9223372036854775808≤s∧s≤9223372036854775807) (w:World):
  Calls Tryz.prog 224 #[.agg #[.int .i64 s,.int .i64 p,.int .i64 g],.int .i64 i] w fun e w'=>e=.returned (.tuple #[.int .i64 (segAt s p g i).1,.int .i64 (segAt s p g i).2])∧New w w':=by
 have hb:=heap_alloc_new w (.cells #[.int .i64 s,.int .i64 p,.int .i64 g] 33)
 have kA:New w (w.alloc (.cells #[.int .i64 s,.int .i64 p,.int .i64 g] 33)):=(New.refl w).alloc _
 have HR:=fun W=>Lib.hid (right21_any s p g hs W)
 by_cases h:planRight s p g=true
 ·rw [h] at HR
  by_cases h2:0≤i∧i<g
  ·have e:segAt s p g i=(1+2*p+i*8,0):=by unfold segAt;rw [if_pos ⟨h,h2.1,h2.2⟩]
   have hb3:=planRight_iff.1 h
   have hp:0≤p∧p≤1024∧g≤512:=by omega
   have d0:decide (i<0)=false:=decide_eq_false (by omega)
   have d1:decide (g≤i)=false:=decide_eq_false (by omega)
   rw [e]
   clear e h hb3
   go_enter Tryz.func224,Tryz.ntmps224
   go_wp2_with fail
   refine (HR _).out.mono ?_
   rintro e w' ⟨rfl,k1⟩
   have hb1:=k1.blockAt hb trivial
   obtain ⟨c0,c1,c2⟩:=cs3 hb1
   have HK:=Lib.hid (kA.new k1)
   clear hb1 hb k1 kA HR
   go_wp2_with fail
   refine bodyPost_ret (v:=.tuple #[.int .i64 (1+2*p+i*8),.int .i64 0]) (by simp [results,Tryz.results224,go_sem]) rfl ?_
   exact ⟨rfl,HK.out⟩
  ·have e:segAt s p g i=(0,1):=by unfold segAt;rw [if_neg (fun q=>h2 ⟨q.2.1,q.2.2⟩)]
   rw [e]
   by_cases h3:i<0
   ·have d0:decide (i<0)=true:=decide_eq_true h3
    clear e h h2 h3
    go_enter Tryz.func224,Tryz.ntmps224
    go_wp2_with fail
    refine (HR _).out.mono ?_
    rintro e w' ⟨rfl,k1⟩
    go_wp2_with fail
    refine bodyPost_ret (v:=.tuple #[.int .i64 0,.int .i64 1]) (by simp [results,Tryz.results224,go_sem]) rfl ?_
    exact ⟨rfl,kA.new k1⟩
   ·have d0:decide (i<0)=false:=decide_eq_false h3
    have d1:decide (g≤i)=true:=decide_eq_true (by omega)
    clear e h h2 h3
    go_enter Tryz.func224,Tryz.ntmps224
    go_wp2_with fail
    refine (HR _).out.mono ?_
    rintro e w' ⟨rfl,k1⟩
    have hb1:=k1.blockAt hb trivial
    obtain ⟨c0,c1,c2⟩:=cs3 hb1
    have HK:=Lib.hid (kA.new k1)
    clear hb1 hb k1 kA HR
    go_wp2_with fail
    refine bodyPost_ret (v:=.tuple #[.int .i64 0,.int .i64 1]) (by simp [results,Tryz.results224,go_sem]) rfl ?_
    exact ⟨rfl,HK.out⟩
 ·have e:segAt s p g i=(0,1):=by unfold segAt;rw [if_neg (fun q=>h q.1)]
  have h':planRight s p g=false:=by simpa using h
  rw [h'] at HR
  rw [e]
  clear e h h'
  go_enter Tryz.func224,Tryz.ntmps224
  go_wp2_with fail
  refine (HR _).out.mono ?_
  rintro e w' ⟨rfl,k1⟩
  go_wp2_with fail
  refine bodyPost_ret (v:=.tuple #[.int .i64 0,.int .i64 1]) (by simp [results,Tryz.results224,go_sem]) rfl ?_
  exact ⟨rfl,kA.new k1⟩
end Go.Proofs.YtdodbdednpnddaaGreatDoor
namespace Go.Proofs.YtdodbdednpnddaaGreatDoor
open Go.RowKit
open Go.Maps (Keyed)
def laidOver (S:List UInt8) (M:Dirt) (done:Int→Bool):List UInt8:=S.mapIdx fun j x=>match M ((j/128:Nat):Int) with|some b=>if done ((j/128:Nat):Int) then b.getD (j%128) 0 else x|none=>x
theorem laidOver_length (S:List UInt8) (M:Dirt) (done:Int→Bool):(laidOver S M done).length=S.length:=by simp [laidOver]
theorem laidOver_none (S:List UInt8) (M:Dirt){done:Int→Bool}(h:∀ k,(M k).isSome=true→done k=false):laidOver S M done=S:=by
 unfold laidOver
 apply List.ext_getElem?
 intro j
 rw [List.getElem?_mapIdx]
 cases hj:S[j]? with
 | none=>rfl
 | some x =>
  simp only [Option.map_some]
  have hk:=h ((j/128:Nat):Int)
  generalize ((j/128:Nat):Int)=z at *
  cases hm:M z with
  | none=>rfl
  | some b=>dsimp only;rw [hk (by rw [hm];rfl),if_neg (by simp)]
theorem laidOver_step (S:List UInt8) (M:Dirt) (done done':Int→Bool){i:Nat}{b:List UInt8}(hb:M i=some b) (hl:b.length=128) (hi:(i+1)*128≤S.length) (hd:∀ k:Int,done' k=(done k||decide (k=i))):
  splice (laidOver S M done) (i*128) b=laidOver S M done':=by
 have hL:=laidOver_length S M done
 apply List.ext_getElem?
 intro j
 unfold splice
 by_cases h1:j<i*128
 ·rw [List.getElem?_append_left (by rw [List.length_take];omega),List.getElem?_take,if_pos h1]
  unfold laidOver
  rw [List.getElem?_mapIdx,List.getElem?_mapIdx]
  have hne:¬ ((j/128:Nat):Int)=i:=by omega
  rw [hd,decide_eq_false hne,Bool.or_false]
 ·rw [List.getElem?_append_right (by rw [List.length_take];omega),List.length_take,Nat.min_eq_left (by omega)]
  by_cases h2:j<i*128+128
  ·rw [List.getElem?_append_left (by omega)]
   unfold laidOver
   rw [List.getElem?_mapIdx,List.getElem?_eq_getElem (show j<S.length by omega)]
   have e1:((j/128:Nat):Int)=i:=by omega
   simp only [Option.map_some,e1,hb,hd]
   have e2:j%128=j-i*128:=by omega
   simp [e2]
   rw [List.getElem?_eq_getElem (by omega)]
   simp
  ·rw [List.getElem?_append_right (by omega),List.getElem?_drop,hl,show i*128+128+(j-i*128-128)=j from by omega]
   unfold laidOver
   rw [List.getElem?_mapIdx,List.getElem?_mapIdx]
   have hne:¬ ((j/128:Nat):Int)=i:=by omega
   rw [hd,decide_eq_false hne,Bool.or_false]
def flushed (S:List UInt8) (M:Dirt):List UInt8:=laidOver S M fun _=>true
theorem flushed_length (S:List UInt8) (M:Dirt):(flushed S M).length=S.length:=laidOver_length _ _ _
theorem make_noughts (n:Nat) (hn:n≤1000000) (w:World):(Instr.makeSlice 24 (.int .i64 (n:Int)) (.int .i64 (n:Int))).run Tryz.prog w=.ok (.slice (some ⟨w.heap.size,0,none⟩) n n) (w.alloc (.cells ((List.replicate n (0:UInt8)).map byteVal).toArray 5)):=by
 obtain ⟨i,hi,hz0,hz1,hz2⟩:=info_parts info_u8
 have h:=run_makeSlice (P:=Tryz.prog) w 24 5 i (.int .u8 0) Tryz.underlying24 hi hz0 .i64 .i64 (n:Int) (n:Int) (by omega) (by omega) (by rw [hz1];omega) (by rw [hz2];omega) (by omega)
 have e:madeCells #[Value.int .u8 0] (n*1)=((List.replicate n (0:UInt8)).map byteVal).toArray:=by
  apply Array.toList_inj.1
  rw [toList_madeCells_one,List.map_replicate,Nat.mul_one]
  show _=List.replicate n (byteVal 0)
  rfl
 rw [hz1,Int.toNat_natCast] at h
 have h2:madeCells (Value.int .u8 0).cells (n*1)=madeCells #[Value.int .u8 0] (n*1):=rfl
 rw [h2,e] at h
 exact h
theorem dnew_any (n:Nat) (h0:64≤n) (h1:n≤4096) (w:World):
  Calls Tryz.prog 56 #[.int .i64 n] w fun e w'=>(∃ q,e=.returned (.tuple #[.pointer (some ⟨q.bd,0,none⟩),.int .i64 0])∧(∀ b,b=q.bd∨b=q.bs∨b=q.bm→w.heap.size≤b)∧DiskAt w' (fun b=>b<w.heap.size∨w'.heap.size≤b) q (List.replicate (n*128) 0) Dirt.no 0 0)∧New w w':=by
 have hmk:∀ w,(Instr.makeSlice 24 (.int .i64 ((n:Int)*128)) (.int .i64 ((n:Int)*128))).run Tryz.prog w=.ok (.slice (some ⟨w.heap.size,0,none⟩) (n*128) (n*128)) (w.alloc (.cells ((List.replicate (n*128) (0:UInt8)).map byteVal).toArray 5)):=fun w=>by
  have:=make_noughts (n*128) (by omega) w
  rwa [Int.natCast_mul] at this
 have hE:Hid ((List.replicate (n*128) (0:UInt8)).length=n*128):=Lib.hid (by simp)
 generalize List.replicate (n*128) (0:UInt8)=S at *
 have hmm:=@run_makeMap Tryz.prog
 have d0:decide ((n:Int)<64)=false:=decide_eq_false (by omega)
 have d1:decide ((4096:Int)<n)=false:=decide_eq_false (by omega)
 go_enter Tryz.func56,Tryz.ntmps56
 go_wp2_with fail
 refine bodyPost_ret (v:=.tuple #[.pointer (some ⟨w.heap.size+1+1,0,none⟩),.int .i64 0]) (by simp [results,Tryz.results56,go_sem]) rfl ?_
 have b1:=heap_alloc_new w (.cells (S.map byteVal).toArray 5)
 have k1:New w (w.alloc (.cells (S.map byteVal).toArray 5)):=(New.refl w).alloc _
 have z1:(w.alloc (.cells (S.map byteVal).toArray 5)).heap.size=w.heap.size+1:=by simp
 generalize w.alloc (.cells (S.map byteVal).toArray 5)=w1 at *
 have b2:=dirty_made w1 (fun b=>b<w.heap.size∨w.heap.size+1+1+1≤b)
 have k2:New w1 (w1.alloc (.map #[] 0)):=(New.refl w1).alloc _
 have z2:(w1.alloc (.map #[] 0)).heap.size=w.heap.size+1+1:=by simp [z1]
 rw [z1] at b2
 generalize w1.alloc (.map #[] 0)=w2 at *
 have b3:=heap_alloc_new w2 (.cells #[.slice (some ⟨w.heap.size,0,none⟩) (n*128) (n*128),.map (some (w.heap.size+1)),.int .i64 0] 133)
 have k3:New w2 (w2.alloc (.cells #[.slice (some ⟨w.heap.size,0,none⟩) (n*128) (n*128),.map (some (w.heap.size+1)),.int .i64 0] 133)):=(New.refl w2).alloc _
 have z3:(w2.alloc (.cells #[.slice (some ⟨w.heap.size,0,none⟩) (n*128) (n*128),.map (some (w.heap.size+1)),.int .i64 0] 133)).heap.size=w.heap.size+1+1+1:=by simp [z2]
 rw [z2] at b3
 generalize w2.alloc (.cells #[.slice (some ⟨w.heap.size,0,none⟩) (n*128) (n*128),.map (some (w.heap.size+1)),.int .i64 0] 133)=w3 at *
 refine ⟨⟨⟨w.heap.size+1+1,w.heap.size,w.heap.size+1⟩,rfl,?_,?_⟩,(k1.new k2).new k3⟩
 ·rintro b (rfl|rfl|rfl)
  ·show w.heap.size≤w.heap.size+1+1;omega
  ·exact Nat.le_refl _
  ·show w.heap.size≤w.heap.size+1;omega
 ·rw [← hE.out] at b3
  exact ⟨b3,(k2.new k3).blockAt b1 trivial,(b2.new k3).imp (fun b _ hb=>by rw [z3];exact hb),⟨n,hE.out,h0,h1⟩,by
   rintro b (rfl|rfl|rfl) <;> dsimp only <;> omega⟩
theorem flush_key {w:World}{D:Nat→Prop}{E:DataW Value}{M:Dirt}(hs:Shows w D E M){x:Int}{c:Value}(hx:Maps.has E (.int .i64 x)=true) (hat:∀ zd,E.atKey (.int .i64 x) zd=.held c):
  ∃ (i:Nat) (b:List UInt8) (A:Option Addr) (cap:Nat),x=i∧M i=some b∧b.length=128∧c=.slice A 128 cap∧128≤cap∧Bs w D A 128 b:=by
 rcases hm:M x with _|b
 ·rw [(hs x).1 hm] at hx;cases hx
 ·obtain ⟨_,h1,h2,h3,A,cap,h4,_,h5,h6⟩:=(hs x).2 b hm
  have e:=(hat .nil).symm.trans (h5 .nil)
  injection e with e
  obtain ⟨i,rfl⟩:=Int.eq_ofNat_of_zero_le h1
  exact ⟨i,b,A,cap,rfl,hm,h3,e,h4,h6⟩
theorem flush_any {w:World}{D:Nat→Prop}{q:DiskB}{S:List UInt8}{M:Dirt}{n:Nat}{wr:Int}(h:DiskAt w D q S M n wr) (hM:∀ (i:Nat) b,M i=some b→i*128+128≤S.length):
  Calls Tryz.prog 95 #[.pointer (some ⟨q.bd,0,none⟩)] w fun e w'=>e=.returned (.tuple #[])∧Keep (fun b=>b≠q.bs∧b≠q.bm) w w'∧DiskAt w' D q (flushed S M) Dirt.no 0 wr:=by
 have hne:=h.ne
 have hout:=h.out
 have hdisk:=h.disk
 have hlt:=h.lt
 obtain ⟨k,hk,hk0,hk1⟩:=h.size
 have hsafe:Hid (w.heap[q.bs]?=some (.cells ((laidOver S M fun _=>false).map byteVal).toArray 5 (0,0))):=Lib.hid (by rw [laidOver_none S M (fun _ _=>rfl)];exact h.safe)
 have c1:w.cell? ⟨q.bd,1,none⟩=some (.map (some q.bm)):=by rw [cell_of_row _ _ _ _ _ (0,0) hdisk];rfl
 obtain ⟨E,hown,hs⟩:=h.dirty
 have HS:=Lib.hid hs
 have HM:=Lib.hid hM
 have HL:=Lib.hid hk
 have HO:=Lib.hid hout
 have hz:Hid (∀ b,b=q.bd∨b=q.bs∨b=q.bm→b<w.heap.size):=Lib.hid hlt
 rw [hk] at hdisk
 clear h hs hM hk hout hlt
 go_enter Tryz.func95,Tryz.ntmps95
 go_wp2_with (first
  | (at_range;refine wpList_range_own _ rfl _ 131 rfl 3 24 keyI Tryz.underlying131 _ q.bm n _ rfl hown ?_;intro w0 hrg0 hg0 hs0)
  | fail)
 go_frame
 clear c1
 go_loopw [2] (fun _ wr=>∃ (left:Lit→Bool) (cnt:Nat),wr.ranges Tryz.prog 3 heldR q.bm w.heap.size n E left cnt∧(∀ kl,left kl=true→Maps.has E kl=true)∧Keep (fun b=>b≠q.bs) w wr ∧
   wr.heap[q.bs]?=some (.cells ((laidOver S M fun k => !left (.int .i64 k)).map byteVal).toArray 5 (0,0)))
  (fun _ wr=>wr.rangeLeft q.bm w.heap.size)
 case atStart =>
  refine ⟨_,_,hrg0,fun _ h=>h,⟨hg0.os,hg0.tape,hg0.output,hg0.size,fun j hj _=>hg0.block j hj (by simp)⟩,?_⟩
  rw [hg0.block q.bs (hz.out _ (.inr (.inl rfl))) (by simp),hsafe.out]
  rw [laidOver_none S M (fun _ _=>rfl),laidOver_none S M (done:=fun k => !Maps.has E (.int .i64 k)) (fun k hk=>by
   obtain ⟨b,hb⟩:=Option.isSome_iff_exists.1 hk
   rw [((HS.out k).2 b hb).1];rfl)]
 case round =>
  obtain ⟨left,cnt,hrg,hle,hK,hS⟩:=hrel
  have hdr:=(hK.block q.bd (hz.out _ (.inl rfl)) hne.1).trans hdisk
  have c0:wr.cell? ⟨q.bd,0,none⟩=some (.slice (some ⟨q.bs,0,none⟩) (k*128) (k*128)):=by rw [cell_of_row _ _ _ _ _ (0,0) hdr];rfl
  have c1:wr.cell? ⟨q.bd,1,none⟩=some (.map (some q.bm)):=by rw [cell_of_row _ _ _ _ _ (0,0) hdr];rfl
  obtain ⟨w9,hrun9,hown9,hk9,hz9⟩:=run_clear Tryz.underlying131 hrg.owns
  go_wp2_with (first
   | (at_next;refine wpList_next_ranges _ rfl _ rfl 3 keyI heldR (Value.int .i64) (fun c:Value=>c) (fun key kl hkey=>by obtain ⟨x,rfl,_⟩:=Maps.keyOf_int_inv Tryz.underlying3 hkey;exact ⟨x,rfl⟩) (fun v y hv=>⟨v,rfl⟩) q.bm w.heap.size n _ _ _ rfl hrg ?_ ?_)
   | fail)
  ·intro _ hl0
   go_wp2_with fail
   go_end0
   have hks:Keep (fun b=>b≠q.bs∧b≠q.bm) w w9:=(hK.imp (E:=fun b=>b≠q.bs∧b≠q.bm) fun _ _ hd=>hd.1).trans2 hk9 fun _ _ hd=>hd.2
   have hfl:(laidOver S M fun k => !left (.int .i64 k))=flushed S M:=by
    unfold flushed
    congr 1
    funext k
    rw [hl0];rfl
   rw [hfl] at hS
   refine ⟨rfl,hks,(hk9.block q.bd (Array.getElem?_eq_some_iff.1 hdr).1 hne.2.1).trans ?_,(hk9.block q.bs (Array.getElem?_eq_some_iff.1 hS).1 hne.2.2).trans hS,⟨_,hown9,shows_no _ _⟩,⟨k,by rw [flushed_length];exact HL.out,hk0,hk1⟩,HO.out⟩
   rw [flushed_length,HL.out];exact hdr
  ·intro x c kl y ps w1 cnt1 hkey hlk hR hat hrg1 hlt1 hg1 hs1 hen
   obtain ⟨x',ex,rfl,hwx⟩:=Maps.keyOf_int_inv Tryz.underlying3 hkey
   obtain rfl:x'=x:=by injection ex with _ e;exact e.symm
   have hy:y=.held c:=by injection hR with hR;injection hR with hR;exact hR.symm
   subst hy
   obtain ⟨i,b,A,cap,rfl,hMi,hbl,rfl,hcap,hB⟩:=flush_key HS.out (hle _ hlk) hat
   have hfit:=HM.out i b hMi
   rw [HL.out] at hfit
   have hk1':Keep (fun b=>b<w.heap.size) wr w1:=⟨hg1.os,hg1.tape,hg1.output,hg1.size,fun j hj hd=>hg1.block j hj (fun e=>by injection e with e;omega)⟩
   have hKw:Keep (fun b=>b≠q.bs) w w1:=hK.trans2 hk1' fun j hj _=>hj
   have hd1:=(hKw.block q.bd (hz.out _ (.inl rfl)) hne.1).trans hdisk
   have c0':w1.cell? ⟨q.bd,0,none⟩=some (.slice (some ⟨q.bs,0,none⟩) (k*128) (k*128)):=by rw [cell_of_row _ _ _ _ _ (0,0) hd1];rfl
   have hS1:=(hk1'.block q.bs (Array.getElem?_eq_some_iff.1 hS).1 (hz.out _ (.inr (.inl rfl)))).trans hS
   have hB1:=hB.keep hKw (fun j _ hj e=>HO.out j (.inr (.inl e)) hj)
   have HA:=Lib.hid (at_raw c0' hk1 i (by omega))
   have hcp:=run_copy_bytes (off:=i*128) hS1 hB1 (by decide) 128 (k*128-i*128) cap (Nat.le_refl _) (by rw [laidOver_length,HL.out];omega)
   have hst:=laidOver_step S M (fun k => !left (.int .i64 k)) (fun k => !(left (.int .i64 k) && !(Lit.int .i64 k).sameKey (.int .i64 i))) hMi hbl (by rw [HL.out];omega) (fun k=>by
    simp only [Lit.sameKey]
    cases left (.int .i64 k) <;> simp)
   rw [hst] at hcp
   generalize hSL:(laidOver S M fun k => !(left (.int .i64 k) && !(Lit.int .i64 k).sameKey (.int .i64 i)))=SL at hcp
   replace hSL:=Lib.hid hSL
   have HH:=Lib.hid (And.intro hrg1 (And.intro hle (And.intro hKw hS1)))
   clear hrg1 hle hKw hS1 hB1 hst hd1 hdr hrun9 hown9 hk9 hz9 hS hK hk1' hg1 hlk hat hB c1 hMi hkey hR ex
   go_wp2_with fail
   refine HA.out.mono ?_
   rintro e w' ⟨rfl,rfl⟩
   go_wp2_with fail
   go_roundw
   case rel =>
    obtain ⟨hrg1,hle,hKw,hS1⟩:=HH.out
    have hg2:w1.grownBy (w1.setRow q.bs (SL.map byteVal).toArray) (some q.bs):=⟨rfl,rfl,rfl,by simp [World.setRow],fun j _ hj=>setRow_other w1 q.bs j _ (fun e=>hj (by rw [e]))⟩
    refine ⟨_,_,hrg1.kept hg2 (fun e=>hne.2.2 (by injection e with e;exact e.symm)) (fun e=>by injection e with e;have:=hz.out q.bs (.inr (.inl rfl));omega),fun kl hkl=>hle kl (by simp at hkl;exact hkl.1),hKw.trans (keep_setRow w1 q.bs _),?_⟩
    rw [hSL.out]
    exact setRow_block hS1 _
   case measure =>
    obtain ⟨hrg1,_⟩:=HH.out
    have hg2:w1.grownBy (w1.setRow q.bs (SL.map byteVal).toArray) (some q.bs):=⟨rfl,rfl,rfl,by simp [World.setRow],fun j _ hj=>setRow_other w1 q.bs j _ (fun e=>hj (by rw [e]))⟩
    rw [(hrg1.kept hg2 (fun e=>hne.2.2 (by injection e with e;exact e.symm)) (fun e=>by injection e with e;have:=hz.out q.bs (.inr (.inl rfl));omega)).left_eq,hrg.left_eq]
    exact hlt1
end Go.Proofs.YtdodbdednpnddaaGreatDoor
