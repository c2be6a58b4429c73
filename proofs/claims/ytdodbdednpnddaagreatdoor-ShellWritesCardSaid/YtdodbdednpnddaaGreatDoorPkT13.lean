/-
  PROVED HERE: texts that belong together, one behind the other; what each proves, and under which conditions, its own opening remark says: SegRecs, Law16.
-/
import Derived.Test.YtdodbdednpnddaaGreatDoorPkT11
set_option maxRecDepth 100000
set_option maxHeartbeats 2000000
namespace Go.Proofs.YtdodbdednpnddaaGreatDoor
open Go.RowKit
def recsGo (first:Int):Nat→Nat→List UInt8→Option (List RecP×List UInt8)
 | 0,_,bs=>some ([],bs)
 | m+1,i,bs=>if (recDec bs).2.2≠0 then none else if (recDec bs).1.seq≠IntKind.u64.wrap (first+i) then none else (recsGo first m (i+1) (bs.drop (recDec bs).2.1)).map fun p=>((recDec bs).1::p.1,p.2)
theorem recDec_le (bs:List UInt8):0≤(recDec bs).1.seq∧(recDec bs).1.seq≤18446744073709551615∧(recDec bs).2.1≤bs.length:=by
 unfold recDec
 split
 ·simp [noRec]
 split
 ·simp [noRec]
 split
 ·simp [noRec]
 split
 ·simp [noRec]
 ·rename_i h0 h1 h2 h3
  refine ⟨?_,?_,?_⟩
  ·exact Int.natCast_nonneg _
  ·have:=num_lt ((RdS.mk bs 0).num 1).2 8
   show ((((RdS.mk bs 0).num 1).2.num 8).1:Int)≤_
   omega
  ·show bs.length-(((RdS.mk bs 0).num 1).2.num 8).2.lenRow.2.left+4≤bs.length
   have h4:¬ ((((RdS.mk bs 0).num 1).2.num 8).2.lenRow.2.raw 4).1.length<4:=h1
   have h5:=(((((RdS.mk bs 0).num 1).2.num 8).2.lenRow.2).raw_le 4)
   have h6:=lenRow_le (((RdS.mk bs 0).num 1).2.num 8).2
   have h7:=((RdS.mk bs 0).raw_le 1).2.1
   have h8:=(((RdS.mk bs 0).num 1).2.raw_le 8).2.1
   have h9:(((RdS.mk bs 0).num 1).2.num 8).2.bs.length≤((RdS.mk bs 0).num 1).2.bs.length:=h8
   have h10:((RdS.mk bs 0).num 1).2.bs.length≤bs.length:=h7
   generalize (((RdS.mk bs 0).num 1).2.num 8).2=q at *
   generalize q.lenRow=q2 at *
   have hw:q2.2.why=0:=by
    by_cases e:q2.2.why=0
    ·exact e
    ·rw [q2.2.raw_none 4 (.inl e)] at h4;simp at h4
   unfold RdS.left
   rw [if_neg (by simpa using hw)]
   omega
def RecsRet (o:Option (List RecP×List UInt8)) (base:Nat) (e:Ending) (w':World):Prop :=
 match o with
 | none=>e=.returned (.tuple #[.slice none 0 0,.bool false])
 | some (rs,rest)=>∃ A' c',e=.returned (.tuple #[.slice A' rs.length c',.bool (decide (rest.length=0))])∧OwnRecs w' base (fun b=>base≤b) A' rs.length c' rs
theorem records_any (D:Nat→Prop) (A A1 A2:Option Addr) (n c n1 c1 n2 c2:Nat) (bs:List UInt8) (ix fi by':Int) (co:Nat) (w:World) (hB:Bs w D A n bs) (hnc:n≤c) (hc9:c≤9223372036854775807) (hn:n≤1099511627776) (hco:co≤65535) (_hf0:0≤fi) (_hf1:fi≤18446744073709551615):
  Calls Tryz.prog 261 #[.slice A n c,.agg #[.int .i64 ix,.int .u64 fi,.int .i64 co,.int .i64 by',.slice A1 n1 c1,.slice A2 n2 c2]] w fun e w' =>
   RecsRet (recsGo fi co 0 bs) w.heap.size e w'∧New w w':=by
 have hl:=Lib.hid hB.len
 have HBk:=Lib.hid hB
 have hb0:(w.alloc (.cells #[.int .i64 ix,.int .u64 fi,.int .i64 co,.int .i64 by',.slice A1 n1 c1,.slice A2 n2 c2] 264)).heap[w.heap.size]?=some (.cells #[.int .i64 ix,.int .u64 fi,.int .i64 co,.int .i64 by',.slice A1 n1 c1,.slice A2 n2 c2] 264 (0,0)):=heap_alloc_new w _
 have hK0:New w (w.alloc (.cells #[.int .i64 ix,.int .u64 fi,.int .i64 co,.int .i64 by',.slice A1 n1 c1,.slice A2 n2 c2] 264)):=(New.refl w).alloc _
 have HB:=Lib.hid hb0
 have hlt:w.heap.size<(w.alloc (.cells #[.int .i64 ix,.int .u64 fi,.int .i64 co,.int .i64 by',.slice A1 n1 c1,.slice A2 n2 c2] 264)).heap.size:=by simp
 clear hb0
 go_enter Tryz.func261,Tryz.ntmps261
 go_wp2_with fail
 generalize w.alloc _=w0 at *
 have ck2:=cellOf HB.out (k:=2) rfl
 go_wp2_with fail
 go_loopw [0,6,13] (fun s0 s6 i wx=>∃ (k:Nat) (A0:Option Addr) (n0 c0:Nat) (A':Option Addr) (c':Nat) (bk:List UInt8) (rs:List RecP),k≤co∧i=.int .i64 (k:Int)∧s0=.slice A0 n0 c0∧s6=.slice A' k c'∧n0≤c0∧c0≤9223372036854775807∧n0≤1099511627776∧Bs wx (fun b=>b<w.heap.size) A0 n0 bk∧OwnRecs wx w0.heap.size (fun b=>w.heap.size≤b) A' k c' rs∧New w0 wx ∧
  recsGo fi co 0 bs=(recsGo fi (co-k) k bk).map fun p=>(rs++p.1,p.2)) (fun _ _ i _=>co-(intOf i).toNat)
 case atStart=>exact ⟨0,A,n,c,none,0,bs,[],Nat.zero_le _,rfl,rfl,rfl,hnc,hc9,hn,Row.new (HBk.out.imp fun _ h _=>h) hK0,OwnRecs.nil _ _ _,New.refl _,by cases h:recsGo fi co 0 bs <;> simp ⟩
 case round =>
  clear hnc hc9 hn
  obtain ⟨k,A0,n0,c0,A',c',bk,rs,hk,rfl,rfl,rfl,hnc,hc9,hn,hB,hown,hK,hgo⟩:=hrel
  have hkw:IntKind.u64.wrap (k:Int)=k:=by rw [IntKind.wrap_u64];omega
  have HO:=Lib.hid hown
  have HB0:=Lib.hid hB
  have HG:=Lib.hid hgo
  have HK:=Lib.hid hK
  clear hown hB hgo hK
  by_cases hlk:k<co
  ·have HM:Hid (recsGo fi (co-k) k bk=if (recDec bk).2.2≠0 then none else if (recDec bk).1.seq≠IntKind.u64.wrap (fi+k) then none else (recsGo fi (co-(k+1)) (k+1) (bk.drop (recDec bk).2.1)).map fun p=>((recDec bk).1::p.1,p.2)):=Lib.hid (by
    rw [show co-k=(co-(k+1))+1 from by omega,recsGo])
   have HD:=Lib.hid (decode_any _ A0 n0 c0 bk wr HB0.out hnc hn)
   have HL:=Lib.hid (recDec_le bk)
   generalize recDec bk=d at *
   obtain ⟨r,sz,why⟩:=d
   dsimp only at HM HL
   go_wp2_with fail
   refine HD.out.mono ?_
   rintro e w1 ⟨⟨A5,c5,rfl,hown5⟩,hK1⟩
   have HO5:=Lib.hid hown5
   have HK1:=Lib.hid hK1
   have hlt1:w.heap.size<w1.heap.size:=Nat.lt_of_lt_of_le (Nat.lt_of_lt_of_le hlt HK.out.size) HK1.out.size
   have ck1:w1.cell? ⟨w.heap.size,1,none⟩=some (.int .u64 fi):=cellOf (hK1.blockAt (HK.out.blockAt HB.out trivial) trivial) (k:=1) rfl
   clear hown5 hK1
   by_cases hy:why=0
   ·subst hy
    by_cases hq:r.seq=IntKind.u64.wrap (fi+k)
    ·have hq':(r.seq !=IntKind.u64.wrap (fi+k))=false:=by simpa using hq
     have HM1:Hid (recsGo fi co 0 bs=(recsGo fi (co-(k+1)) (k+1) (bk.drop sz)).map fun p=>((rs++[r])++p.1,p.2)):=Lib.hid (by
      rw [HG.out,HM.out,if_neg (by simp),if_neg (by simpa using hq)];cases recsGo fi (co-(k+1)) (k+1) (bk.drop sz) <;> simp)
     clear hq
     have hN1:New w1 ((w1.alloc (.cells #[.int .i64 r.kind,.int .u64 r.seq,.slice A5 r.body.length c5] 188)).alloc (.cells #[.int .i64 r.kind,.int .u64 r.seq,.slice A5 r.body.length c5] 188)):=((New.refl w1).alloc _).alloc _
     have hown':=(HO.out.new HK1.out).new hN1
     have hge:w.heap.size≤wr.heap.size:=Nat.le_trans (Nat.le_of_lt hlt) HK.out.size
     have hy1:=(Row.imp ((HO.out.new HK1.out).apart HO5.out) (E:=fun b=>w.heap.size≤b∧some b≠blk A') (fun b _ h=>⟨Nat.le_trans hge h.1,h.2⟩)).new hN1
     have hrow:=Row.made (w1.alloc (.cells #[.int .i64 r.kind,.int .u64 r.seq,.slice A5 r.body.length c5] 188)) 188 #[.int .i64 r.kind,.int .u64 r.seq,.slice A5 r.body.length c5] 1 3 rfl
     rw [show (w1.alloc (.cells #[.int .i64 r.kind,.int .u64 r.seq,.slice A5 r.body.length c5] 188)).heap.size=w1.heap.size+1 from by simp] at hrow
     have hmc:=own_cap HO5.out
     have hc95:=own_capMax HO5.out
     have hs0:=HL.out.1
     have hs1:=HL.out.2.1
     have hbd:k+1≤1099511627776:=by omega
     have hsz:=Nat.le_trans HK.out.size (Nat.le_trans HK1.out.size hN1.size)
     have hlz:sz≤n0:=by have:=HL.out.2.2;have:=HB0.out.len;omega
     clear hge
     go_wp2_with (at_builtin;refine app_recs _ rfl (.tmp 34) (.tmp 36) rfl w0.heap.size (fun b=>w.heap.size≤b) A' k c' _ rfl hown' (fun g=>w1.heap.size+1≤g) _ 1 A5 c5 r rfl hrow hy1 hmc hc95 hs0 hs1 hbd hsz ?_;intro A3 c3 w3 hown3 hg3 hbk3)
     have hK3:New w0 w3:=((HK.out.new HK1.out).new hN1).grown hg3 (fun j hj _=>(hown'.lt j hj).1)
     have HOW:=Lib.hid hown3
     have hrest:Bs w3 (fun b=>b<w.heap.size) (if c0=sz then A0 else Option.map (fun x=>x.add sz) A0) (n0-sz) (bk.drop sz):=by
      have hBw:=(HB0.out.new HK1.out).new hN1
      have hKw:Keep (fun b=>b<w.heap.size) _ w3:=(Keep.refl _ _).grown hg3 (fun j hj hd=>absurd hd (by have:=(hown'.lt j hj).1;omega))
      have hB3:Bs w3 (fun b=>b<w.heap.size) A0 n0 bk:=Row.keep hBw hKw (fun _ _ h=>h)
      have hl3:=hB3.len
      by_cases e:c0=sz
      ·have e1:n0-sz=0:=by omega
       have e2:bk.drop sz=[]:=List.drop_eq_nil_of_le (by omega)
       rw [e1,e2];exact Row.nil _ _ _ _
      ·rw [if_neg e];exact Bs.from_ hB3 hlz
     go_roundw
     case rel=>exact ⟨k+1,_,_,_,_,_,_,_,by omega,by go_num,rfl,rfl,by omega,by omega,by omega,hrest,HOW.out,hK3,HM1.out⟩
     case measure=>simp [intOf];omega
    ·have hq':(r.seq !=IntKind.u64.wrap (fi+k))=true:=by simpa using hq
     have HM1:Hid (recsGo fi co 0 bs=none):=Lib.hid (by rw [HG.out,HM.out,if_neg (by simp),if_pos (by simpa using hq)];rfl)
     clear hq
     go_wp2_with fail
     refine bodyPost_ret (v:=.tuple #[.slice none 0 0,.bool false]) (by simp [results,Tryz.results261,go_sem]) rfl ?_
     rw [HM1.out]
     exact ⟨rfl,(hK0.new (HK.out.new HK1.out)).alloc _⟩
   ·have hy':(why !=0)=true:=by simpa using hy
    have HM1:Hid (recsGo fi co 0 bs=none):=Lib.hid (by rw [HG.out,HM.out,if_pos hy];rfl)
    go_wp2_with fail
    refine bodyPost_ret (v:=.tuple #[.slice none 0 0,.bool false]) (by simp [results,Tryz.results261,go_sem]) rfl ?_
    rw [HM1.out]
    exact ⟨rfl,(hK0.new (HK.out.new HK1.out)).alloc _⟩
  ·obtain rfl:k=co:=by omega
   go_wp2_with fail
   have HM1:Hid (recsGo fi k 0 bs=some (rs,bk)):=Lib.hid (by rw [HG.out,Nat.sub_self,recsGo];simp)
   have hLn:Hid (bk.length=n0):=Lib.hid HB0.out.len
   have hLr:Hid (rs.length=k):=Lib.hid HO.out.len
   have hz0:((n0:Int)==0)=decide (n0=0):=by rw [Bool.eq_iff_iff];simp
   refine bodyPost_ret (v:=.tuple #[.slice A' k c',.bool (decide (n0=0))]) (by simp [results,Tryz.results261,go_sem,hz0]) rfl ?_
   rw [HM1.out]
   unfold RecsRet
   dsimp only
   rw [hLn.out,hLr.out]
   obtain ⟨vs,o1,o2,o3⟩:=HO.out
   exact ⟨⟨_,_,rfl,vs,own_base o1 (Nat.le_of_lt hlt),o2,o3⟩,hK0.new HK.out⟩
theorem be4_length (a:BitVec 32):(be4 a).length=4:=rfl
theorem beI_last (s:Nat) (n:Int):beI (s+1) n=beI s (n/256)++[UInt8.ofNat (n%256).toNat]:=by
 unfold beI
 rw [List.range_succ,List.map_append,List.map_singleton]
 congr 1
 ·apply List.map_congr_left
  intro i hi
  have hi:=List.mem_range.1 hi
  have e:(n/256)/2^(8*(s-1-i))=n/2^(8*(s+1-1-i)):=by
   rw [Int.ediv_ediv_of_nonneg (by decide),show (256:Int)=2^8 from rfl,← Int.pow_add,show 8+8*(s-1-i)=8*(s+1-1-i) from by omega]
  rw [e]
 ·simp
theorem beNat_beI:∀ (s:Nat) (n:Int),0≤n→n<256^s→(beNat (beI s n):Int)=n
 | 0,n,h0,h1=>by simp at h1;have:n=0:=(by omega);subst this;rfl
 | s+1,n,h0,h1=>by
  have ih:=beNat_beI s (n/256) (by omega) (by rw [Int.pow_succ] at h1;omega)
  rw [beI_last,beNat_snoc]
  have e:(UInt8.ofNat (n%256).toNat).toNat=(n%256).toNat:=by simp;omega
  rw [e]
  omega
theorem beI_beNat:∀ (s:Nat) (bs:List UInt8),bs.length=s→beI s (beNat bs:Nat)=bs
 | 0,bs,h=>by rw [List.eq_nil_of_length_eq_zero h];rfl
 | s+1,bs,h=>by
  rcases List.eq_nil_or_concat bs with rfl|⟨l,b,rfl⟩
  ·simp at h
  ·have hl:l.length=s:=by simpa using h
   rw [List.concat_eq_append,beNat_snoc,beI_last]
   have hb:=b.toNat_lt
   have e1:((beNat l*256+b.toNat:Nat):Int)/256=(beNat l:Nat):=by omega
   have e2:(((beNat l*256+b.toNat:Nat):Int)%256).toNat=b.toNat:=by omega
   rw [e1,e2,beI_beNat s l hl]
   congr 2
   exact UInt8.toNat_inj.1 (by simp)
theorem RdS.raw_cut (a rest:List UInt8) (n:Int) (h1:1≤n) (hn:n=a.length):RdS.raw ⟨a++rest,0⟩ n=(a,⟨rest,0⟩):=by
 subst hn
 rw [RdS.raw_some _ _ rfl h1 (by show ((a.length:Nat):Int)≤(a++rest).length;simp only [List.length_append];omega)]
 simp
theorem RdS.raw_zero (a rest:List UInt8) (n:Int) (hn:n=a.length):RdS.raw ⟨a++rest,0⟩ n=(a,⟨rest,0⟩):=by
 rcases Nat.eq_zero_or_pos a.length with h|h
 ·rw [List.eq_nil_of_length_eq_zero h] at hn ⊢
  rw [RdS.raw_none _ _ (.inr (by rw [hn];decide))]
  rfl
 ·exact RdS.raw_cut a rest n (by omega) hn
theorem RdS.num_cut (a rest:List UInt8) (k:Nat) (hk:k=a.length):RdS.num ⟨a++rest,0⟩ k=(beNat a,⟨rest,0⟩):=by
 unfold RdS.num
 rw [RdS.raw_zero a rest k (by omega)]
theorem recParts_long (k:UInt8) (s l body sum rest:List UInt8) (hs:s.length=8) (hl:l.length=2) (hb:body.length=beNat l) (hsum:sum.length=4):
  recParts (k::(s++(l++(body++(sum++rest)))))=(⟨(k.toNat:Nat),(beNat s:Nat),body⟩,11+body.length,sum):=by
 have e1:RdS.num ⟨k::(s++(l++(body++(sum++rest)))),0⟩ 1=(k.toNat,⟨s++(l++(body++(sum++rest))),0⟩):=by
  have:=RdS.num_cut [k] (s++(l++(body++(sum++rest)))) 1 rfl
  rwa [show beNat [k]=k.toNat from by simp [beNat]] at this
 have e2:=RdS.num_cut s (l++(body++(sum++rest))) 8 hs.symm
 have e3:RdS.lenRow ⟨l++(body++(sum++rest)),0⟩=(body,⟨sum++rest,0⟩):=by
  unfold RdS.lenRow
  rw [RdS.num_cut l (body++(sum++rest)) 2 hl.symm]
  exact RdS.raw_zero body (sum++rest) _ (by omega)
 have e4:=RdS.raw_zero sum rest 4 (by omega)
 unfold recParts
 dsimp only
 rw [e1]
 dsimp only
 rw [e2]
 dsimp only
 rw [e3]
 dsimp only
 rw [e4]
 have e5:(k::(s++(l++(body++(sum++rest))))).length-RdS.left ⟨sum++rest,0⟩=11+body.length:=by
  unfold RdS.left
  simp only [ne_eq,not_true_eq_false,if_false,List.length_cons,List.length_append]
  omega
 rw [e5]
theorem RdS.raw_ok {s:RdS}{n:Int}(h:(s.raw n).2.why=0):s.why=0∧(n<1∧s.raw n=([],s)∨1≤n∧n≤s.bs.length∧s.raw n=(s.bs.take n.toNat,⟨s.bs.drop n.toNat,0⟩)):=by
 by_cases h0:s.why=0
 ·refine ⟨h0,?_⟩
  by_cases h1:(s.bs.length:Int)<n
  ·rw [s.raw_end n h0 h1] at h;simp at h
  ·by_cases h2:n<1
   ·exact .inl ⟨h2,s.raw_none n (.inr h2)⟩
   ·exact .inr ⟨by omega,by omega,s.raw_some n h0 (by omega) (by omega)⟩
 ·rw [s.raw_none n (.inl h0)] at h;exact absurd h h0
theorem RdS.raw_split {s:RdS}{n:Int}(h:(s.raw n).2.why=0) (hn:0≤n):s.why=0∧s.bs=(s.raw n).1++(s.raw n).2.bs∧((s.raw n).1.length:Int)=n:=by
 obtain ⟨h0,⟨h1,e⟩|⟨h1,h2,e⟩⟩:=RdS.raw_ok h
 ·rw [e];exact ⟨h0,rfl,by simp;omega⟩
 ·rw [e];exact ⟨h0,(List.take_append_drop _ _).symm,by simp only [List.length_take];omega⟩
theorem recParts_ok {bs:List UInt8}(h:¬ (recParts bs).2.2.length<4):
  ∃ k s l body sum rest,bs=k::(s++(l++(body++(sum++rest))))∧s.length=8∧l.length=2∧body.length=beNat l∧sum.length=4:=by
 have hp:(recParts bs).2.2=((((RdS.mk bs 0).num 1).2.num 8).2.lenRow.2.raw 4).1:=rfl
 rw [hp] at h
 generalize hq1:((RdS.mk bs 0).num 1)=q1 at h
 generalize hq2:q1.2.num 8=q2 at h
 generalize hq3:q2.2.lenRow=q3 at h
 generalize hq4:q3.2.raw 4=q4 at h
 have w4:q4.2.why=0∧q3.2.why=0:=by
  by_cases e:q3.2.why=0
  ·by_cases e2:(q3.2.bs.length:Int)<4
   ·rw [q3.2.raw_end 4 e e2] at hq4;rw [← hq4] at h;simp at h
   ·rw [q3.2.raw_some 4 e (by decide) (by omega)] at hq4;rw [← hq4];exact ⟨rfl,e⟩
  ·rw [q3.2.raw_none 4 (.inl e)] at hq4;rw [← hq4] at h;simp at h
 have s4:=RdS.raw_split (s:=q3.2) (n:=4) (by rw [hq4];exact w4.1) (by decide)
 rw [hq4] at s4
 have h3:((q2.2.num 2).2.raw (q2.2.num 2).1)=q3:=hq3
 have s3:=RdS.raw_split (s:=(q2.2.num 2).2) (n:=(q2.2.num 2).1) (by rw [h3];exact w4.2) (by omega)
 rw [h3] at s3
 have s2:=RdS.raw_split (s:=q2.2) (n:=2) s3.1 (by decide)
 have h2:q2.2=(q1.2.raw 8).2:=by rw [← hq2];rfl
 have s1:=RdS.raw_split (s:=q1.2) (n:=8) (by rw [← h2];exact s2.1) (by decide)
 rw [← h2] at s1
 have h1:q1.2=((RdS.mk bs 0).raw 1).2:=by rw [← hq1];rfl
 have s0:=RdS.raw_split (s:=RdS.mk bs 0) (n:=1) (by rw [← h1];exact s1.1) (by decide)
 rw [← h1] at s0
 obtain ⟨-,b0,l0⟩:=s0
 obtain ⟨-,b1,l1⟩:=s1
 obtain ⟨-,b2,l2⟩:=s2
 obtain ⟨-,b3,l3⟩:=s3
 obtain ⟨-,b4,l4⟩:=s4
 have e3:(q2.2.num 2).2=(q2.2.raw 2).2:=rfl
 have e4:(q2.2.num 2).1=beNat (q2.2.raw 2).1:=rfl
 rw [e3] at b3
 rw [e4] at l3
 generalize (RdS.mk bs 0).raw 1=a0 at *
 generalize q1.2.raw 8=a1 at *
 generalize q2.2.raw 2=a2 at *
 have hb:bs=a0.1++q1.2.bs:=b0
 match ha:a0.1,l0 with
 | [k],_ =>
  refine ⟨k,a1.1,a2.1,q3.1,q4.1,q4.2.bs,?_,by omega,by omega,by omega,by omega⟩
  rw [hb,ha,b1,b2,b3,b4]
  rfl
 | [],hh=>simp at hh
 | _::_::_,hh=>simp at hh;omega
theorem recHead_eq {r:RecP}(h0:0≤r.kind∧r.kind<256) (hb:r.body.length≤65535):recHead r=UInt8.ofNat r.kind.toNat::(beI 8 r.seq++(beI 2 (r.body.length:Nat)++r.body)):=by
 unfold recHead lenBytes
 rw [Nat.min_eq_left hb,List.take_of_length_le hb]
 have e:beI 1 r.kind=[UInt8.ofNat r.kind.toNat]:=by
  rw [beI_last,show beI 0 (r.kind/256)=[] from rfl,List.nil_append,Int.emod_eq_of_lt h0.1 h0.2]
 rw [e]
 simp
theorem recDec_enc (r:RecP) (rest:List UInt8) (hr:recRight r=true) (hs:0≤r.seq):recDec (recEnc r++rest)=(r,15+r.body.length,0):=by
 have hr':=hr
 unfold recRight at hr'
 rw [decide_eq_true_eq] at hr'
 obtain ⟨h1,h2,h3⟩:=hr'
 have hk:0≤r.kind∧r.kind<256:=by omega
 have hE:recEnc r++rest=UInt8.ofNat r.kind.toNat::(beI 8 r.seq++(beI 2 (r.body.length:Nat)++(r.body++(be4 (crcSum (recHead r))++rest)))):=by
  unfold recEnc
  rw [List.append_assoc]
  conv=>lhs;arg 1;rw [recHead_eq hk (by omega)]
  simp
 have hl:beNat (beI 2 (r.body.length:Nat))=r.body.length:=by
  have:=beNat_beI 2 (r.body.length:Nat) (by omega) (by omega)
  omega
 have hP:=recParts_long (UInt8.ofNat r.kind.toNat) (beI 8 r.seq) (beI 2 (r.body.length:Nat)) r.body (be4 (crcSum (recHead r))) rest (beI_length _ _) (beI_length _ _) hl.symm rfl
 rw [← hE] at hP
 have hkk:((UInt8.ofNat r.kind.toNat).toNat:Int)=r.kind:=by simp;omega
 have hss:(beNat (beI 8 r.seq):Int)=r.seq:=beNat_beI 8 r.seq hs (by omega)
 rw [hkk,hss] at hP
 have hT:(recEnc r++rest).take (11+r.body.length)=recHead r:=by
  have hl2:(recHead r).length=11+r.body.length:=by rw [recHead_eq hk (by omega)];simp [beI_length];omega
  unfold recEnc
  rw [List.append_assoc,← hl2,List.take_left']
  rfl
 have hbad:recBad (recEnc r++rest)=false:=by
  unfold recBad
  rw [hE]
  rcases h3 with h|⟨h,_⟩ <;> simp [h]
 unfold recDec
 rw [hbad,hP,hT]
 simp [be4_length,hr]
 omega
theorem recDec_ok {bs:List UInt8}(h:(recDec bs).2.2=0):(∃ rest,bs=recEnc (recDec bs).1++rest)∧recRight (recDec bs).1=true∧0≤(recDec bs).1.seq∧(recDec bs).2.1=15+(recDec bs).1.body.length:=by
 unfold recDec at h
 split at h
 ·simp at h
 rename_i hbad
 split at h
 ·simp at h
 rename_i h4
 split at h
 ·simp at h
 rename_i hsum
 split at h
 ·simp at h
 rename_i hr
 have hD:recDec bs=((recParts bs).1,(recParts bs).2.1+4,0):=by
  unfold recDec
  rw [if_neg hbad,if_neg h4,if_neg hsum,if_neg hr]
 obtain ⟨k,s,l,body,sum,rest,hb,hs,hl,hbl,hsl⟩:=recParts_ok h4
 have hP:=recParts_long k s l body sum rest hs hl hbl hsl
 rw [← hb] at hP
 rw [hD,hP]
 rw [hP] at hsum hr
 dsimp only at hsum hr ⊢
 have hr':recRight ⟨(k.toNat:Nat),(beNat s:Nat),body⟩=true:=by simpa using hr
 have hr2:=hr'
 unfold recRight at hr2
 rw [decide_eq_true_eq] at hr2
 dsimp only at hr2
 have hH:recHead ⟨(k.toNat:Nat),(beNat s:Nat),body⟩=k::(s++(l++body)):=by
  rw [recHead_eq ⟨by show (0:Int)≤(k.toNat:Nat);omega,by have:=k.toNat_lt;show ((k.toNat:Nat):Int)<256;omega⟩ (by show body.length≤65535;omega)]
  dsimp only
  rw [beI_beNat 8 s hs,hbl,beI_beNat 2 l hl,Int.toNat_natCast]
  congr 1
  exact UInt8.toNat_inj.1 (by simp)
 have hT:bs.take (11+body.length)=k::(s++(l++body)):=by
  have e:bs=(k::(s++(l++body)))++(sum++rest):=by rw [hb];simp
  rw [e,show 11+body.length=(k::(s++(l++body))).length from by simp;omega,List.take_left']
  rfl
 refine ⟨⟨rest,?_⟩,hr',by show (0:Int)≤(beNat s:Nat);omega,by omega⟩
 unfold recEnc
 rw [hH]
 have hsum2:sum=be4 (crcSum (k::(s++(l++body)))):=by
  rw [hT] at hsum
  exact Decidable.not_not.1 hsum
 rw [← hsum2,hb]
 simp
theorem recEnc_len {r:RecP}(h:recRight r=true):(recEnc r).length=15+r.body.length:=by
 have:r.body.length≤900:=by unfold recRight at h;simp at h;omega
 simp only [recEnc,recHead,lenBytes,List.length_append,beI_length,be4_length,List.length_take];omega
theorem leavesOf_cons {r:RecP}{rs:List RecP}(h:recRight r=true):leavesOf (r::rs)=recEnc r::leavesOf rs:=by unfold leavesOf;rw [List.map_cons,if_pos h]
theorem recsGo_enc (first:Int) (rest:List UInt8):∀ (rs:List RecP) (i:Nat),(∀ r∈rs,recRight r=true∧0≤r.seq)→(∀ k (h:k<rs.length),rs[k].seq=IntKind.u64.wrap (first+(i+k:Nat))) →
  recsGo first rs.length i ((leavesOf rs).flatten++rest)=some (rs,rest)
 | [],_,_,_=>rfl
 | r::rs,i,hr,hs=>by
  have h1:=hr r (by simp)
  have ih:=recsGo_enc first rest rs (i+1) (fun x hx=>hr x (by simp [hx])) (fun k hk=>by
   have:=hs (k+1) (by simpa using hk)
   rw [show i+1+k=i+(k+1) from by omega]
   simpa using this)
  have hd:=recDec_enc r ((leavesOf rs).flatten++rest) h1.1 h1.2
  rw [leavesOf_cons h1.1,List.flatten_cons,List.append_assoc,List.length_cons,recsGo,hd]
  have h0:=hs 0 (by simp)
  rw [if_neg (by simp),if_neg (by simpa using h0)]
  have e:(recEnc r++((leavesOf rs).flatten++rest)).drop (15+r.body.length)=(leavesOf rs).flatten++rest:=by
   rw [← recEnc_len h1.1,List.drop_left'];rfl
  dsimp only
  rw [e,ih]
  rfl
theorem recsGo_ok (first:Int):∀ (m i:Nat) (bs:List UInt8) (rs:List RecP) (rest:List UInt8),recsGo first m i bs=some (rs,rest) →
  bs=(leavesOf rs).flatten++rest∧rs.length=m∧(∀ r∈rs,recRight r=true∧0≤r.seq)∧∀ k (h:k<rs.length),rs[k].seq=IntKind.u64.wrap (first+(i+k:Nat))
 | 0,i,bs,rs,rest,h=>by
  rw [recsGo] at h
  injection h with h
  injection h with h1 h2
  subst h1;subst h2
  exact ⟨rfl,rfl,by simp,fun k hk=>absurd hk (by simp)⟩
 | m+1,i,bs,rs,rest,h=>by
  rw [recsGo] at h
  split at h
  ·cases h
  rename_i hw
  split at h
  ·cases h
  rename_i hq
  have hw':(recDec bs).2.2=0:=Decidable.not_not.1 hw
  have hq':=Decidable.not_not.1 hq
  obtain ⟨⟨t,ht⟩,hr,h0,hz⟩:=recDec_ok hw'
  generalize hd:recDec bs=d at *
  obtain ⟨r,sz,why⟩:=d
  dsimp only at *
  cases hg:recsGo first m (i+1) (bs.drop sz) with
  | none=>rw [hg] at h;cases h
  | some p =>
   obtain ⟨rs',rest'⟩:=p
   rw [hg] at h
   simp only [Option.map_some,Option.some.injEq,Prod.mk.injEq] at h
   obtain ⟨e1,e2⟩:=h
   subst e1;subst e2
   obtain ⟨a1,a2,a3,a4⟩:=recsGo_ok first m (i+1) _ _ _ hg
   have hdrop:bs.drop sz=t:=by rw [ht,hz,← recEnc_len hr,List.drop_left'];rfl
   rw [hdrop] at a1
   refine ⟨by rw [leavesOf_cons hr,List.flatten_cons,List.append_assoc,← a1];exact ht,by simp [a2],?_,?_⟩
   ·intro x hx
    rcases List.mem_cons.1 hx with e|e
    ·rw [e];exact ⟨hr,h0⟩
    ·exact a3 x e
   ·intro k hk
    rcases k with _|k
    ·simpa using hq'
    ·have:=a4 k (by simpa using hk)
     rw [show i+(k+1)=i+1+k from by omega]
     simpa using this
end Go.Proofs.YtdodbdednpnddaaGreatDoor
