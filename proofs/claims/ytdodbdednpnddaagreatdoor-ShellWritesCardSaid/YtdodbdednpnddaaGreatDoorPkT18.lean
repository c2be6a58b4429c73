/-
  PROVED HERE: what codec.Writer's methods answer, with a closer frame: all but the writer's cell and its row of bytes stays; condition: fewer than 2^40 bytes.
-/
import Derived.Test.YtdodbdednpnddaaGreatDoorPkT05
set_option maxRecDepth 200000
namespace Go.Proofs.YtdodbdednpnddaaGreatDoor
open Go.RowKit
def rowBlk (w:World) (p:Nat):Option Nat:=match w.cell? ⟨p,0,none⟩ with
 | some (.slice A _ _)=>blk A
 | _=>none
theorem rowBlk_of {w:World}{p:Nat}{A:Option Addr}{n c:Nat}(h:w.cell? ⟨p,0,none⟩=some (.slice A n c)):rowBlk w p=blk A:=by unfold rowBlk;rw [h]
structure Writ (w w':World) (p:Nat):Prop where
 keep:Keep (fun b=>b≠p∧some b≠rowBlk w p) w w'
 row:∀ b,b<w.heap.size→some b≠rowBlk w p→some b≠rowBlk w' p
theorem Writ.refl (w:World) (p:Nat):Writ w w p:=⟨Keep.refl _ _,fun _ _ h=>h⟩
theorem Writ.trans {a b c:World}{p:Nat}(h:Writ a b p) (k:Writ b c p):Writ a c p :=
 ⟨h.keep.trans2 k.keep fun i hi hd=>⟨hd.1,h.row i hi hd.2⟩,fun i hi hd=>k.row i (Nat.lt_of_lt_of_le hi h.keep.size) (h.row i hi hd)⟩
theorem Writ.of_new {w w':World}{p:Nat}(h:New w w') (hp:p<w.heap.size):Writ w w' p :=
 ⟨Keep.of_new h,fun b _ hd=>by unfold rowBlk at *;rw [h.cell (p:=⟨p,0,none⟩) hp trivial];exact hd⟩
theorem writ_put {w w2:World}{p:Nat}{A1 A2:Option Addr}{n1 c1 m c2:Nat}{u:Value}(hc:w.cell? ⟨p,0,none⟩=some (.slice A1 n1 c1)) (_hne:blk A1≠some p) (hg:w.grownBy w2 (blk A1)) (hbk:blk A2=blk A1∨blk A2=some w.heap.size) (cc:w2.cell? ⟨p,0,none⟩=some u):Writ w (w2.setCell ⟨p,0,none⟩ (.slice A2 m c2)) p:=by
 have hr:=rowBlk_of hc
 refine ⟨((Keep.refl (fun b=>b≠p∧some b≠rowBlk w p) w).grown hg (fun k hk hd=>absurd hk.symm (by rw [hr] at hd;exact hd.2))).setCell (p:=⟨p,0,none⟩) (fun hd=>absurd rfl hd.1) _,fun b hb hd=>?_⟩
 rw [rowBlk_of (World.cell?_setCell_same w2 ⟨p,0,none⟩ _ cc)]
 rw [hr] at hd
 rcases hbk with e|e
 ·rw [e];exact hd
 ·rw [e];intro e';injection e' with e';omega
theorem Wr.low {w w':World}{base p:Nat}{bs:List UInt8}(h:Wr w base p bs) (k:Writ w w' p):Keep (fun b=>b<base) w w':=by
 obtain ⟨A,c,hc,hown,_⟩:=h.row
 refine k.keep.imp fun b _ hb=>⟨fun e=>by have:=h.hp;omega,fun e=>?_⟩
 rw [rowBlk_of hc] at e
 have:=(own_lt hown b e.symm).1
 omega
theorem Wr.rowLt {w:World}{base p:Nat}{bs:List UInt8}(h:Wr w base p bs):∀ b,rowBlk w p=some b→base≤b∧b<w.heap.size:=by
 obtain ⟨A,c,hc,hown,_⟩:=h.row
 intro b hb
 rw [rowBlk_of hc] at hb
 exact own_lt hown b hb
theorem rawW_any (base p:Nat) (D:Nat→Prop) (A:Option Addr) (n c:Nat) (bs bs2:List UInt8) (w:World) (hW:Wr w base p bs) (hB:Bs w D A n bs2) (hn:bs.length+n≤1099511627776):
  Calls Tryz.prog 84 #[.pointer (some ⟨p,0,none⟩),.slice A n c] w fun e w'=>e=.returned (.tuple #[])∧Wr w' base p (bs++bs2)∧Writ w w' p:=by
 obtain ⟨A1,c1,hc,hown,hne⟩:=hW.row
 have hf:=hW.free
 have hpb:=hW.hp
 have hplt:=hW.lt
 have hne':=Ne.symm hne
 have hsz:base≤w.heap.size:=Nat.le_trans hpb (Nat.le_of_lt hplt)
 have hbd:bs.length+n≤140737488355328:=by omega
 have HW:=Lib.hid hW
 have HC:=Lib.hid hc
 clear hW
 go_enter Tryz.func84,Tryz.ntmps84
 go_wp2_with (at_builtin;refine app_bytes _ rfl (.tmp 8) (.tmp 9) rfl base A1 bs.length c1 bs rfl hown D A n c bs2 rfl hB hbd hsz ?_;intro A2 c2 w2 hown2 hg2 hbk2;have cc:=hg2.cell (a:=⟨p,0,none⟩) hc hne';have ff:=(hg2.frozen_far ⟨p,0,none⟩ hplt hne').trans hf)
 go_end0
 exact ⟨rfl,HW.out.put hown2 hg2 hbk2 hne ⟨_,cc⟩,writ_put HC.out hne hg2 hbk2 cc⟩
theorem putW_any (base p s:Nat) (bs:List UInt8) (x si:Int) (w:World) (hW:Wr w base p bs) (_hx0:0≤x) (_hx1:x≤18446744073709551615) (hsi:si=s) (hs:s≤8) (hn:bs.length≤1099511627776):
  Calls Tryz.prog 83 #[.pointer (some ⟨p,0,none⟩),.int .u64 x,.int .i64 si] w fun e w'=>e=.returned (.tuple #[])∧Wr w' base p (bs++beI s x)∧Writ w w' p:=by
 subst hsi
 go_enter Tryz.func83,Tryz.ntmps83
 go_wp2_with fail
 go_loopw [6] (fun i wx=>∃ k:Nat,k≤s∧i=.int .i64 ((k:Int)-1)∧Wr wx base p (bs++(beI s x).take (s-k))∧Writ w wx p) (fun i _=>(intOf i+1).toNat)
 case atStart=>exact ⟨s,Nat.le_refl _,rfl,by simpa using hW,Writ.refl _ _⟩
 case round =>
  clear hW
  obtain ⟨k,hk,rfl,hW,hK⟩:=hrel
  rcases k with _|k
  ·rw [show (((0:Nat):Int)-1) = -1 from rfl]
   rw [Nat.sub_zero,List.take_of_length_le (by rw [beI_length];exact Nat.le_refl _)] at hW
   go_wp2_with fail
   go_end0
   exact ⟨rfl,hW,hK⟩
  ·rw [show (((k+1:Nat):Int)-1)=(k:Int) from by omega]
   have HT:=Lib.hid (beI_take s k x (by omega))
   have hk8:k<8:=by omega
   have hl0:(List.take (s-(k+1)) (beI s x)).length≤8:=Nat.le_trans (List.length_take_le _ _) (by omega)
   generalize List.take (s-(k+1)) (beI s x)=pre at hW HT hl0
   obtain ⟨A1,c1,hc,hown,hne⟩:=hW.row
   have hf:=hW.free
   have hpb:=hW.hp
   have hplt:=hW.lt
   have hne':=Ne.symm hne
   have hsz:base≤wr.heap.size:=Nat.le_trans hpb (Nat.le_of_lt hplt)
   have hbd:(bs++pre).length+1≤140737488355328:=by rw [List.length_append];omega
   have HW:=Lib.hid hW
   clear hW
   generalize (bs++pre).length=m at *
   have q1:IntKind.i64.wrap (8*(k:Int))=8*(k:Int):=IntWalk.i64_in _ (by omega)
   have hb1:=bs_one wr 5 _ (.int .u8 (IntKind.u8.wrap (x/2^(8*k)))) ((byteVal_mod (x/2^(8*k))).trans (by rw [IntKind.wrap_u8]))
   have cka:=(World.cell?_alloc_lt wr (.cells #[.int .u8 (IntKind.u8.wrap (x/2^(8*k)))] 5) ⟨p,0,none⟩ hplt).trans hc
   have ffa:=(((New.refl wr).alloc (.cells #[.int .u8 (IntKind.u8.wrap (x/2^(8*k)))] 5)).frozen (p:=⟨p,0,none⟩) hplt trivial).trans hf
   have hpl1:p<(wr.alloc (.cells #[.int .u8 (IntKind.u8.wrap (x/2^(8*k)))] 5)).heap.size:=Nat.lt_of_lt_of_le hplt (by simp)
   have hown1:=hown.alloc (.cells #[.int .u8 (IntKind.u8.wrap (x/2^(8*k)))] 5)
   have q2:(8*(k:Int)).toNat=8*k:=by omega
   have q3:0≤8*(k:Int):=by omega
   go_wp2_with fail
   go_region_law (refine step_bytes _ rfl (.tmp 17) (.tmp 23) rfl base A1 m c1 _ (by simp [Act.eval]) hown1 (fun g=>wr.heap.size≤g) _ 1 1 _ (by simp [Act.eval]) hb1 hbd (Nat.le_trans hsz (by simp)) ?_;intro A3 c3 w3 hown3 hg3 hbk3;have cc:=hg3.cell (a:=⟨p,0,none⟩) cka hne';have ff:=(hg3.frozen_far ⟨p,0,none⟩ hpl1 hne').trans ffa)
   all_goals
    replace hg3:=undrew hg3
    have hW3:=(HW.out.keep ((New.refl wr).alloc (.cells #[.int .u8 (IntKind.u8.wrap (x/2^(8*k)))] 5)) (fun _ _=>trivial)).put hown3 hg3 hbk3 hne ⟨_,cc⟩
    have hK3:Writ w (w3.setCell ⟨p,0,none⟩ (.slice A3 (m+1) c3)) p:=hK.trans ((Writ.of_new ((New.refl wr).alloc (.cells #[.int .u8 (IntKind.u8.wrap (x/2^(8*k)))] 5)) hplt).trans (writ_put cka hne hg3 hbk3 cc))
    clear hown3 hg3 hbk3 cc ff hK hown hown1 cka ffa hb1 hc HW
    go_wp2_with fail
    go_roundw
    case rel=>exact ⟨k,by omega,rfl,by rw [HT.out,← List.append_assoc];exact hW3,hK3⟩
    case measure=>simp [intOf]
theorem wbyteW_any (base p:Nat) (bs:List UInt8) (x:Int) (w:World) (hW:Wr w base p bs) (hn:bs.length≤1099511627776):
  Calls Tryz.prog 48 #[.pointer (some ⟨p,0,none⟩),.int .i64 x] w fun e w'=>e=.returned (.tuple #[])∧Wr w' base p (bs++beI 1 x)∧Writ w w' p:=by
 have hr:=wrap_u64_bd x
 have he:=Lib.hid (beI_wrap 1 x (by decide))
 go_enter Tryz.func48,Tryz.ntmps48
 go_wp2_with fail
 refine (putW_any base p 1 bs _ _ w hW hr.1 hr.2 rfl (by decide) hn).mono ?_
 rintro e w1 ⟨rfl,hW1,hK1⟩
 rw [he.out] at hW1
 go_wp2_with fail
 go_end0
 exact ⟨rfl,hW1,hK1⟩
theorem wshortW_any (base p:Nat) (bs:List UInt8) (x:Int) (w:World) (hW:Wr w base p bs) (hn:bs.length≤1099511627776):
  Calls Tryz.prog 51 #[.pointer (some ⟨p,0,none⟩),.int .i64 x] w fun e w'=>e=.returned (.tuple #[])∧Wr w' base p (bs++beI 2 x)∧Writ w w' p:=by
 have hr:=wrap_u64_bd x
 have he:=Lib.hid (beI_wrap 2 x (by decide))
 go_enter Tryz.func51,Tryz.ntmps51
 go_wp2_with fail
 refine (putW_any base p 2 bs _ _ w hW hr.1 hr.2 rfl (by decide) hn).mono ?_
 rintro e w1 ⟨rfl,hW1,hK1⟩
 rw [he.out] at hW1
 go_wp2_with fail
 go_end0
 exact ⟨rfl,hW1,hK1⟩
theorem wlongW_any (base p:Nat) (bs:List UInt8) (x:Int) (w:World) (hW:Wr w base p bs) (hx0:0≤x) (hx1:x≤18446744073709551615) (hn:bs.length≤1099511627776):
  Calls Tryz.prog 106 #[.pointer (some ⟨p,0,none⟩),.int .u64 x] w fun e w'=>e=.returned (.tuple #[])∧Wr w' base p (bs++beI 8 x)∧Writ w w' p:=by
 go_enter Tryz.func106,Tryz.ntmps106
 go_wp2_with fail
 refine (putW_any base p 8 bs _ _ w hW hx0 hx1 rfl (by decide) hn).mono ?_
 rintro e w1 ⟨rfl,hW1,hK1⟩
 go_wp2_with fail
 go_end0
 exact ⟨rfl,hW1,hK1⟩
theorem wbytesW_any (base p:Nat) (D:Nat→Prop) (A:Option Addr) (n c:Nat) (bs bs2:List UInt8) (w:World) (hW:Wr w base p bs) (hB:Bs w D A n bs2) (hD:∀ b,D b→b≠p∧some b≠rowBlk w p) (hnc:n≤c) (hc:n≤9223372036854775807) (hn:bs.length+65537≤1099511627776):
  Calls Tryz.prog 49 #[.pointer (some ⟨p,0,none⟩),.slice A n c] w fun e w'=>e=.returned (.tuple #[])∧Wr w' base p (bs++lenBytes bs2)∧Writ w w' p:=by
 have hl:=hB.len
 have hl0:bs.length≤1099511627776:=by omega
 by_cases hgt:65535<n
 ·have hgt':(65535:Int)<n:=by omega
  have hm:=Bs.cutTo hB (hi:=65535) (by omega)
  have HE:Hid (lenBytes bs2=beI 2 65535++bs2.take 65535):=Lib.hid (lenBytes_long bs2 (by omega))
  have hlm:(bs++beI 2 65535).length+65535≤1099511627776:=by rw [List.length_append,beI_length];omega
  clear hl hB
  go_enter Tryz.func49,Tryz.ntmps49
  go_wp2_with fail
  refine (wshortW_any base p bs 65535 w hW hl0).mono ?_
  rintro e w1 ⟨rfl,hW1,hK1⟩
  go_wp2_with fail
  refine (rawW_any base p D A 65535 c _ _ w1 hW1 (hm.keep hK1.keep (fun b _ h=>hD b h)) hlm).mono ?_
  rintro e w2 ⟨rfl,hW2,hK2⟩
  go_wp2_with fail
  go_end0
  exact ⟨rfl,by rw [HE.out,← List.append_assoc];exact hW2,hK1.trans hK2⟩
 ·have hgt':¬ (65535:Int)<n:=by omega
  have HE:Hid (lenBytes bs2=beI 2 (n:Int)++bs2):=Lib.hid (by unfold lenBytes;rw [hl,Nat.min_eq_left (by omega),List.take_of_length_le (by omega)])
  have hlm:(bs++beI 2 (n:Int)).length+n≤1099511627776:=by rw [List.length_append,beI_length];omega
  clear hl
  go_enter Tryz.func49,Tryz.ntmps49
  go_wp2_with fail
  refine (wshortW_any base p bs n w hW hl0).mono ?_
  rintro e w1 ⟨rfl,hW1,hK1⟩
  go_wp2_with fail
  refine (rawW_any base p D A n c _ _ w1 hW1 (hB.keep hK1.keep (fun b _ h=>hD b h)) hlm).mono ?_
  rintro e w2 ⟨rfl,hW2,hK2⟩
  go_wp2_with fail
  go_end0
  exact ⟨rfl,by rw [HE.out,← List.append_assoc];exact hW2,hK1.trans hK2⟩
end Go.Proofs.YtdodbdednpnddaaGreatDoor
