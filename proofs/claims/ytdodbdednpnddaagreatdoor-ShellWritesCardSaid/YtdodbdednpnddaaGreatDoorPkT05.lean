/-
  PROVED HERE: what the program's codec.Writer does; conditions: fewer than 2^40 bytes.
-/
import Derived.Test.YtdodbdednpnddaaGreatDoorPkT04
set_option maxRecDepth 200000
namespace Go.Proofs.YtdodbdednpnddaaGreatDoor
open Go.RowKit
structure Wr (w:World) (base p:Nat) (bs:List UInt8):Prop where
 hp:base≤p
 row:∃ A c,w.cell? ⟨p,0,none⟩=some (.slice A bs.length c)∧OwnB w base 5 A bs.length c bs∧blk A≠some p
 free:w.frozen? ⟨p,0,none⟩=false
theorem Wr.lt {w:World}{base p:Nat}{bs:List UInt8}(h:Wr w base p bs):p<w.heap.size:=by obtain ⟨A,c,h,_⟩:=h.row;exact World.block_lt_of_cell? w _ h
theorem Wr.put {w w2:World}{base p:Nat}{bs:List UInt8}(h:Wr w base p bs){A1 A2:Option Addr}{m c2:Nat}{more:List UInt8}
  (hown2:OwnB w2 base 5 A2 m c2 (bs++more)) (hg2:w.grownBy w2 (blk A1)) (hbk2:blk A2=blk A1∨blk A2=some w.heap.size) (hne:blk A1≠some p)
  (hcc:∃ u,w2.cell? ⟨p,0,none⟩=some u):Wr (w2.setCell ⟨p,0,none⟩ (.slice A2 m c2)) base p (bs++more):=by
 have hp:=h.lt
 have hk:Keep (fun b=>b=p) w w2:=(Keep.refl _ w).grown hg2 (fun k hk hd=>absurd (hd▸hk) hne)
 have hm:m=(bs++more).length:=by have:=hown2.1;simpa using this.symm
 have hA2:blk A2≠some p:=by
  rcases hbk2 with e|e <;> rw [e]
  ·exact hne
  ·intro e';injection e';omega
 obtain ⟨u,hu⟩:=hcc
 refine ⟨h.hp,⟨A2,c2,?_,?_,hA2⟩,?_⟩
 ·rw [← hm];exact World.cell?_setCell_same _ _ _ hu
 ·rw [← hm];exact own_set hown2 hA2 _
 ·rw [World.frozen?_setCell];exact (hk.frozen hp rfl).trans h.free
theorem Wr.keep {w w':World}{D:Nat→Prop}{base p:Nat}{bs:List UInt8}(h:Wr w base p bs) (hk:Keep D w w') (hD:∀ b,base≤b→D b):Wr w' base p bs:=by
 obtain ⟨A,c,hc,hown,hne⟩:=h.row
 exact ⟨h.hp,⟨A,c,hk.cell_some hc (hD _ h.hp),own_keep hown hk (fun k hkk=>hD k (own_lt hown k hkk).1),hne⟩,(hk.frozen (p:=⟨p,0,none⟩) h.lt (hD _ h.hp)).trans h.free⟩
theorem newWriter_any (w:World):Calls Tryz.prog 46 #[] w fun e w'=>(∃ p,e=.returned (.pointer (some ⟨p,0,none⟩))∧Wr w' w.heap.size p [])∧New w w':=by
 go_enter Tryz.func46,Tryz.ntmps46
 go_wp2
 go_ret
 refine ⟨⟨_,rfl,Nat.le_refl _,⟨none,0,?_,Own.nil _ _ _ _,by simp [blk]⟩,free_new w _ _ _⟩,(New.refl w).alloc _⟩
 exact cell_of_row _ _ _ _ _ (0,0) (heap_alloc_new w _)
theorem raw_any (base p:Nat) (D:Nat→Prop) (A:Option Addr) (n c:Nat) (bs bs2:List UInt8) (w:World) (hW:Wr w base p bs) (hB:Bs w D A n bs2) (hn:bs.length+n≤1099511627776):
  Calls Tryz.prog 84 #[.pointer (some ⟨p,0,none⟩),.slice A n c] w fun e w'=>e=.returned (.tuple #[])∧Wr w' base p (bs++bs2)∧Keep (fun b=>b<base) w w':=by
 obtain ⟨A1,c1,hc,hown,hne⟩:=hW.row
 have hf:=hW.free
 have hpb:=hW.hp
 have hplt:=hW.lt
 have hne':=Ne.symm hne
 have hsz:base≤w.heap.size:=Nat.le_trans hpb (Nat.le_of_lt hplt)
 have hbd:bs.length+n≤140737488355328:=by omega
 have HW:=Lib.hid hW
 clear hW
 go_enter Tryz.func84,Tryz.ntmps84
 go_wp2_with (at_builtin;refine app_bytes _ rfl (.tmp 8) (.tmp 9) rfl base A1 bs.length c1 bs rfl hown D A n c bs2 rfl hB hbd hsz ?_;intro A2 c2 w2 hown2 hg2 hbk2;have cc:=hg2.cell (a:=⟨p,0,none⟩) hc hne';have ff:=(hg2.frozen_far ⟨p,0,none⟩ hplt hne').trans hf)
 go_end0
 exact ⟨rfl,HW.out.put hown2 hg2 hbk2 hne ⟨_,cc⟩,((Keep.refl (fun b=>b<base) w).grown (w':=w2) hg2 (fun k hk hd=>absurd hd (by have:=own_lt hown k hk;omega))).setCell (p:=⟨p,0,none⟩) (fun hb=>absurd hb (Nat.not_lt.2 hpb)) _⟩
theorem done_any (base p:Nat) (bs:List UInt8) (w:World) (hW:Wr w base p bs) (hn:bs.length≤1099511627776):
  Calls Tryz.prog 52 #[.pointer (some ⟨p,0,none⟩)] w fun e w'=>(∃ A' c',e=.returned (.slice A' bs.length c')∧OwnB w' w.heap.size 5 A' bs.length c' bs)∧New w w':=by
 obtain ⟨A1,c1,hc,hown,hne⟩:=hW.row
 go_enter Tryz.func52,Tryz.ntmps52
 go_wp2_with fail
 refine (clone_bytes (fun b=>base≤b) A1 _ c1 bs w (Row.of_own hown) (by omega)).mono ?_
 rintro e w1 ⟨⟨A2,c2,rfl,hown2⟩,hK1⟩
 go_wp2_with fail
 go_ret
 exact ⟨⟨_,_,rfl,hown2⟩,hK1⟩
def beI (s:Nat) (n:Int):List UInt8:=(List.range s).map fun i=>UInt8.ofNat (n/2^(8*(s-1-i))%256).toNat
theorem beI_length (s:Nat) (n:Int):(beI s n).length=s:=by simp [beI]
theorem beI_take (s k:Nat) (n:Int) (hk:k<s):(beI s n).take (s-k)=(beI s n).take (s-(k+1))++[UInt8.ofNat (n/2^(8*k)%256).toNat]:=by
 have e:s-k=(s-(k+1))+1:=by omega
 rw [e,List.take_succ_eq_append_getElem (by rw [beI_length];omega)]
 congr 2
 unfold beI
 rw [List.getElem_map,List.getElem_range,show s-1-(s-(k+1))=k from by omega]
theorem byteVal_mod (x:Int):byteVal (UInt8.ofNat (x%256).toNat)=.int .u8 (x%256):=by
 unfold byteVal bv
 have h:=Int.emod_nonneg x (by decide:(256:Int)≠0)
 have h2:=Int.emod_lt_of_pos x (by decide:(0:Int)<256)
 rw [UInt8.toNat_ofNat_of_lt' (by show (x%256).toNat<256;omega)]
 congr 1
 omega
theorem wrap_u64_bd (x:Int):0≤IntKind.u64.wrap x∧IntKind.u64.wrap x≤18446744073709551615:=by
 rw [IntKind.wrap_u64]
 exact ⟨Int.emod_nonneg _ (by decide),by have:=Int.emod_lt_of_pos x (by decide:(0:Int)<18446744073709551616);omega⟩
theorem beI_wrap (s:Nat) (x:Int) (hs:s≤8):beI s (IntKind.u64.wrap x)=beI s x:=by
 rw [IntKind.wrap_u64]
 unfold beI
 refine List.map_congr_left fun i hi=>?_
 have hi':i<s:=List.mem_range.1 hi
 congr 2
 have e:(18446744073709551616:Int)=2^(8*(s-1-i))*(256*2^(8*(7-(s-1-i)))):=by
  rw [show (256:Int)=2^8 from rfl,← Int.pow_add,← Int.pow_add,show 8*(s-1-i)+(8+8*(7-(s-1-i)))=64 from by omega];rfl
 rw [e]
 have hA:(2:Int)^(8*(s-1-i))≠0:=Int.ne_of_gt (Int.pow_pos (by decide))
 generalize (2:Int)^(8*(s-1-i))=A at *
 generalize (2:Int)^(8*(7-(s-1-i)))=B
 conv=>rhs;rw [← Int.emod_add_mul_ediv x (A*(256*B)),Int.mul_assoc A,Int.mul_assoc 256,Int.add_mul_ediv_left _ _ hA,Int.add_mul_emod_self_left]
theorem put_any (base p s:Nat) (bs:List UInt8) (x si:Int) (w:World) (hW:Wr w base p bs) (_hx0:0≤x) (_hx1:x≤18446744073709551615) (hsi:si=s) (hs:s≤8) (hn:bs.length≤1099511627776):
  Calls Tryz.prog 83 #[.pointer (some ⟨p,0,none⟩),.int .u64 x,.int .i64 si] w fun e w'=>e=.returned (.tuple #[])∧Wr w' base p (bs++beI s x)∧Keep (fun b=>b<base) w w':=by
 subst hsi
 go_enter Tryz.func83,Tryz.ntmps83
 go_wp2_with fail
 go_loopw [6] (fun i wx=>∃ k:Nat,k≤s∧i=.int .i64 ((k:Int)-1)∧Wr wx base p (bs++(beI s x).take (s-k))∧Keep (fun b=>b<base) w wx) (fun i _=>(intOf i+1).toNat)
 case atStart=>exact ⟨s,Nat.le_refl _,rfl,by simpa using hW,Keep.refl _ _⟩
 case round =>
  clear hW
  obtain ⟨k,hk,rfl,hW,hK⟩:=hrel
  rcases k with _|k
  ·rw [show (((0:Nat):Int)-1) = -1 from rfl]
   rw [Nat.sub_zero,List.take_of_length_le (by rw [beI_length];exact Nat.le_refl _)] at hW
   go_wp2_with fail
   go_end0
   exact ⟨rfl,hW,hK⟩
  ·rw [show (((k+1:Nat):Int)-1)=(k:Int) from by omega]
   have HT:=Lib.hid (beI_take s k x (by omega))
   have hk8:k<8:=by omega
   have hl0:(List.take (s-(k+1)) (beI s x)).length≤8:=Nat.le_trans (List.length_take_le _ _) (by omega)
   generalize List.take (s-(k+1)) (beI s x)=pre at hW HT hl0
   obtain ⟨A1,c1,hc,hown,hne⟩:=hW.row
   have hf:=hW.free
   have hpb:=hW.hp
   have hplt:=hW.lt
   have hne':=Ne.symm hne
   have hsz:base≤wr.heap.size:=Nat.le_trans hpb (Nat.le_of_lt hplt)
   have hbd:(bs++pre).length+1≤140737488355328:=by rw [List.length_append];omega
   have HW:=Lib.hid hW
   clear hW
   generalize (bs++pre).length=m at *
   have q1:IntKind.i64.wrap (8*(k:Int))=8*(k:Int):=IntWalk.i64_in _ (by omega)
   have hb1:=bs_one wr 5 _ (.int .u8 (IntKind.u8.wrap (x/2^(8*k)))) ((byteVal_mod (x/2^(8*k))).trans (by rw [IntKind.wrap_u8]))
   have cka:=(World.cell?_alloc_lt wr (.cells #[.int .u8 (IntKind.u8.wrap (x/2^(8*k)))] 5) ⟨p,0,none⟩ hplt).trans hc
   have ffa:=(((New.refl wr).alloc (.cells #[.int .u8 (IntKind.u8.wrap (x/2^(8*k)))] 5)).frozen (p:=⟨p,0,none⟩) hplt trivial).trans hf
   have hpl1:p<(wr.alloc (.cells #[.int .u8 (IntKind.u8.wrap (x/2^(8*k)))] 5)).heap.size:=Nat.lt_of_lt_of_le hplt (by simp)
   have hown1:=hown.alloc (.cells #[.int .u8 (IntKind.u8.wrap (x/2^(8*k)))] 5)
   have q2:(8*(k:Int)).toNat=8*k:=by omega
   have q3:0≤8*(k:Int):=by omega
   go_wp2_with fail
   go_region_law (refine step_bytes _ rfl (.tmp 17) (.tmp 23) rfl base A1 m c1 _ (by simp [Act.eval]) hown1 (fun g=>wr.heap.size≤g) _ 1 1 _ (by simp [Act.eval]) hb1 hbd (Nat.le_trans hsz (by simp)) ?_;intro A3 c3 w3 hown3 hg3 hbk3;have cc:=hg3.cell (a:=⟨p,0,none⟩) cka hne';have ff:=(hg3.frozen_far ⟨p,0,none⟩ hpl1 hne').trans ffa)
   all_goals
    replace hg3:=undrew hg3
    have hW3:=(HW.out.keep ((New.refl wr).alloc (.cells #[.int .u8 (IntKind.u8.wrap (x/2^(8*k)))] 5)) (fun _ _=>trivial)).put hown3 hg3 hbk3 hne ⟨_,cc⟩
    have hK3:Keep (fun b=>b<base) w (w3.setCell ⟨p,0,none⟩ (.slice A3 (m+1) c3)):=((hK.alloc (.cells #[.int .u8 (IntKind.u8.wrap (x/2^(8*k)))] 5)).grown hg3 (fun k hk hd=>absurd hd (by have:=own_lt hown k hk;omega))).setCell (p:=⟨p,0,none⟩) (fun hb=>absurd hb (Nat.not_lt.2 hpb)) _
    clear hown3 hg3 hbk3 cc ff hK hown hown1 cka ffa hb1 hc HW
    go_wp2_with fail
    go_roundw
    case rel=>exact ⟨k,by omega,rfl,by rw [HT.out,← List.append_assoc];exact hW3,hK3⟩
    case measure=>simp [intOf]
theorem wbyte_any (base p:Nat) (bs:List UInt8) (x:Int) (w:World) (hW:Wr w base p bs) (hn:bs.length≤1099511627776):
  Calls Tryz.prog 48 #[.pointer (some ⟨p,0,none⟩),.int .i64 x] w fun e w'=>e=.returned (.tuple #[])∧Wr w' base p (bs++beI 1 x)∧Keep (fun b=>b<base) w w':=by
 have hr:=wrap_u64_bd x
 have he:=Lib.hid (beI_wrap 1 x (by decide))
 go_enter Tryz.func48,Tryz.ntmps48
 go_wp2_with fail
 refine (put_any base p 1 bs _ _ w hW hr.1 hr.2 rfl (by decide) hn).mono ?_
 rintro e w1 ⟨rfl,hW1,hK1⟩
 rw [he.out] at hW1
 go_wp2_with fail
 go_end0
 exact ⟨rfl,hW1,hK1⟩
theorem wshort_any (base p:Nat) (bs:List UInt8) (x:Int) (w:World) (hW:Wr w base p bs) (hn:bs.length≤1099511627776):
  Calls Tryz.prog 51 #[.pointer (some ⟨p,0,none⟩),.int .i64 x] w fun e w'=>e=.returned (.tuple #[])∧Wr w' base p (bs++beI 2 x)∧Keep (fun b=>b<base) w w':=by
 have hr:=wrap_u64_bd x
 have he:=Lib.hid (beI_wrap 2 x (by decide))
 go_enter Tryz.func51,Tryz.ntmps51
 go_wp2_with fail
 refine (put_any base p 2 bs _ _ w hW hr.1 hr.2 rfl (by decide) hn).mono ?_
 rintro e w1 ⟨rfl,hW1,hK1⟩
 rw [he.out] at hW1
 go_wp2_with fail
 go_end0
 exact ⟨rfl,hW1,hK1⟩
theorem wlong_any (base p:Nat) (bs:List UInt8) (x:Int) (w:World) (hW:Wr w base p bs) (hx0:0≤x) (hx1:x≤18446744073709551615) (hn:bs.length≤1099511627776):
  Calls Tryz.prog 106 #[.pointer (some ⟨p,0,none⟩),.int .u64 x] w fun e w'=>e=.returned (.tuple #[])∧Wr w' base p (bs++beI 8 x)∧Keep (fun b=>b<base) w w':=by
 go_enter Tryz.func106,Tryz.ntmps106
 go_wp2_with fail
 refine (put_any base p 8 bs _ _ w hW hx0 hx1 rfl (by decide) hn).mono ?_
 rintro e w1 ⟨rfl,hW1,hK1⟩
 go_wp2_with fail
 go_end0
 exact ⟨rfl,hW1,hK1⟩
def lenBytes (bs:List UInt8):List UInt8:=beI 2 (min bs.length 65535:Nat)++bs.take 65535
theorem lenBytes_long (bs:List UInt8) (h:65535<bs.length):lenBytes bs=beI 2 65535++bs.take 65535:=by
 unfold lenBytes
 have e:((min bs.length 65535:Nat):Int)=65535:=by omega
 rw [e]
theorem wbytes_any (base p:Nat) (D:Nat→Prop) (A:Option Addr) (n c:Nat) (bs bs2:List UInt8) (w:World) (hW:Wr w base p bs) (hB:Bs w D A n bs2) (hD:∀ b,D b→b<base) (hnc:n≤c) (hc:n≤9223372036854775807) (hn:bs.length+65537≤1099511627776):
  Calls Tryz.prog 49 #[.pointer (some ⟨p,0,none⟩),.slice A n c] w fun e w'=>e=.returned (.tuple #[])∧Wr w' base p (bs++lenBytes bs2)∧Keep (fun b=>b<base) w w':=by
 have hl:=hB.len
 have hl0:bs.length≤1099511627776:=by omega
 by_cases hgt:65535<n
 ·have hgt':(65535:Int)<n:=by omega
  have hm:=Bs.cutTo hB (hi:=65535) (by omega)
  have HE:Hid (lenBytes bs2=beI 2 65535++bs2.take 65535):=Lib.hid (lenBytes_long bs2 (by omega))
  have hlm:(bs++beI 2 65535).length+65535≤1099511627776:=by rw [List.length_append,beI_length];omega
  clear hl hB
  go_enter Tryz.func49,Tryz.ntmps49
  go_wp2_with fail
  refine (wshort_any base p bs 65535 w hW hl0).mono ?_
  rintro e w1 ⟨rfl,hW1,hK1⟩
  go_wp2_with fail
  refine (raw_any base p D A 65535 c _ _ w1 hW1 (hm.keep hK1 (fun b _ h=>hD b h)) hlm).mono ?_
  rintro e w2 ⟨rfl,hW2,hK2⟩
  go_wp2_with fail
  go_end0
  exact ⟨rfl,by rw [HE.out,← List.append_assoc];exact hW2,hK1.trans hK2⟩
 ·have hgt':¬ (65535:Int)<n:=by omega
  have HE:Hid (lenBytes bs2=beI 2 (n:Int)++bs2):=Lib.hid (by unfold lenBytes;rw [hl,Nat.min_eq_left (by omega),List.take_of_length_le (by omega)])
  have hlm:(bs++beI 2 (n:Int)).length+n≤1099511627776:=by rw [List.length_append,beI_length];omega
  clear hl
  go_enter Tryz.func49,Tryz.ntmps49
  go_wp2_with fail
  refine (wshort_any base p bs n w hW hl0).mono ?_
  rintro e w1 ⟨rfl,hW1,hK1⟩
  go_wp2_with fail
  refine (raw_any base p D A n c _ _ w1 hW1 (hB.keep hK1 (fun b _ h=>hD b h)) hlm).mono ?_
  rintro e w2 ⟨rfl,hW2,hK2⟩
  go_wp2_with fail
  go_end0
  exact ⟨rfl,by rw [HE.out,← List.append_assoc];exact hW2,hK1.trans hK2⟩
end Go.Proofs.YtdodbdednpnddaaGreatDoor
