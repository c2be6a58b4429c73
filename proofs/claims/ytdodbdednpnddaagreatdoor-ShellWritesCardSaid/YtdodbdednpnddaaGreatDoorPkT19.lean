/-
  PROVED HERE: what codec.Reader's methods answer, and in which blocks the bytes that are left lie; what End answers; condition: fewer than 2^40 bytes.
-/
import Derived.Test.YtdodbdednpnddaaGreatDoorPkT08
set_option maxRecDepth 100000
namespace Go.Proofs.YtdodbdednpnddaaGreatDoor
open Go.RowKit
structure RdD (D:Nat→Prop) (w:World) (p:Nat) (s:RdS):Prop where
 row:∃ A m c,w.cell? ⟨p,0,none⟩=some (.slice A m c)∧m≤c∧c≤9223372036854775807∧Bs w (fun b=>D b∧b≠p) A m s.bs
 why:w.cell? ⟨p,1,none⟩=some (.int .i64 s.why)
 free0:w.frozen? ⟨p,0,none⟩=false
 free1:w.frozen? ⟨p,1,none⟩=false
 bound:s.bs.length≤1099511627776
theorem RdD.lt {D:Nat→Prop}{w:World}{p:Nat}{s:RdS}(h:RdD D w p s):p<w.heap.size:=World.block_lt_of_cell? w _ h.why
theorem RdD.keep {D:Nat→Prop}{w w':World}{p:Nat}{s:RdS}(h:RdD D w p s) (hk:New w w'):RdD D w' p s:=by
 obtain ⟨A,m,c,h1,h2,h3,h4⟩:=h.row
 exact ⟨⟨A,m,c,hk.cell_some h1 trivial,h2,h3,h4.new hk⟩,hk.cell_some h.why trivial,(hk.frozen (p:=⟨p,0,none⟩) h.lt trivial).trans h.free0,(hk.frozen (p:=⟨p,1,none⟩) h.lt trivial).trans h.free1,h.bound⟩
theorem newReaderD_any (D:Nat→Prop) (A:Option Addr) (n c:Nat) (bs:List UInt8) (w:World) (hB:Bs w D A n bs) (hn:n≤1099511627776):
  Calls Tryz.prog 35 #[.slice A n c] w fun e w'=>(∃ p,e=.returned (.pointer (some ⟨p,0,none⟩))∧w.heap.size≤p∧RdD (fun b=>b<p) w' p ⟨bs,0⟩)∧New w w':=by
 have hl:=hB.len
 have HC:=Lib.hid (clone_bytes D A n c bs w hB (by omega))
 clear hB
 go_enter Tryz.func35,Tryz.ntmps35
 go_wp2_with fail
 refine HC.out.mono ?_
 rintro e w1 ⟨⟨A1,c1,rfl,hown⟩,hK1⟩
 go_wp2_with fail
 go_ret
 have hh:=heap_alloc_new w1 (.cells #[.slice A1 n c1,.int .i64 0] 117)
 refine ⟨⟨w1.heap.size,rfl,hK1.size,⟨⟨A1,n,c1,cellOf hh rfl,own_cap hown,own_capMax hown,?_⟩,cellOf hh rfl,free_new w1 _ _ _,free_new w1 _ _ _,by show bs.length≤_;omega⟩⟩,hK1.alloc _⟩
 exact ((Row.of_own hown).imp (E:=fun b=>b<w1.heap.size∧b≠w1.heap.size) (fun b hb _=>⟨hb,Nat.ne_of_lt hb⟩)).alloc _
theorem RdD.setWhy {D:Nat→Prop}{w:World}{p:Nat}{s:RdS}(h:RdD D w p s) (y:Int):RdD D (w.setCell ⟨p,1,none⟩ (.int .i64 y)) p ⟨s.bs,y⟩:=by
 obtain ⟨A,m,c,h1,h2,h3,h4⟩:=h.row
 refine ⟨⟨A,m,c,?_,h2,h3,h4.setCell (p:=⟨p,1,none⟩) (fun h=>h.2 rfl) _⟩,World.cell?_setCell_same _ _ _ h.why,setCell_free h.free0,setCell_free h.free1,h.bound⟩
 rw [World.cell?_setCell_other _ _ _ _ (by intro hh;injection hh;omega)];exact h1
theorem RdD.setRow {D:Nat→Prop}{w:World}{p:Nat}{s:RdS}(h:RdD D w p s){A:Option Addr}{m c:Nat}{bs:List UInt8}(hB:Bs w (fun b=>D b∧b≠p) A m bs) (hmc:m≤c) (hc:c≤9223372036854775807) (hb:bs.length≤1099511627776):
  RdD D (w.setCell ⟨p,0,none⟩ (.slice A m c)) p ⟨bs,s.why⟩:=by
 obtain ⟨A1,m1,c1,h1,_⟩:=h.row
 refine ⟨⟨A,m,c,World.cell?_setCell_same _ _ _ h1,hmc,hc,hB.setCell (p:=⟨p,0,none⟩) (fun h=>h.2 rfl) _⟩,?_,setCell_free h.free0,setCell_free h.free1,hb⟩
 rw [World.cell?_setCell_other _ _ _ _ (by intro hh;injection hh;omega)];exact h.why
theorem rrawD_any (D:Nat→Prop) (p:Nat) (s:RdS) (n:Int) (w:World) (hR:RdD D w p s):
  Calls Tryz.prog 102 #[.pointer (some ⟨p,0,none⟩),.int .i64 n] w fun e w' =>
   (∃ A' c',e=.returned (.slice A' (s.raw n).1.length c')∧OwnB w' w.heap.size 5 A' (s.raw n).1.length c' (s.raw n).1)∧RdD D w' p (s.raw n).2∧Keep (fun b=>b≠p) w w':=by
 obtain ⟨A,m,c,hc0,hmc,hc9,hB⟩:=hR.row
 have hc1:=hR.why
 have hf0:=hR.free0
 have hf1:=hR.free1
 have hlb:=hR.bound
 have hl:=hB.len
 have HR:=Lib.hid hR
 clear hR
 by_cases hw:s.why=0
 ·by_cases hn:(m:Int)<n
  ·rw [s.raw_end n hw (by omega)]
   have h1:=HR.out.setWhy 10
   have hK:=(Keep.refl (fun b=>b≠p) w).setCell (p:=⟨p,1,none⟩) (fun h=>absurd rfl h) (.int .i64 10)
   rw [hw] at hc1
   clear hw hl hB
   go_enter Tryz.func102,Tryz.ntmps102
   go_wp2_with fail
   go_ret
   exact ⟨⟨none,0,rfl,Own.nil _ _ _ _⟩,h1,hK⟩
  ·by_cases hn1:n<1
   ·rw [s.raw_none n (.inr hn1)]
    rw [hw] at hc1
    clear hw hl hB
    go_enter Tryz.func102,Tryz.ntmps102
    go_wp2_with fail
    go_ret
    exact ⟨⟨none,0,rfl,Own.nil _ _ _ _⟩,HR.out,Keep.refl _ _⟩
   ·obtain ⟨k,rfl⟩:=Int.eq_ofNat_of_zero_le (by omega:0≤n)
    rw [s.raw_some k hw (by omega) (by omega),Int.toNat_natCast]
    have hkm:k≤m:=by omega
    have hmb:m≤1099511627776:=by omega
    have hplt:=HR.out.lt
    have hk1:1≤k:=by omega
    have hkc:(k:Int)≤c:=by omega
    have HL:Hid ((s.bs.take k).length=k):=Lib.hid (by rw [List.length_take];omega)
    have HLD:Hid ((s.bs.drop k).length=m-k):=Lib.hid (by rw [List.length_drop];omega)
    rw [HL.out]
    have hcut:=hB.cutTo hkm
    have HCL:=Lib.hid (clone_bytes _ A k c _ w hcut (by omega))
    have hBD:=Bs.from_ hB hkm
    have HBD:=Lib.hid hBD
    have HW:=Lib.hid hw
    rw [hw] at hc1
    clear hw hl hB hcut hBD
    by_cases hck:c=k
    ·have hmk:m=k:=by omega
     subst hck
     subst hmk
     go_enter Tryz.func102,Tryz.ntmps102
     go_wp2_with fail
     refine HCL.out.mono ?_
     rintro e w1 ⟨⟨A1,c1,rfl,hown⟩,hK1⟩
     have d0:=hK1.cell_some hc0 trivial
     have g0:=(hK1.frozen (p:=⟨p,0,none⟩) HR.out.lt trivial).trans hf0
     go_wp2_with fail
     go_ret
     have hnil:s.bs.drop m=[]:=List.eq_nil_of_length_eq_zero (by rw [HLD.out];omega)
     have hr:=(HR.out.keep hK1).setRow (A:=A) (m:=0) (c:=0) (bs:=[]) (Row.nil _ _ _ _) (Nat.le_refl _) (by omega) (by simp)
     rw [HW.out] at hr
     rw [hnil]
     exact ⟨⟨A1,c1,rfl,own_set (p:=⟨p,0,none⟩) hown (fun e=>by have:=(own_lt hown p e).1;omega) _⟩,hr,(Keep.of_new hK1).setCell (p:=⟨p,0,none⟩) (fun h=>absurd rfl h) _⟩
    ·have hck':¬ c=k:=hck
     go_enter Tryz.func102,Tryz.ntmps102
     go_wp2_with fail
     refine HCL.out.mono ?_
     rintro e w1 ⟨⟨A1,c1,rfl,hown⟩,hK1⟩
     have d0:=hK1.cell_some hc0 trivial
     have g0:=(hK1.frozen (p:=⟨p,0,none⟩) HR.out.lt trivial).trans hf0
     go_wp2_with fail
     go_ret
     have hr:=(HR.out.keep hK1).setRow (c:=c-k) (HBD.out.new hK1) (by omega) (by omega) (by rw [HLD.out];omega)
     rw [HW.out] at hr
     exact ⟨⟨A1,c1,rfl,own_set (p:=⟨p,0,none⟩) hown (fun e=>by have:=(own_lt hown p e).1;omega) _⟩,hr,(Keep.of_new hK1).setCell (p:=⟨p,0,none⟩) (fun h=>absurd rfl h) _⟩
 ·rw [s.raw_none n (.inl hw)]
  have e0:(s.why==0)=false:=by simpa using hw
  have e1:(s.why !=0)=true:=by simpa using hw
  clear hw hl hB
  go_enter Tryz.func102,Tryz.ntmps102
  go_wp2_with fail
  go_ret
  exact ⟨⟨none,0,rfl,Own.nil _ _ _ _⟩,HR.out,Keep.refl _ _⟩
theorem getD_any (D:Nat→Prop) (p k:Nat) (s:RdS) (w:World) (hR:RdD D w p s) (hk:k≤8) (ki:Int) (hki:ki=k):
  Calls Tryz.prog 72 #[.pointer (some ⟨p,0,none⟩),.int .i64 ki] w fun e w'=>e=.returned (.int .u64 ((s.num k).1:Nat))∧RdD D w' p (s.num k).2∧Keep (fun b=>b≠p) w w':=by
 subst hki
 have hle:=(s.raw_le k).2.2
 unfold RdS.num
 dsimp only
 have HRW:=Lib.hid (rrawD_any D p s k w hR)
 clear hR
 generalize (s.raw k).1=x at *
 generalize (s.raw k).2=s' at *
 have hx8:x.length≤8:=by omega
 go_enter Tryz.func72,Tryz.ntmps72
 go_wp2_with fail
 refine HRW.out.mono ?_
 rintro e w1 ⟨⟨A1,c1,rfl,hown⟩,hR1,hK1⟩
 have hB:=Row.of_own hown
 clear hown
 go_wp2_with fail
 go_loop [5,12] (fun s5 i=>∃ j:Nat,j≤x.length∧i=.int .i64 (j:Int)∧s5=.int .u64 ((beNat (x.take j):Nat):Int)) (fun _ i=>x.length-(intOf i).toNat)
 case atStart=>exact ⟨0,Nat.zero_le _,rfl,rfl⟩
 case round =>
  obtain ⟨j,hj,rfl,rfl⟩:=hrel
  by_cases hlt:j<x.length
  ·obtain ⟨b,off,rfl,_,_,hc⟩:=Bs.cellAt (bs:=x) hB (by omega)
   have ck:=hc j hlt
   have HS:=Lib.hid (show beNat (x.take (j+1))=beNat (x.take j)*256+(x[j]).toNat from by rw [List.take_succ_eq_append_getElem hlt,beNat_snoc])
   have hsm:beNat (x.take j)<72057594037927936:=by
    refine Nat.lt_of_lt_of_le (beNat_lt _) ?_
    have h7:(x.take j).length≤7:=by rw [List.length_take];omega
    exact Nat.le_trans (Nat.pow_le_pow_right (by decide) h7) (by decide)
   have HO:=Lib.hid (beNat_shift (beNat (x.take j)) x[j] hsm)
   clear hc hB
   generalize x[j]=y at *
   generalize beNat (x.take j)=z at *
   go_wp2_with fail
   go_round
   case rel=>exact ⟨j+1,by omega,by go_num,by rw [bv_wrap64,HO.out,HS.out]⟩
   case measure=>simp [intOf];omega
  ·obtain rfl:j=x.length:=by omega
   rw [List.take_of_length_le (Nat.le_refl _)]
   go_wp2_with fail
   go_ret
   exact ⟨rfl,hR1,hK1⟩
theorem rbyteD_any (D:Nat→Prop) (p:Nat) (s:RdS) (w:World) (hR:RdD D w p s):
  Calls Tryz.prog 37 #[.pointer (some ⟨p,0,none⟩)] w fun e w'=>e=.returned (.int .i64 ((s.num 1).1:Nat))∧RdD D w' p (s.num 1).2∧Keep (fun b=>b≠p) w w':=by
 have hlt:=num_lt s 1
 have HG:=Lib.hid (getD_any D p 1 s w hR (by decide) 1 rfl)
 clear hR
 generalize (s.num 1).1=z at *
 generalize (s.num 1).2=s' at *
 have hw:=i64_small z (by omega)
 have HW:=Lib.hid hw
 clear hw
 go_enter Tryz.func37,Tryz.ntmps37
 go_wp2_with fail
 refine HG.out.mono ?_
 rintro e w1 ⟨rfl,hR1,hK1⟩
 go_wp2_with fail
 go_ret
 exact ⟨by first|rfl|(rw [← HW.out];rfl),hR1,hK1⟩
theorem rshortD_any (D:Nat→Prop) (p:Nat) (s:RdS) (w:World) (hR:RdD D w p s):
  Calls Tryz.prog 76 #[.pointer (some ⟨p,0,none⟩)] w fun e w'=>e=.returned (.int .i64 ((s.num 2).1:Nat))∧RdD D w' p (s.num 2).2∧Keep (fun b=>b≠p) w w':=by
 have hlt:=num_lt s 2
 have HG:=Lib.hid (getD_any D p 2 s w hR (by decide) 2 rfl)
 clear hR
 generalize (s.num 2).1=z at *
 generalize (s.num 2).2=s' at *
 have hw:=i64_small z (by omega)
 have HW:=Lib.hid hw
 clear hw
 go_enter Tryz.func76,Tryz.ntmps76
 go_wp2_with fail
 refine HG.out.mono ?_
 rintro e w1 ⟨rfl,hR1,hK1⟩
 go_wp2_with fail
 go_ret
 exact ⟨by first|rfl|(rw [← HW.out];rfl),hR1,hK1⟩
theorem rlongD_any (D:Nat→Prop) (p:Nat) (s:RdS) (w:World) (hR:RdD D w p s):
  Calls Tryz.prog 104 #[.pointer (some ⟨p,0,none⟩)] w fun e w'=>e=.returned (.int .u64 ((s.num 8).1:Nat))∧RdD D w' p (s.num 8).2∧Keep (fun b=>b≠p) w w':=by
 have HG:=Lib.hid (getD_any D p 8 s w hR (by decide) 8 rfl)
 clear hR
 generalize (s.num 8).1=z at *
 generalize (s.num 8).2=s' at *
 go_enter Tryz.func104,Tryz.ntmps104
 go_wp2_with fail
 refine HG.out.mono ?_
 rintro e w1 ⟨rfl,hR1,hK1⟩
 go_wp2_with fail
 go_ret
 exact ⟨rfl,hR1,hK1⟩
theorem rbytesD_any (D:Nat→Prop) (p:Nat) (s:RdS) (w:World) (hR:RdD D w p s):
  Calls Tryz.prog 74 #[.pointer (some ⟨p,0,none⟩)] w fun e w' =>
   (∃ A' c',e=.returned (.slice A' s.lenRow.1.length c')∧OwnB w' w.heap.size 5 A' s.lenRow.1.length c' s.lenRow.1)∧RdD D w' p s.lenRow.2∧Keep (fun b=>b≠p) w w':=by
 have HG:=Lib.hid (rshortD_any D p s w hR)
 have HL:Hid (s.lenRow=(s.num 2).2.raw (s.num 2).1):=Lib.hid rfl
 rw [HL.out]
 clear hR HL
 generalize (s.num 2).1=z at *
 generalize (s.num 2).2=s' at *
 have HR:=Lib.hid (rrawD_any D p s' z)
 generalize (s'.raw z).1=x at *
 generalize (s'.raw z).2=s2 at *
 go_enter Tryz.func74,Tryz.ntmps74
 go_wp2_with fail
 refine HG.out.mono ?_
 rintro e w1 ⟨rfl,hR1,hK1⟩
 go_wp2_with fail
 refine (HR.out w1 hR1).mono ?_
 rintro e w2 ⟨⟨A2,c2,rfl,hown2⟩,hR2,hK2⟩
 go_wp2_with fail
 go_ret
 exact ⟨⟨_,_,rfl,own_base hown2 hK1.size⟩,hR2,hK1.trans hK2⟩
theorem RdD.keepE {D E:Nat→Prop}{w w':World}{p:Nat}{s:RdS}(h:RdD D w p s) (hk:Keep E w w') (hp:E p) (hE:∀ b,b<w.heap.size→D b→E b):RdD D w' p s:=by
 obtain ⟨A,m,c,h1,h2,h3,h4⟩:=h.row
 exact ⟨⟨A,m,c,hk.cell_some h1 hp,h2,h3,h4.keep hk fun b hb hd=>hE b hb hd.1⟩,hk.cell_some h.why hp,(hk.frozen (p:=⟨p,0,none⟩) h.lt hp).trans h.free0,(hk.frozen (p:=⟨p,1,none⟩) h.lt hp).trans h.free1,h.bound⟩
def RdS.endOf (s:RdS):Int:=if s.why=0∧0<s.bs.length then 11 else s.why
theorem rend_any (D:Nat→Prop) (p:Nat) (s:RdS) (w:World) (hR:RdD D w p s):
  Calls Tryz.prog 77 #[.pointer (some ⟨p,0,none⟩)] w fun e w'=>e=.returned (.int .i64 s.endOf)∧w=w':=by
 obtain ⟨A,m,c,h1,h2,h3,h4⟩:=hR.row
 have hy:=hR.why
 have hl:=h4.len
 have HE:Hid (s.endOf=if s.why=0∧0<m then 11 else s.why):=Lib.hid (by unfold RdS.endOf;rw [hl])
 clear hR h4 hl
 by_cases h0:s.why=0
 ·rw [h0] at hy HE
  by_cases hm:(0:Int)<(m:Int)
  ·have HE2:Hid (s.endOf=11):=Lib.hid (by rw [HE.out,if_pos ⟨rfl,by omega⟩])
   have hm2:0<m:=by omega
   clear h0 HE
   go_enter Tryz.func77,Tryz.ntmps77
   go_wp2_with fail
   go_ret
   exact ⟨by rw [HE2.out];rfl,rfl⟩
  ·have HE2:Hid (s.endOf=0):=Lib.hid (by rw [HE.out,if_neg (fun h=>hm (by omega))])
   have hm2:¬ 0<m:=by omega
   clear h0 HE
   go_enter Tryz.func77,Tryz.ntmps77
   go_wp2_with fail
   go_ret
   exact ⟨by rw [HE2.out];rfl,rfl⟩
 ·have HE2:Hid (s.endOf=s.why):=Lib.hid (by rw [HE.out,if_neg (fun h=>h0 h.1)])
  have h0':(s.why==0)=false:=by simpa using h0
  clear HE
  generalize s.why=y at *
  generalize s.endOf=z at *
  clear h0
  go_enter Tryz.func77,Tryz.ntmps77
  go_wp2_with fail
  go_ret
  exact ⟨by rw [HE2.out];rfl,rfl⟩
end Go.Proofs.YtdodbdednpnddaaGreatDoor
