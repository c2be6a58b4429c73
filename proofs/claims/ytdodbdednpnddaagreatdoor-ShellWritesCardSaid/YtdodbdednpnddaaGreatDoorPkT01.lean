/-
  PROVED HERE: what the program's block function of SHA-256 does; no condition.
-/
import Derived.BigQuiet
import Derived.BigRegion
import Derived.Test.YtdodbdednpnddaaGreatDoorPkT00
set_option maxRecDepth 100000
namespace Go.Proofs.YtdodbdednpnddaaGreatDoor
open Go.RowKit
theorem load_any (D:Nat→Prop) (A:Option Addr) (n c:Nat) (bs:List UInt8) (w:World) (hB:Bs w D A n bs) (h4:4≤n) (hn:n≤9223372036854775807):
  Calls Tryz.prog 306 #[.slice A n c] w fun e w'=>e=.returned (.int .u32 (wv (wordAt bs 0)))∧w=w':=by
 have hl:=hB.len
 obtain ⟨b,off,rfl,_,_,hc⟩:=hB.cellAt (by omega)
 have c0:=hc 0 (by omega)
 have c1:=hc 1 (by omega)
 have c2:=hc 2 (by omega)
 have c3:=hc 3 (by omega)
 rw [Nat.add_zero] at c0
 have hw:wordAt bs 0=word4 (bs[0]'(by omega)) (bs[1]'(by omega)) (bs[2]'(by omega)) (bs[3]'(by omega)):=by
  unfold wordAt;simp [List.getD_eq_getElem?_getD,hl,show 0<n by omega,show 1<n by omega,show 2<n by omega,show 3<n by omega]
 rw [hw,← word4_rev]
 generalize bs[0]'_=x0 at *
 generalize bs[1]'_=x1 at *
 generalize bs[2]'_=x2 at *
 generalize bs[3]'_=x3 at *
 clear hc hB hl hw
 have e3:((n:Int)==3)=false:=by simp;omega
 have e2:((n:Int)==2)=false:=by simp;omega
 have e1:((n:Int)==1)=false:=by simp;omega
 have e0:((n:Int)==0)=false:=by simp;omega
 go_enter Tryz.func306,Tryz.ntmps306
 go_wp2
 go_ret
 exact ⟨rfl,rfl⟩
theorem turn_any (p o q r:Nat) (D:Nat→Prop) (A:Option Addr) (c:Nat) (bs:List UInt8) (s:Nat→BitVec 32) (w:World) (hB:Bs w D A 64 bs) (hc:64≤c) (hs:W32s w p o 8 s) (hkq:W32s w q r 64 kAt):
  Calls Tryz.prog 272 #[.pointer (some ⟨p,o,none⟩),.slice A 64 c,.pointer (some ⟨q,r,none⟩)] w fun e w'=>e=.returned (.tuple #[])∧W32s w' p o 8 (compress s bs) ∧
   Keep (fun b=>b≠p) w w'∧(∀ j,j<o∨o+8≤j→w'.cell? ⟨p,j,none⟩=w.cell? ⟨p,j,none⟩)∧(∀ j,w'.frozen? ⟨p,j,none⟩=w.frozen? ⟨p,j,none⟩):=by
 go_enter Tryz.func272,Tryz.ntmps272
 go_wp2
 generalize hW0:w.alloc _=W0
 have hz:W32s W0 w.heap.size 0 64 (fun _=>0#32):=by rw [← hW0];exact W32s.zero w _ 64
 have hK0:New w W0:=by rw [← hW0];exact (New.refl w).alloc _
 clear hW0
 obtain ⟨g,hg,hgs⟩:∃ g,g=w.heap.size∧w.heap.size≤g:=⟨_,rfl,Nat.le_refl _⟩
 rw [← hg] at hz ⊢
 clear hg
 have hl:=hB.len
 go_loopw [26] (fun i wr=>∃ k:Nat,k≤16∧i=.int .i64 k∧New w wr∧W32s wr g 0 64 (fun j=>if j<k then wordAt bs j else 0#32)) (fun i _=>16-(intOf i).toNat)
 case atStart=>exact ⟨0,Nat.zero_le _,rfl,hK0,hz.congr (fun j _=>by simp)⟩
 case round =>
  obtain ⟨k,hk,rfl,hKr,hWr⟩:=hrel
  by_cases hlt:k<16
  ·have hcut:=Bs.from_ (hB.new hKr) (l:=k*4) (by omega)
   have he:wordAt (bs.drop (k*4)) 0=wordAt bs k:=by
    unfold wordAt;simp only [List.getD_eq_getElem?_getD,List.getElem?_drop,Nat.mul_comm k 4,Nat.mul_zero,Nat.add_zero,Nat.zero_add]
   have HE:=Lib.hid he
   clear he
   have hcl:=hWr.cell0 (j:=k) (by omega)
   have hfl:=hWr.free0 (j:=k) (by omega)
   go_wp2_with fail
   refine (load_any D _ _ _ _ _ hcut (by omega) (by omega)).mono ?_
   rintro e w' ⟨rfl,rfl⟩
   rw [HE.out]
   go_wp2
   go_roundw
   case rel =>
    refine ⟨k+1,by omega,by go_num,hKr.setCell (fun _=>hgs) _,(hWr.set0 (k:=k) (by omega) (wordAt bs k)).congr fun j _=>?_⟩
    by_cases h1:j=k
    ·subst h1;simp
    ·simp only [h1,if_false];by_cases h2:j<k
     ·rw [if_pos h2,if_pos (by omega)]
     ·rw [if_neg h2,if_neg (by omega)]
   case measure=>simp [intOf];omega
  ·obtain rfl:k=16:=by omega
   rw [show ((16:Nat):Int)=16 from rfl]
   clear hlt hz hK0
   have hWr':W32s wr g 0 64 (fun j=>if j<16 then wordAt bs j else 0#32):=hWr
   clear hWr
   go_wp2_with fail
   go_loopw [8] (fun i ws=>∃ k:Nat,16≤k∧k≤64∧i=.int .i64 k∧New w ws∧∃ f,W32s ws g 0 64 f∧∀ j,j<k→f j=sched bs j) (fun i _=>64-(intOf i).toNat)
   case atStart=>exact ⟨16,by omega,by omega,rfl,hKr,_,hWr',fun j hj=>by rw [if_pos hj,sched_lt bs hj]⟩
   case round =>
    clear hWr' hKr
    obtain ⟨k,hk1,hk2,rfl,hKr,f,hWr,hf⟩:=hrel
    by_cases hlt:k<64
    ·have c15:=hWr.cell0 (j:=k-15) (by omega)
     have c2:=hWr.cell0 (j:=k-2) (by omega)
     have c16:=hWr.cell0 (j:=k-16) (by omega)
     have c7:=hWr.cell0 (j:=k-7) (by omega)
     have ck:=hWr.cell0 (j:=k) (by omega)
     have fk:=hWr.free0 (j:=k) (by omega)
     go_wp2_with fail
     go_quiet (fail)
     go_wp2_with (first|(go_at_call 307;(first|(with_reducible refine (rot7 _ _).mono ?_)|(with_reducible refine (rot18 _ _).mono ?_)|(with_reducible refine (rot17 _ _).mono ?_)|(with_reducible refine (rot19 _ _).mono ?_));rintro e w' ⟨rfl,rfl⟩))
     go_region
     have hset:=(hWr.drewN (nq+1)).set0 (k:=k) (by omega) (f (k-16)+(rotr (f (k-15)) 7 ^^^ rotr (f (k-15)) 18 ^^^ f (k-15) >>> 3)+f (k-7)+(rotr (f (k-2)) 17 ^^^ rotr (f (k-2)) 19 ^^^ f (k-2) >>> 10))
     clear c15 c2 c16 c7 ck fk
     go_wp2
     go_roundw
     case rel =>
      refine ⟨k+1,by omega,by omega,by go_num,(hKr.drewN _).setCell (fun _=>hgs) _,_,hset,fun j hj=>?_⟩
      by_cases h1:j=k
      ·subst h1
       rw [if_pos rfl,sched_ge bs hk1,hf _ (by omega),hf _ (by omega),hf _ (by omega),hf _ (by omega)];rfl
      ·rw [if_neg h1];exact hf j (by omega)
     case measure=>simp [intOf];omega
    ·obtain rfl:k=64:=by omega
     have hf':∀ j,j<64→f j=sched bs j:=hf
     replace hWr:W32s wr g 0 64 (sched bs):=hWr.congr hf'
     clear hf hf' hlt hk1 hk2
     have hp:=hs.lt (by decide)
     have hq:=hkq.lt (by decide)
     have hs':=hs.keep hKr trivial
     have hk':=hkq.keep hKr trivial
     have s0:=hs'.cell (j:=0) (by omega)
     have s1:=hs'.cell (j:=1) (by omega)
     have s2:=hs'.cell (j:=2) (by omega)
     have s3:=hs'.cell (j:=3) (by omega)
     have s4:=hs'.cell (j:=4) (by omega)
     have s5:=hs'.cell (j:=5) (by omega)
     have s6:=hs'.cell (j:=6) (by omega)
     have s7:=hs'.cell (j:=7) (by omega)
     rw [Nat.add_zero] at s0
     rw [show ((64:Nat):Int)=64 from rfl]
     go_wp2_with fail
     go_quiet (fail)
     clear s0 s1 s2 s3 s4 s5 s6 s7
     go_wp2_with fail
     go_loopw [13,14,15,16,17,18,19,20,112] (fun a b c d e f g' h i ws=>∃ k:Nat,k≤64∧i=.int .i64 k∧New w ws∧W32s ws g 0 64 (sched bs)∧W32s ws q r 64 kAt∧W32s ws p o 8 s∧∃ S:S8,S=(S8.of s).rounds bs k∧a=.int .u32 (wv S.a)∧b=.int .u32 (wv S.b)∧c=.int .u32 (wv S.c)∧d=.int .u32 (wv S.d)∧e=.int .u32 (wv S.e)∧f=.int .u32 (wv S.f)∧g'=.int .u32 (wv S.g)∧h=.int .u32 (wv S.h)) (fun _ _ _ _ _ _ _ _ i _=>64-(intOf i).toNat)
     case atStart=>exact ⟨0,by omega,rfl,hKr.drewN _,hWr,hk',hs',S8.of s,rfl,rfl,rfl,rfl,rfl,rfl,rfl,rfl,rfl⟩
     case round =>
      clear hKr hWr hk' hs'
      obtain ⟨k,hk,rfl,hKr,hWr,hk',hs',S,hS,rfl,rfl,rfl,rfl,rfl,rfl,rfl,rfl⟩:=hrel
      have HS:=Lib.hid hS
      clear hS
      by_cases hlt:k<64
      ·have cw:=hWr.cell0 (j:=k) (by omega)
       have ck:=hk'.cell (j:=k) (by omega)
       go_wp2_with fail
       go_quiet ((go_at_call 307;exact quiet_left (by with_reducible first|exact (rot6 _ _)|exact (rot11 _ _)|exact (rot25 _ _))))
       clear cw ck
       go_wp2_with (first|(go_at_call 307;(first|(with_reducible refine (rot2 _ _).mono ?_)|(with_reducible refine (rot13 _ _).mono ?_)|(with_reducible refine (rot22 _ _).mono ?_));rintro e w' ⟨rfl,rfl⟩))
       go_roundw
       case rel =>
        exact ⟨k+1,by omega,by go_num,hKr.drewN _,hWr.drewN _,hk'.drewN _,hs'.drewN _,S.round (kAt k) (sched bs k),by rw [HS.out];rfl,rfl,rfl,rfl,rfl,rfl,rfl,rfl,rfl⟩
       case measure=>simp [intOf];omega
      ·obtain rfl:k=64:=by omega
       rw [show ((64:Nat):Int)=64 from rfl]
       clear hlt hWr hk'
       go_wp2_with fail
       generalize hW1:wr.alloc _=W1
       have hm:W32s W1 wr.heap.size 0 8 S.get:=by rw [← hW1];exact S8.made8 wr _ S
       have hK1:New w W1:=by rw [← hW1];exact hKr.alloc _
       have hs1:W32s W1 p o 8 s:=by rw [← hW1];exact hs'.keep ((New.refl wr).alloc _) trivial
       have hge:w.heap.size≤wr.heap.size:=hKr.size
       clear hW1 hs' hKr
       generalize wr.heap.size=h at hm hge ⊢
       have hph:p≠h:=by omega
       go_loopw [187] (fun i ws=>∃ k:Nat,k≤8∧i=.int .i64 k∧Keep (fun b=>b≠p) w ws∧W32s ws h 0 8 S.get∧W32s ws p o 8 (fun j=>if j<k then s j+S.get j else s j)∧(∀ j,j<o∨o+8≤j→ws.cell? ⟨p,j,none⟩=w.cell? ⟨p,j,none⟩)∧∀ j,ws.frozen? ⟨p,j,none⟩=w.frozen? ⟨p,j,none⟩) (fun i _=>8-(intOf i).toNat)
       case atStart=>exact ⟨0,by omega,rfl,Keep.of_new hK1,hm,hs1.congr (fun j _=>by simp),fun j _=>hK1.cell hp trivial,fun j=>hK1.frozen hp trivial⟩
       case round =>
        clear hm hK1 hs1
        obtain ⟨k,hk,rfl,hKr,hm,hs',hout,hfr⟩:=hrel
        by_cases hlt:k<8
        ·have cn:=hm.cell0 (j:=k) (by omega)
         have cs:=hs'.cell (j:=k) (by omega)
         have fs:=hs'.free (j:=k) (by omega)
         have hm':=(hm.drewN 1).far (p:=⟨p,o+k,none⟩) (.inl hph) (.int .u32 (wv (s k+S.get k)))
         have hset:=(hs'.drewN 1).set (k:=k) hlt (s k+S.get k)
         rw [if_neg (Nat.lt_irrefl k)] at cs
         go_wp2_with fail
         have HO:=Lib.hid hout
         have HF:=Lib.hid hfr
         clear hout hfr hm
         go_region
         clear cn cs fs
         go_wp2
         go_roundw
         case rel =>
          refine ⟨k+1,by omega,by go_num,(hKr.drew).setCell (fun hb=>absurd rfl hb) _,?_,hset.congr fun j _=>?_,fun j hj=>?_,fun j=>?_⟩
          ·exact hm'
          ·by_cases h1:j=k
           ·subst h1;rw [if_pos rfl,if_pos (by omega)]
           ·rw [if_neg h1];by_cases h2:j<k
            ·rw [if_pos h2,if_pos (by omega)]
            ·rw [if_neg h2,if_neg (by omega)]
          ·exact (World.cell?_setCell_other wr _ _ _ (by intro hh;injection hh;omega)).trans (HO.out j hj)
          ·exact (World.frozen?_setCell wr _ _ _).trans (HF.out j)
         case measure=>simp [intOf];omega
        ·obtain rfl:k=8:=by omega
         go_wp2
         go_end0
         refine ⟨rfl,hs'.congr fun j hj=>?_,hKr,hout,hfr⟩
         rw [if_pos hj,HS.out];rfl
end Go.Proofs.YtdodbdednpnddaaGreatDoor
