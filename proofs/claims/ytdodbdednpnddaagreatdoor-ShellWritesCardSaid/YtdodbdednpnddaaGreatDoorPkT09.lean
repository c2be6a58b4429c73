/-
  PROVED HERE: what segment.Build answers; conditions: lengths that a slice may have.
-/
import Derived.Test.YtdodbdednpnddaaGreatDoorPkT08
set_option maxRecDepth 100000
set_option maxHeartbeats 2000000
namespace Go.Proofs.YtdodbdednpnddaaGreatDoor
open Go.RowKit
def seqsFrom:Int→List RecP→Bool
 | _,[]=>true
 | s,r::rs=>decide (r.seq=s)&&seqsFrom (s+1) rs
theorem seqsFrom_iff:∀ (s:Int) (rs:List RecP),seqsFrom s rs=true↔∀ k (h:k<rs.length),rs[k].seq=s+k
 | s,[]=>by simp [seqsFrom]
 | s,r::rs=>by
  rw [seqsFrom,Bool.and_eq_true,decide_eq_true_eq,seqsFrom_iff (s+1) rs]
  constructor
  ·rintro ⟨h1,h2⟩ k hk
   rcases k with _|k
   ·simpa using h1
   ·have:=h2 k (by simpa using hk);simp only [List.getElem_cons_succ];omega
  ·intro h
   refine ⟨by have:=h 0 (by simp);rw [List.getElem_cons_zero] at this;simpa using this,fun k hk=>?_⟩
   have:=h (k+1) (by simpa using hk)
   simp only [List.getElem_cons_succ] at this;omega
def buildArgs (index first:Int) (n:Nat) (rs:List RecP):Bool:=decide (0≤index∧index≤65535∧first≤1099511627776∧n=32∧rs.length≠0∧rs.length≤fitsIn 942 rs)
def segHead (index first:Int) (prev:List UInt8) (rs:List RecP):List UInt8 :=
 beI 2 index++beI 8 first++beI 2 rs.length++beI 2 (leavesOf rs).flatten.length++prev++rootOf (leavesOf rs)
def segBytes (index first:Int) (prev:List UInt8) (rs:List RecP):List UInt8 :=
 segHead index first prev rs++be4 (crcSum (segHead index first prev rs))++(leavesOf rs).flatten++List.replicate (942-(leavesOf rs).flatten.length) 0
theorem recEnc_size (r:RecP) (h:recRight r=true):(recEnc r).length=recSize r:=by
 have:r.body.length≤900:=by unfold recRight at h;simp at h;omega
 rw [recEnc_length];unfold recSize;rw [if_pos h];omega
theorem fits_all:∀ (left:Nat) (rs:List RecP),rs.length≤fitsIn left rs→(∀ r∈rs,recRight r=true)∧(leavesOf rs).flatten.length≤left∧15*rs.length≤left
 | left,[],_=>⟨by simp,by simp [leavesOf],by simp⟩
 | left,r::rs,h=>by
  unfold fitsIn at h
  split at h
  ·rename_i hc
   obtain ⟨h1,h2,h3⟩:=fits_all (left-recSize r) rs (by simpa using h)
   have hs:=recEnc_size r hc.1
   have h15:15≤recSize r:=by unfold recSize;rw [if_pos hc.1];omega
   refine ⟨fun x hx=>?_,?_,?_⟩
   ·rcases List.mem_cons.1 hx with e|e
    ·rw [e];exact hc.1
    ·exact h1 x e
   ·have e:leavesOf (r::rs)=recEnc r::leavesOf rs:=by unfold leavesOf;rw [List.map_cons,if_pos hc.1]
    rw [e,List.flatten_cons,List.length_append,hs];omega
   ·simp only [List.length_cons];omega
  ·simp at h
theorem segHead_length (index first:Int) (prev:List UInt8) (rs:List RecP) (h:prev.length=32):(segHead index first prev rs).length=78:=by
 simp only [segHead,List.length_append,beI_length,rootOf_length,h]
theorem segBytes_length (index first:Int) (prev:List UInt8) (rs:List RecP) (h:prev.length=32) (hl:(leavesOf rs).flatten.length≤942):(segBytes index first prev rs).length=1024:=by
 simp only [segBytes,List.length_append,segHead_length index first prev rs h,be4,List.length_cons,List.length_nil,List.length_replicate];omega
theorem made_zero (n:Nat):(madeCells (Value.int .u8 0).cells n).toList=(List.replicate n (0:UInt8)).map byteVal:=by
 simp [madeCells,Value.cells,byteVal,bv]
 apply List.ext_getElem
 ·simp
 ·intro i h1 h2;simp [Nat.mod_one]
theorem build_args1 (_D D2:Nat→Prop) (index first:Int) (A A2:Option Addr) (n c m c2:Nat) (rs:List RecP) (w:World) (_hR:Recs w D2 A2 m rs) (_hm:m≤9223372036854775807) (h1:index<0):
  Calls Tryz.prog 193 #[.int .i64 index,.int .u64 first,.slice A n c,.slice A2 m c2] w fun e w'=>e=.returned (.tuple #[.slice none 0 0,.int .i64 1])∧New w w':=by
 clear _hR
 go_enter Tryz.func193,Tryz.ntmps193
 go_wp2_with fail
 go_ret2
 exact ⟨rfl,New.refl _⟩
theorem build_args2 (_D D2:Nat→Prop) (index first:Int) (A A2:Option Addr) (n c m c2:Nat) (rs:List RecP) (w:World) (_hR:Recs w D2 A2 m rs) (_hm:m≤9223372036854775807) (h1:¬ (index<0)) (h2:65535<index):
  Calls Tryz.prog 193 #[.int .i64 index,.int .u64 first,.slice A n c,.slice A2 m c2] w fun e w'=>e=.returned (.tuple #[.slice none 0 0,.int .i64 1])∧New w w':=by
 clear _hR
 go_enter Tryz.func193,Tryz.ntmps193
 go_wp2_with fail
 go_ret2
 exact ⟨rfl,New.refl _⟩
theorem build_args3 (_D D2:Nat→Prop) (index first:Int) (A A2:Option Addr) (n c m c2:Nat) (rs:List RecP) (w:World) (_hR:Recs w D2 A2 m rs) (_hm:m≤9223372036854775807) (h1:¬ (index<0)) (h2:¬ (65535<index)) (h3:1099511627776<first):
  Calls Tryz.prog 193 #[.int .i64 index,.int .u64 first,.slice A n c,.slice A2 m c2] w fun e w'=>e=.returned (.tuple #[.slice none 0 0,.int .i64 1])∧New w w':=by
 clear _hR
 go_enter Tryz.func193,Tryz.ntmps193
 go_wp2_with fail
 go_ret2
 exact ⟨rfl,New.refl _⟩
theorem build_args4 (_D D2:Nat→Prop) (index first:Int) (A A2:Option Addr) (n c m c2:Nat) (rs:List RecP) (w:World) (_hR:Recs w D2 A2 m rs) (_hm:m≤9223372036854775807) (h1:¬ (index<0)) (h2:¬ (65535<index)) (h3:¬ (1099511627776<first)) (h4:n≠32):
  Calls Tryz.prog 193 #[.int .i64 index,.int .u64 first,.slice A n c,.slice A2 m c2] w fun e w'=>e=.returned (.tuple #[.slice none 0 0,.int .i64 1])∧New w w':=by
 have h4':((n:Int) !=32)=true:=by simp;omega
 clear _hR
 clear h4
 go_enter Tryz.func193,Tryz.ntmps193
 go_wp2_with fail
 go_ret2
 exact ⟨rfl,New.refl _⟩
theorem build_args5 (_D D2:Nat→Prop) (index first:Int) (A A2:Option Addr) (n c m c2:Nat) (rs:List RecP) (w:World) (_hR:Recs w D2 A2 m rs) (_hm:m≤9223372036854775807) (h1:¬ (index<0)) (h2:¬ (65535<index)) (h3:¬ (1099511627776<first)) (h4:¬ (n≠32)) (h5:m=0):
  Calls Tryz.prog 193 #[.int .i64 index,.int .u64 first,.slice A n c,.slice A2 m c2] w fun e w'=>e=.returned (.tuple #[.slice none 0 0,.int .i64 1])∧New w w':=by
 have h4':((n:Int) !=32)=false:=by simp;omega
 have h5':((m:Int)==0)=true:=by simp;omega
 clear _hR
 clear h4
 clear h5
 go_enter Tryz.func193,Tryz.ntmps193
 go_wp2_with fail
 go_ret2
 exact ⟨rfl,New.refl _⟩
theorem build_args6 (_D D2:Nat→Prop) (index first:Int) (A A2:Option Addr) (n c m c2:Nat) (rs:List RecP) (w:World) (hR:Recs w D2 A2 m rs) (hm:m≤9223372036854775807) (h1:¬ (index<0)) (h2:¬ (65535<index)) (h3:¬ (1099511627776<first)) (h4:¬ (n≠32)) (h5:¬ (m=0)) (h6:fitsIn 942 rs<m):
  Calls Tryz.prog 193 #[.int .i64 index,.int .u64 first,.slice A n c,.slice A2 m c2] w fun e w'=>e=.returned (.tuple #[.slice none 0 0,.int .i64 1])∧New w w':=by
 have h4':((n:Int) !=32)=false:=by simp;omega
 have h5':((m:Int)==0)=false:=by simp;omega
 have h6':((fitsIn 942 rs:Nat):Int)<m:=by omega
 have HF:=Lib.hid (fun w' hN=>fits_any D2 A2 m c2 rs w' (hR.new (w':=w') hN) hm)
 clear hR
 clear h4
 clear h5
 go_enter Tryz.func193,Tryz.ntmps193
 go_wp2_with fail
 refine (HF.out _ (New.refl _)).mono ?_
 rintro e w1 ⟨rfl,hK1⟩
 go_wp2_with fail
 go_ret2
 exact ⟨rfl,hK1⟩
theorem build_arg (D D2:Nat→Prop) (index first:Int) (A A2:Option Addr) (n c m c2:Nat) (rs:List RecP) (w:World) (hR:Recs w D2 A2 m rs) (hm:m≤9223372036854775807) (h:buildArgs index first n rs=false):
  Calls Tryz.prog 193 #[.int .i64 index,.int .u64 first,.slice A n c,.slice A2 m c2] w fun e w'=>e=.returned (.tuple #[.slice none 0 0,.int .i64 1])∧New w w':=by
 have hl:=hR.len
 unfold buildArgs at h
 rw [decide_eq_false_iff_not,hl] at h
 by_cases h1:index<0
 ·exact build_args1 D D2 index first A A2 n c m c2 rs w hR hm h1
 by_cases h2:65535<index
 ·exact build_args2 D D2 index first A A2 n c m c2 rs w hR hm h1 h2
 by_cases h3:1099511627776<first
 ·exact build_args3 D D2 index first A A2 n c m c2 rs w hR hm h1 h2 h3
 by_cases h4:n≠32
 ·exact build_args4 D D2 index first A A2 n c m c2 rs w hR hm h1 h2 h3 h4
 by_cases h5:m=0
 ·exact build_args5 D D2 index first A A2 n c m c2 rs w hR hm h1 h2 h3 h4 h5
 exact build_args6 D D2 index first A A2 n c m c2 rs w hR hm h1 h2 h3 h4 h5 (by omega)
theorem build_ok (D D2:Nat→Prop) (index first:Int) (A A2:Option Addr) (n c m c2:Nat) (pr:List UInt8) (rs:List RecP) (w:World) (hB:Bs w D A n pr) (hnc:n≤c) (hR:Recs w D2 A2 m rs) (hm:m≤9223372036854775807) (hf0:0≤first)
  (h:buildArgs index first n rs=true) (hq:seqsFrom first rs=true):
  Calls Tryz.prog 193 #[.int .i64 index,.int .u64 first,.slice A n c,.slice A2 m c2] w fun e w'=>(∃ A' c',e=.returned (.tuple #[.slice A' 1024 c',.int .i64 0])∧OwnB w' w.heap.size 5 A' 1024 c' (segBytes index first pr rs))∧New w w':=by
 have hl:=hR.len
 have hB8L:=hB.len
 unfold buildArgs at h
 rw [decide_eq_true_eq,hl] at h
 obtain ⟨h1,h2,h3,h4,h5,h6⟩:=h
 have h1':¬ index<0:=by omega
 have h2':¬ 65535<index:=by omega
 have h3':¬ 1099511627776<first:=by omega
 have h5':((m:Int)==0)=false:=by simp;omega
 have h6':¬ ((fitsIn 942 rs:Nat):Int)<m:=by omega
 obtain ⟨hall,hfl,h15⟩:=fits_all 942 rs (by omega)
 have hm63:m≤62:=by omega
 subst h4
 have HF:=Lib.hid (fits_any D2 A2 m c2 rs w hR hm)
 have HR:=Lib.hid hR
 have HL:=Lib.hid hl
 have hq':=seqsFrom_iff first rs
 rw [hq] at hq'
 have HQ:=Lib.hid hq'
 have HA:=Lib.hid hall
 have HBL:=Lib.hid hB8L
 clear h1 h2 h5 h6 hR hl hq hq' hall hm h15 hB8L
 go_enter Tryz.func193,Tryz.ntmps193
 go_wp2_with fail
 refine HF.out.mono ?_
 rintro e w1 ⟨rfl,hK1⟩
 go_wp2_with fail
 go_loopw [44] (fun i wx=>∃ k:Nat,k≤m∧i=.int .i64 (k:Int)∧(∀ j (h:j<rs.length),j<k→rs[j].seq=first+j)∧New w wx) (fun i _=>m-(intOf i).toNat)
 case atStart=>exact ⟨0,Nat.zero_le _,rfl,fun j _ h=>absurd h (Nat.not_lt_zero _),hK1⟩
 case round =>
  clear hK1
  obtain ⟨k,hk,rfl,hsq,hK⟩:=hrel
  have HSQ:=Lib.hid hsq
  clear hsq
  by_cases hlt:k<m
  ·obtain ⟨b,off,A',c',rfl,r1,r2,r3,hc',hb,hs0,hs1,hc9⟩:=(HR.out.new hK).at_ (k:=k) (by rw [HL.out];exact hlt)
   have hkl:k<rs.length:=by rw [HL.out];exact hlt
   have HS:Hid (∀ j (h:j<rs.length),j<k+1→rs[k].seq=first+k→rs[j].seq=first+j):=Lib.hid (fun j h hj he=>by
    by_cases e:j=k
    ·subst e;exact he
    ·exact HSQ.out j h (by omega))
   have HQK:=Lib.hid (fun (h:true=true)=>HQ.out.1)
   have HE:=Lib.hid (show rs[k]=rs[k] from rfl)
   generalize hr:rs[k]'_=r at r1 r2 r3 hc' hb hs0 hs1 HS
   have HRK:=Lib.hid hr
   clear hr HE hb hc'
   have hu:IntKind.u64.wrap (first+(k:Int))=first+(k:Int):=by rw [IntKind.wrap_u64];omega
   by_cases hsk:r.seq=first+k
   ·have t1:(r.seq !=first+(k:Int))=false:=by rw [hsk];simp
    have HS2:=Lib.hid (fun j h hj=>HS.out j h hj hsk)
    clear hsk
    go_wp2_with fail
    go_roundw
    case rel=>exact ⟨k+1,by omega,by go_num,HS2.out,hK.alloc _⟩
    case measure=>simp [intOf];omega
   ·have t1:(r.seq !=first+(k:Int))=true:=by rw [bne_iff_ne];exact hsk
    go_wp2_with fail
    exact absurd ((congrArg RecP.seq HRK.out.symm).trans (HQ.out.1 trivial k hkl)) hsk
  ·obtain rfl:k=m:=by omega
   have hb0:=hB.new hK
   have HLV:=Lib.hid (leaves_any D2 A2 k c2 rs wr (HR.out.new hK) (by omega))
   clear hB HF hlt
   go_wp2_with fail
   refine HLV.out.mono ?_
   rintro e w2 ⟨⟨A3,c3,rfl,hlv⟩,hK2⟩
   generalize hls:leavesOf rs=ls at hlv hfl
   have HLS:=Lib.hid hls
   have hb2:=hb0.new hK2
   have hK02:=hK.new hK2
   have hc3:=hlv.cap
   have hc39:=hlv.capMax
   clear hls hb0 hK2 hK HLV
   have HCC:=Lib.hid (concat_any _ A3 k c3 ls w2 hlv.bss (by omega) (by omega))
   generalize hfa:ls.flatten=all at hfl HCC
   have HFA:=Lib.hid hfa
   clear hfa
   go_wp2_with fail
   refine HCC.out.mono ?_
   rintro e w3 ⟨⟨A4,c4,rfl,hall⟩,hK3⟩
   go_wp2_with fail
   refine (newWriter_any _).mono ?_
   rintro e w4 ⟨⟨p,rfl,hW4⟩,hK4⟩
   have hlt:w.heap.size≤w3.heap.size:=Nat.le_trans hK02.size hK3.size
   have hb4:=(Row.imp (hb2.new hK3) (E:=fun b=>b<w3.heap.size) (fun b hb _=>hb)).new hK4
   have ha4:=(Row.imp (Row.of_own hall) (E:=fun b=>b<w3.heap.size) (fun b hb _=>hb)).new hK4
   have hl4:=((hlv.new hK3).bss.imp (E:=fun b=>b<w3.heap.size) (fun b hb _=>hb)).new hK4
   have hK04:Keep (fun b=>b<w3.heap.size) w w4:=Keep.of_new ((hK02.new hK3).new hK4)
   have hca:=own_cap hall
   clear hb2 hlv hall hK3 hK4 hK02 HCC
   generalize w3.heap.size=base at *
   go_wp2_with fail
   refine (wshort_any base p _ index w4 hW4 (by simp)).mono ?_
   rintro e w5 ⟨rfl,hW5,hK5⟩
   clear hW4
   go_wp2_with fail
   refine (wlong_any base p _ first w5 hW5 hf0 (by omega) (by simp [beI_length])).mono ?_
   rintro e w6 ⟨rfl,hW6,hK6⟩
   clear hW5
   go_wp2_with fail
   refine (wshort_any base p _ k w6 hW6 (by simp [beI_length])).mono ?_
   rintro e w7 ⟨rfl,hW7,hK7⟩
   clear hW6
   go_wp2_with fail
   refine (wshort_any base p _ all.length w7 hW7 (by simp [beI_length])).mono ?_
   rintro e w8 ⟨rfl,hW8,hK8⟩
   clear hW7
   have hK08:=(((hK04.trans hK5).trans hK6).trans hK7).trans hK8
   have hK48:=((hK5.trans hK6).trans hK7).trans hK8
   have hb8:=hb4.keep hK48 (fun b _ h=>h)
   have ha8:=ha4.keep hK48 (fun b _ h=>h)
   have hl8:=hl4.keep hK48 (fun b _ h=>h)
   clear hb4 ha4 hl4 hK04 hK5 hK6 hK7 hK8 hK48
   have hpl:pr.length=32:=HBL.out
   go_wp2_with fail
   refine (raw_any base p _ A 32 c _ _ w8 hW8 hb8 (by simp [beI_length])).mono ?_
   rintro e w9 ⟨rfl,hW9,hK9⟩
   have ha9:=ha8.keep hK9 (fun b _ h=>h)
   have hl9:=hl8.keep hK9 (fun b _ h=>h)
   clear hW8 hb8 ha8 hl8
   go_wp2_with fail
   refine (root_any k _ A3 c3 ls w9 hl9 hc3 (by rw [HFA.out];omega) (by omega) (by omega)).mono ?_
   rintro e w10 ⟨⟨A10,c10,rfl,hown10⟩,hK10⟩
   have hW10:=hW9.keep hK10 (fun _ _=>trivial)
   have ha10:=ha9.new hK10
   clear hW9 hl9 ha9
   go_wp2_with fail
   refine (raw_any base p _ A10 32 c10 _ _ w10 hW10 (Row.of_own hown10) (by simp [beI_length,hpl])).mono ?_
   rintro e w11 ⟨rfl,hW11,hK11⟩
   have ha11:=ha10.keep hK11 (fun b _ h=>h)
   have hK011:=((hK08.trans hK9).new hK10).trans hK11
   replace hW11:Wr w11 base p (segHead index first pr rs):=by
    have e:segHead index first pr rs=beI 2 index++beI 8 first++beI 2 (k:Int)++beI 2 (all.length:Int)++pr++rootOf ls:=by
     unfold segHead;rw [HLS.out,HFA.out,HL.out]
    rw [e];exact hW11
   have hH:=segHead_length index first pr rs hpl
   generalize hhd:segHead index first pr rs=hd at hW11 hH
   have HHD:=Lib.hid hhd
   clear hW10 hown10 ha10 hK9 hK10 hK11 hK08 hhd
   go_wp2_with fail
   refine (done_any base p _ w11 hW11 (by omega)).mono ?_
   rintro e w12 ⟨⟨A12,c12,rfl,hown12⟩,hK12⟩
   rw [hH] at hown12
   go_wp2_with fail
   refine (crc_sum _ A12 78 c12 hd w12 (Row.of_own hown12) (by omega)).mono ?_
   rintro e w13 ⟨rfl,rfl⟩
   go_wp2_with fail
   refine (four_any _ w12).mono ?_
   rintro e w13 ⟨⟨A13,c13,rfl,hown13⟩,hK13⟩
   have hW13:=(hW11.keep hK12 (fun _ _=>trivial)).keep hK13 (fun _ _=>trivial)
   have ha13:=(ha11.new hK12).new hK13
   clear hW11 ha11 hown12
   go_wp2_with fail
   refine (raw_any base p _ A13 4 c13 _ _ w13 hW13 (Row.of_own hown13) (by omega)).mono ?_
   rintro e w14 ⟨rfl,hW14,hK14⟩
   have ha14:=ha13.keep hK14 (fun b _ h=>h)
   have hK014:=((hK011.new hK12).new hK13).trans hK14
   have hL14:(hd++be4 (crcSum hd)).length=82:=by rw [List.length_append,hH];rfl
   clear hW13 ha13 hown13 hK12 hK13 hK14 hK011
   generalize hdd:hd++be4 (crcSum hd)=hd2 at hW14 hL14
   have HDD:=Lib.hid hdd
   clear hdd
   go_wp2_with fail
   refine (raw_any base p _ A4 _ c4 _ _ w14 hW14 ha14 (by omega)).mono ?_
   rintro e w15 ⟨rfl,hW15,hK15⟩
   have hK015:=hK014.trans hK15
   have hL15:(hd2++all).length=82+all.length:=by rw [List.length_append,hL14]
   clear hW14 ha14 hK15
   generalize hdd:hd2++all=hd3 at hW15 hL15
   have HD3:=Lib.hid hdd
   clear hdd
   have hsub:942-(all.length:Int)=((942-all.length:Nat):Int):=by omega
   obtain ⟨i,hi,hz0,hz1,hz2⟩:=info_parts info_u8
   have hbw:base≤w15.heap.size:=Nat.le_trans hW15.hp (Nat.le_of_lt hW15.lt)
   have hby:i.bytes*(942-all.length)≤281474976710656:=by rw [hz2];omega
   have hml:942-all.length≤maxLen:=by unfold maxLen;omega
   have HSUB:=Lib.hid hsub
   clear hsub hz2
   go_wp2_with (at_make;refine wpList_make_full _ rfl _ _ 24 rfl base 5 i _ 1 Tryz.underlying24 hi hz0 hz1 _ _ _ _ (942-all.length) rfl rfl HSUB.out HSUB.out hby hml hbw ?_;intro w16 hown16 hg16)
   have hN16:New w15 w16:=(New.refl w15).grown hg16 (fun _ h=>absurd h (by simp))
   have hz16:Bs w16 (fun b=>base≤b) (some ⟨w15.heap.size,0,none⟩) (942-all.length) (List.replicate (942-all.length) 0):=by
    have:=Row.of_own hown16
    rwa [Nat.mul_one,made_zero] at this
   have hW16:=hW15.keep hN16 (fun _ _=>trivial)
   clear hown16 hg16 hW15 hi hz0 hz1 hby hml
   refine (raw_any base p _ _ _ _ _ _ w16 hW16 hz16 (by omega)).mono ?_
   rintro e w17 ⟨rfl,hW17,hK17⟩
   have hK017:=(hK015.new hN16).trans hK17
   have HS:Hid (segBytes index first pr rs=hd3++List.replicate (942-all.length) 0):=Lib.hid (by
    unfold segBytes;rw [HHD.out,HLS.out,HFA.out,HDD.out,HD3.out])
   have hL17:(hd3++List.replicate (942-all.length) 0).length=1024:=by rw [List.length_append,List.length_replicate,hL15];omega
   clear hW16 hz16 hK17 hK015 hN16
   generalize hd3++List.replicate (942-all.length) 0=hd4 at *
   go_wp2_with fail
   refine (done_any base p _ w17 hW17 (by omega)).mono ?_
   rintro e w18 ⟨⟨A18,c18,rfl,hown18⟩,hK18⟩
   rw [hL17] at hown18 ⊢
   go_wp2_with fail
   go_ret2
   exact ⟨⟨A18,c18,rfl,by rw [HS.out];exact own_base hown18 hK017.size⟩,(hK017.toNew (fun i hi=>Nat.lt_of_lt_of_le hi hlt)).new hK18⟩
theorem build_form (D D2:Nat→Prop) (index first:Int) (A A2:Option Addr) (n c m c2:Nat) (pr:List UInt8) (rs:List RecP) (w:World) (hB:Bs w D A n pr) (hnc:n≤c) (hR:Recs w D2 A2 m rs) (hm:m≤9223372036854775807) (hf0:0≤first)
  (h:buildArgs index first n rs=true) (hq:seqsFrom first rs=false):
  Calls Tryz.prog 193 #[.int .i64 index,.int .u64 first,.slice A n c,.slice A2 m c2] w fun e w'=>e=.returned (.tuple #[.slice none 0 0,.int .i64 12])∧New w w':=by
 have hl:=hR.len
 have hB8L:=hB.len
 unfold buildArgs at h
 rw [decide_eq_true_eq,hl] at h
 obtain ⟨h1,h2,h3,h4,h5,h6⟩:=h
 have h1':¬ index<0:=by omega
 have h2':¬ 65535<index:=by omega
 have h3':¬ 1099511627776<first:=by omega
 have h5':((m:Int)==0)=false:=by simp;omega
 have h6':¬ ((fitsIn 942 rs:Nat):Int)<m:=by omega
 obtain ⟨hall,hfl,h15⟩:=fits_all 942 rs (by omega)
 have hm63:m≤62:=by omega
 subst h4
 have HF:=Lib.hid (fits_any D2 A2 m c2 rs w hR hm)
 have HR:=Lib.hid hR
 have HL:=Lib.hid hl
 have hq':=seqsFrom_iff first rs
 rw [hq] at hq'
 have HQ:=Lib.hid hq'
 have HA:=Lib.hid hall
 have HBL:=Lib.hid hB8L
 clear h1 h2 h5 h6 hR hl hq hq' hall hm h15 hB8L
 go_enter Tryz.func193,Tryz.ntmps193
 go_wp2_with fail
 refine HF.out.mono ?_
 rintro e w1 ⟨rfl,hK1⟩
 go_wp2_with fail
 go_loopw [44] (fun i wx=>∃ k:Nat,k≤m∧i=.int .i64 (k:Int)∧(∀ j (h:j<rs.length),j<k→rs[j].seq=first+j)∧New w wx) (fun i _=>m-(intOf i).toNat)
 case atStart=>exact ⟨0,Nat.zero_le _,rfl,fun j _ h=>absurd h (Nat.not_lt_zero _),hK1⟩
 case round =>
  clear hK1
  obtain ⟨k,hk,rfl,hsq,hK⟩:=hrel
  have HSQ:=Lib.hid hsq
  clear hsq
  by_cases hlt:k<m
  ·obtain ⟨b,off,A',c',rfl,r1,r2,r3,hc',hb,hs0,hs1,hc9⟩:=(HR.out.new hK).at_ (k:=k) (by rw [HL.out];exact hlt)
   have hkl:k<rs.length:=by rw [HL.out];exact hlt
   have HS:Hid (∀ j (h:j<rs.length),j<k+1→rs[k].seq=first+k→rs[j].seq=first+j):=Lib.hid (fun j h hj he=>by
    by_cases e:j=k
    ·subst e;exact he
    ·exact HSQ.out j h (by omega))
   have HQK:=Lib.hid (fun (h:true=true)=>HQ.out.1)
   have HE:=Lib.hid (show rs[k]=rs[k] from rfl)
   generalize hr:rs[k]'_=r at r1 r2 r3 hc' hb hs0 hs1 HS
   have HRK:=Lib.hid hr
   clear hr HE hb hc'
   have hu:IntKind.u64.wrap (first+(k:Int))=first+(k:Int):=by rw [IntKind.wrap_u64];omega
   by_cases hsk:r.seq=first+k
   ·have t1:(r.seq !=first+(k:Int))=false:=by rw [hsk];simp
    have HS2:=Lib.hid (fun j h hj=>HS.out j h hj hsk)
    clear hsk
    go_wp2_with fail
    go_roundw
    case rel=>exact ⟨k+1,by omega,by go_num,HS2.out,hK.alloc _⟩
    case measure=>simp [intOf];omega
   ·have t1:(r.seq !=first+(k:Int))=true:=by rw [bne_iff_ne];exact hsk
    go_wp2_with fail
    go_ret2
    exact ⟨rfl,hK.alloc _⟩
  ·obtain rfl:k=m:=by omega
   exact absurd (HQ.out.2 (fun j hj=>HSQ.out j hj (by rw [HL.out] at hj;omega))) (by simp)
end Go.Proofs.YtdodbdednpnddaaGreatDoor
