/-
  PROVED HERE: texts that belong together, one behind the other; what each proves, and under which conditions, its own opening remark says: Sha, Crc.
-/
import Derived.Test.YtdodbdednpnddaaGreatDoorPkT03
set_option maxRecDepth 100000
set_option maxHeartbeats 2000000
namespace Go.Proofs.YtdodbdednpnddaaGreatDoor
open Go.RowKit
def Bss (w:World) (D:Nat→Prop) (A:Option Addr) (n:Nat) (ls:List (List UInt8)):Prop :=
 ∃ vs:List Value,Row w D A n 1 vs∧ls.length=n∧∀ k (h:k<ls.length),∃ A' c',vs[k]?=some (.slice A' ls[k].length c')∧ls[k].length≤c'∧Bs w D A' ls[k].length ls[k]
theorem Bss.len {w:World}{D:Nat→Prop}{A:Option Addr}{n:Nat}{ls:List (List UInt8)}(h:Bss w D A n ls):ls.length=n:=by obtain ⟨_,_,h,_⟩:=h;exact h
theorem Bss.imp {w:World}{D E:Nat→Prop}{A:Option Addr}{n:Nat}{ls:List (List UInt8)}(h:Bss w D A n ls) (hE:∀ b,b<w.heap.size→D b→E b):Bss w E A n ls:=by
 obtain ⟨vs,h1,h2,h3⟩:=h
 refine ⟨vs,h1.imp hE,h2,fun k hk=>?_⟩
 obtain ⟨A',c',e,hc,hb⟩:=h3 k hk
 exact ⟨A',c',e,hc,hb.imp hE⟩
theorem Bss.keep {w w':World}{D E:Nat→Prop}{A:Option Addr}{n:Nat}{ls:List (List UInt8)}(h:Bss w D A n ls) (hk:Keep E w w') (hE:∀ b,b<w.heap.size→D b→E b):Bss w' D A n ls:=by
 obtain ⟨vs,h1,h2,h3⟩:=h
 refine ⟨vs,h1.keep hk hE,h2,fun k hk'=>?_⟩
 obtain ⟨A',c',e,hc,hb⟩:=h3 k hk'
 exact ⟨A',c',e,hc,hb.keep hk hE⟩
theorem Bss.new {w w':World}{D:Nat→Prop}{A:Option Addr}{n:Nat}{ls:List (List UInt8)}(h:Bss w D A n ls) (hk:New w w'):Bss w' D A n ls:=h.keep hk fun _ _ _=>trivial
theorem Bss.at_ {w:World}{D:Nat→Prop}{A:Option Addr}{n:Nat}{ls:List (List UInt8)}(h:Bss w D A n ls){k:Nat}(hk:k<ls.length):
  ∃ b off A' c',A=some ⟨b,off,none⟩∧w.cell? ⟨b,off+k,none⟩=some (.slice A' ls[k].length c')∧ls[k].length≤c'∧Bs w D A' ls[k].length ls[k]:=by
 obtain ⟨vs,h1,h2,h3⟩:=h
 obtain ⟨A',c',e,hc,hb⟩:=h3 k hk
 obtain ⟨b,off,hA,_,_,hcell⟩:=h1.2 (by omega)
 exact ⟨b,off,A',c',hA,hcell k _ e,hc,hb⟩
theorem own_base {w:World}{base base':Nat}{e:TypeId}{size n c:Nat}{A:Option Addr}{xs:List Value}(h:Own w base' e size A n c xs) (hb:base≤base'):Own w base e size A n c xs:=by
 refine ⟨h.1,?_⟩
 rcases h.2 with hn|⟨g,cap,cur,hv,hg,rest⟩
 ·exact .inl hn
 ·exact .inr ⟨g,cap,cur,hv,Nat.le_trans hb hg,rest⟩
theorem Bss.lit (w:World) (t:TypeId) (vs:List Value) (ls:List (List UInt8)) (hl:vs.length=ls.length)
  (h:∀ k (hk:k<ls.length),∃ A' c',vs[k]?=some (.slice A' ls[k].length c')∧ls[k].length≤c'∧∃ D,Bs w D A' ls[k].length ls[k]):
  Bss (w.alloc (.cells vs.toArray t)) (fun _=>True) (some ⟨w.heap.size,0,none⟩) ls.length ls:=by
 refine ⟨vs,?_,rfl,fun k hk=>?_⟩
 ·have:=Row.made w t vs.toArray ls.length 1 (by simpa using hl)
  exact this.imp fun _ _ _=>trivial
 ·obtain ⟨A',c',e,hc,D,hb⟩:=h k hk
  exact ⟨A',c',e,hc,(hb.imp fun _ _ _=>trivial).alloc _⟩
theorem flatten_take (ls:List (List UInt8)) (k:Nat) (hk:k<ls.length):(ls.take (k+1)).flatten=(ls.take k).flatten++ls[k]:=by
 rw [List.take_succ_eq_append_getElem hk,List.flatten_append];simp
theorem flatten_take_le (ls:List (List UInt8)) (k:Nat) (hk:k<ls.length):(ls.take k).flatten.length+ls[k].length≤ls.flatten.length:=by
 have h:=congrArg List.length (flatten_take ls k hk)
 rw [List.length_append] at h
 rw [← h]
 conv=>rhs;rw [← List.take_append_drop (k+1) ls,List.flatten_append,List.length_append]
 omega
theorem of_any (D:Nat→Prop) (A:Option Addr) (n c:Nat) (ls:List (List UInt8)) (w:World) (hB:Bss w D A n ls) (hn:ls.flatten.length≤1099511627776) (hm:n≤9223372036854775807):
  Calls Tryz.prog 150 #[.slice A n c] w fun e w'=>(∃ A' c',e=.returned (.slice A' 32 c')∧OwnB w' w.heap.size 5 A' 32 c' (shaSum ls.flatten))∧New w w':=by
 have hB':Bss w (fun b=>b<w.heap.size) A n ls:=hB.imp fun b hb _=>hb
 have hln:=hB.len
 clear hB
 have HB:=Lib.hid hB'
 clear hB'
 go_enter Tryz.func150,Tryz.ntmps150
 go_wp2_with fail
 refine (new_any _).mono ?_
 rintro e w1 ⟨⟨p,rfl,hS⟩,hK1⟩
 go_wp2_with fail
 go_loopw [9] (fun i wx=>∃ k:Nat,k≤n∧i=.int .i64 k∧Str wx w.heap.size p (ls.take k).flatten∧New w wx) (fun i _=>n-(intOf i).toNat)
 case atStart=>exact ⟨0,Nat.zero_le _,rfl,by simpa using hS,hK1⟩
 case round =>
  clear hS hK1
  obtain ⟨k,hk,rfl,hS,hK⟩:=hrel
  by_cases hlt:k<n
  ·obtain ⟨b,off,A',c',rfl,hc,hcap,hb⟩:=(HB.out.new hK).at_ (k:=k) (by omega)
   have hfl:=flatten_take_le ls k (by omega)
   have hft:=Lib.hid (flatten_take ls k (by omega))
   generalize ls[k]'_=x at *
   have HW:=Lib.hid (write_any w.heap.size p (fun b=>b<w.heap.size) A' x.length c' _ x wr hS hb (fun _ h=>h) (by omega) hcap)
   clear hS hb hfl hln
   go_wp2_with fail
   refine HW.out.mono ?_
   rintro e w2 ⟨rfl,hS2,hK2⟩
   clear hc HW
   go_wp2_with fail
   go_roundw
   case rel=>exact ⟨k+1,by omega,by go_num,by rw [hft.out];exact hS2,(Keep.trans (D:=fun b=>b<w.heap.size) (Keep.of_new hK) hK2).toNew (fun i hi=>hi)⟩
   case measure=>simp [intOf];omega
  ·obtain rfl:k=n:=by omega
   rw [List.take_of_length_le (by omega)] at hS
   go_wp2_with fail
   refine (sum_any _ _ _ _ hS hn).mono ?_
   rintro e w2 ⟨⟨A',c',rfl,hown⟩,hK2⟩
   go_wp2_with fail
   go_ret
   exact ⟨⟨A',c',rfl,own_base hown hK.size⟩,hK.new hK2⟩
theorem shaSum_any (D:Nat→Prop) (A:Option Addr) (n c:Nat) (bs:List UInt8) (w:World) (hB:Bs w D A n bs) (hc:n≤c) (hn:n≤1099511627776):
  Calls Tryz.prog 116 #[.slice A n c] w fun e w'=>(∃ A' c',e=.returned (.slice A' 32 c')∧OwnB w' w.heap.size 5 A' 32 c' (shaSum bs))∧New w w':=by
 have hl:=hB.len
 have hlit:=Lib.hid (Bss.lit w 24 [.slice A n c] [bs] rfl (fun k hk=>match k,hk with|0,_=>⟨A,c,by simp [hl],by simp [hl];exact hc,D,by simpa [hl] using hB⟩))
 have HF:=Lib.hid (show ([bs]:List (List UInt8)).flatten=bs by simp)
 have HL:=Lib.hid hl
 clear hl
 go_enter Tryz.func116,Tryz.ntmps116
 go_wp2_with fail
 refine (of_any _ _ _ _ [bs] _ hlit.out (by rw [HF.out,HL.out];exact hn) (by simp)).mono ?_
 rintro e w2 ⟨⟨A',c',rfl,hown⟩,hK2⟩
 rw [HF.out] at hown
 go_wp2_with fail
 go_ret
 exact ⟨⟨A',c',rfl,own_base hown ((New.refl w).alloc _).size⟩,((New.refl w).alloc _).new hK2⟩
theorem leaf_any (D:Nat→Prop) (A:Option Addr) (n c:Nat) (bs:List UInt8) (w:World) (hB:Bs w D A n bs) (hc:n≤c) (hn:n≤1099511620000):
  Calls Tryz.prog 297 #[.slice A n c] w fun e w'=>(∃ A' c',e=.returned (.slice A' 32 c')∧OwnB w' w.heap.size 5 A' 32 c' (shaSum (0::bs)))∧New w w':=by
 have hl:=hB.len
 have h0:=bs_one w 5 0 _ rfl
 have hlit:=(Bss.lit (w.alloc (.cells #[.int .u8 0] 5)) 24 [.slice (some ⟨w.heap.size,0,none⟩) 1 1,.slice A n c] [[0],bs] rfl
  (fun k hk=>match k,hk with|0,_=>⟨_,1,rfl,by simp,_,h0⟩|1,_=>⟨A,c,by simp [hl],by simp [hl];exact hc,D,by simpa [hl] using hB.alloc _⟩))
 rw [show (w.alloc (.cells #[.int .u8 0] 5)).heap.size=w.heap.size+1 from by simp] at hlit
 replace hlit:=Lib.hid hlit
 have HF:=Lib.hid (show ([[0],bs]:List (List UInt8)).flatten=0::bs by simp)
 have HL:=Lib.hid hl
 clear hl h0
 go_enter Tryz.func297,Tryz.ntmps297
 go_wp2_with fail
 refine (of_any _ _ _ _ [[0],bs] _ hlit.out (by rw [HF.out,List.length_cons,HL.out];omega) (by simp)).mono ?_
 rintro e w2 ⟨⟨A',c',rfl,hown⟩,hK2⟩
 rw [HF.out] at hown
 go_wp2_with fail
 go_ret
 exact ⟨⟨A',c',rfl,own_base hown (((New.refl w).alloc _).alloc _).size⟩,(((New.refl w).alloc _).alloc _).new hK2⟩
theorem pair_any (D D2:Nat→Prop) (A A2:Option Addr) (n c n2 c2:Nat) (bs bs2:List UInt8) (w:World) (hB:Bs w D A n bs) (hc:n≤c) (hB2:Bs w D2 A2 n2 bs2) (hc2:n2≤c2) (hn:n+n2≤1099511620000):
  Calls Tryz.prog 299 #[.slice A n c,.slice A2 n2 c2] w fun e w'=>(∃ A' c',e=.returned (.slice A' 32 c')∧OwnB w' w.heap.size 5 A' 32 c' (shaSum (1::(bs++bs2))))∧New w w':=by
 have hl:=hB.len
 have hl2:=hB2.len
 have h0:=bs_one w 5 1 _ rfl
 have hlit:=(Bss.lit (w.alloc (.cells #[.int .u8 1] 5)) 24 [.slice (some ⟨w.heap.size,0,none⟩) 1 1,.slice A n c,.slice A2 n2 c2] [[1],bs,bs2] rfl
  (fun k hk=>match k,hk with|0,_=>⟨_,1,rfl,by simp,_,h0⟩|1,_=>⟨A,c,by simp [hl],by simp [hl];exact hc,D,by simpa [hl] using hB.alloc _⟩|2,_=>⟨A2,c2,by simp [hl2],by simp [hl2];exact hc2,D2,by simpa [hl2] using hB2.alloc _⟩))
 rw [show (w.alloc (.cells #[.int .u8 1] 5)).heap.size=w.heap.size+1 from by simp] at hlit
 replace hlit:=Lib.hid hlit
 have HF:=Lib.hid (show ([[1],bs,bs2]:List (List UInt8)).flatten=1::(bs++bs2) by simp)
 have HL:=Lib.hid hl
 have HL2:=Lib.hid hl2
 clear hl hl2 h0
 go_enter Tryz.func299,Tryz.ntmps299
 go_wp2_with fail
 refine (of_any _ _ _ _ [[1],bs,bs2] _ hlit.out (by rw [HF.out,List.length_cons,List.length_append,HL.out,HL2.out];omega) (by simp)).mono ?_
 rintro e w2 ⟨⟨A',c',rfl,hown⟩,hK2⟩
 rw [HF.out] at hown
 go_wp2_with fail
 go_ret
 exact ⟨⟨A',c',rfl,own_base hown (((New.refl w).alloc _).alloc _).size⟩,(((New.refl w).alloc _).alloc _).new hK2⟩
def crcBit (c:BitVec 32):BitVec 32:=if c &&& 1#32=1#32 then (c >>> 1) ^^^ 3988292384#32 else c >>> 1
def crcBits:Nat→BitVec 32→BitVec 32
 | 0,c=>c
 | n+1,c=>crcBit (crcBits n c)
def crcByte (c:BitVec 32) (b:UInt8):BitVec 32:=crcBits 8 (c ^^^ bw b)
def crcTo (c:BitVec 32) (bs:List UInt8) (k:Nat):BitVec 32:=(bs.take k).foldl crcByte c
theorem crcTo_succ (c:BitVec 32) (bs:List UInt8) (k:Nat) (hk:k<bs.length):crcTo c bs (k+1)=crcByte (crcTo c bs k) bs[k]:=by
 unfold crcTo;rw [List.take_succ_eq_append_getElem hk,List.foldl_append];rfl
def crcMore (c:BitVec 32) (bs:List UInt8):BitVec 32 := ~~~(bs.foldl crcByte (~~~c))
def crcSum (bs:List UInt8):BitVec 32:=crcMore 0#32 bs
theorem crc_more (D:Nat→Prop) (c:BitVec 32) (A:Option Addr) (n cap:Nat) (bs:List UInt8) (w:World) (hB:Bs w D A n bs) (hn:n≤9223372036854775807):
  Calls Tryz.prog 144 #[.int .u32 (wv c),.slice A n cap] w fun e w'=>e=.returned (.int .u32 (wv (crcMore c bs)))∧w=w':=by
 have hl:=hB.len
 have HL:=Lib.hid hl
 clear hl
 go_enter Tryz.func144,Tryz.ntmps144
 go_wp2
 go_loop [0,12] (fun c' i=>∃ k:Nat,k≤n∧i=.int .i64 k∧c'=.int .u32 (wv (crcTo (~~~c) bs k))) (fun _ i=>n-(intOf i).toNat)
 case atStart=>exact ⟨0,Nat.zero_le _,rfl,rfl⟩
 case round =>
  obtain ⟨k,hk,rfl,rfl⟩:=hrel
  by_cases hlt:k<n
  ·have hb:k<bs.length:=by rw [HL.out];exact hlt
   obtain ⟨b,off,rfl,_,_,hc⟩:=hB.cellAt (by omega)
   have hck:=hc k hb
   have hS:=Lib.hid (crcTo_succ (~~~c) bs k hb)
   clear hc hB
   generalize bs[k]'_=x at hck hS
   clear hb
   go_wp2
   go_loop [0,20] (fun c' i=>∃ j:Nat,j≤8∧i=.int .i64 j∧c'=.int .u32 (wv (crcBits j (crcTo (~~~c) bs k ^^^ bw x)))) (fun _ i=>8-(intOf i).toNat)
   case atStart=>exact ⟨0,Nat.zero_le _,rfl,rfl⟩
   case round =>
    obtain ⟨j,hj,rfl,rfl⟩:=hrel
    by_cases hlt8:j<8
    ·by_cases hbit:crcBits j (crcTo (~~~c) bs k ^^^ bw x) &&& 1#32=1#32
     ·go_wp2
      go_round
      case rel=>exact ⟨j+1,by omega,by go_num,by show _=Value.int .u32 (wv (crcBit _));unfold crcBit;rw [if_pos hbit]⟩
      case measure=>simp [intOf];omega
     ·go_wp2
      go_round
      case rel=>exact ⟨j+1,by omega,by go_num,by show _=Value.int .u32 (wv (crcBit _));unfold crcBit;rw [if_neg hbit]⟩
      case measure=>simp [intOf];omega
    ·obtain rfl:j=8:=by omega
     go_wp2
     go_round
     case rel=>exact ⟨k+1,by omega,by go_num,by rw [hS.out];rfl⟩
     case measure=>simp [intOf];omega
  ·obtain rfl:k=n:=by omega
   go_wp2
   go_ret
   refine ⟨?_,rfl⟩
   have e:crcTo (~~~c) bs k=bs.foldl crcByte (~~~c):=by unfold crcTo;rw [List.take_of_length_le (by rw [HL.out];exact Nat.le_refl _)]
   show Ending.returned (Value.int .u32 (wv (~~~(crcTo (~~~c) bs k))))=_
   rw [e];rfl
theorem crc_sum (D:Nat→Prop) (A:Option Addr) (n cap:Nat) (bs:List UInt8) (w:World) (hB:Bs w D A n bs) (hn:n≤9223372036854775807):
  Calls Tryz.prog 111 #[.slice A n cap] w fun e w'=>e=.returned (.int .u32 (wv (crcSum bs)))∧w=w':=by
 go_enter Tryz.func111,Tryz.ntmps111
 go_wp2_with fail
 refine (crc_more D 0#32 A n cap bs w hB hn).mono ?_
 rintro e w' ⟨rfl,rfl⟩
 go_wp2
 go_ret
 exact ⟨rfl,rfl⟩
end Go.Proofs.YtdodbdednpnddaaGreatDoor
