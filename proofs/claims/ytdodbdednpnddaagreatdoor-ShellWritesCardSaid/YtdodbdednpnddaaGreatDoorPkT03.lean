/-
  PROVED HERE: what the program's SHA-256 answers: the plain function 'shaSum'; conditions: fewer than 2^40 bytes.
-/
import Derived.Test.YtdodbdednpnddaaGreatDoorPkT02
set_option maxRecDepth 100000
set_option maxHeartbeats 2000000
namespace Go.Proofs.YtdodbdednpnddaaGreatDoor
open Go.RowKit
theorem bs_one (w:World) (t:TypeId) (b:UInt8) (x:Value) (h:byteVal b=x):Bs (w.alloc (.cells #[x] t)) (fun g=>w.heap.size≤g) (some ⟨w.heap.size,0,none⟩) 1 [b]:=by
 subst h;exact Row.made1 w t _
theorem new_app {w w1 w2:World}{o:Obj}{e:TypeId}{size n c:Nat}{A:Option Addr}{xs:List Value}(h:New w w1) (hown:Own w1 w.heap.size e size A n c xs) (hg:(w1.alloc o).grownBy w2 (blk A)):New w w2 :=
 (h.alloc o).grown hg (fun k hk _=>(own_lt hown k hk).1)
theorem new_app0 {w w1 w2:World}{e:TypeId}{size n c:Nat}{A:Option Addr}{xs:List Value}(h:New w w1) (hown:Own w1 w.heap.size e size A n c xs) (hg:w1.grownBy w2 (blk A)):New w w2 :=
 h.grown hg (fun k hk _=>(own_lt hown k hk).1)
theorem bs_four (w:World) (t:TypeId) (a b c d:UInt8):Bs (w.alloc (.cells #[.int .u8 (bv a),.int .u8 (bv b),.int .u8 (bv c),.int .u8 (bv d)] t)) (fun g=>w.heap.size≤g) (some ⟨w.heap.size,0,none⟩) 4 [a,b,c,d] :=
 Row.made w t _ 4 1 rfl
theorem index8_0 (f:Nat→BitVec 32) (w:World):(Instr.index 350 (.agg #[.int .u32 (wv (f 0)),.int .u32 (wv (f 1)),.int .u32 (wv (f 2)),.int .u32 (wv (f 3)),.int .u32 (wv (f 4)),.int .u32 (wv (f 5)),.int .u32 (wv (f 6)),.int .u32 (wv (f 7))]) (.int .i64 ((0:Nat):Int))).run Tryz.prog w=.ok (.int .u32 (wv (f 0))) w:=by kernel_rfl
theorem index8_1 (f:Nat→BitVec 32) (w:World):(Instr.index 350 (.agg #[.int .u32 (wv (f 0)),.int .u32 (wv (f 1)),.int .u32 (wv (f 2)),.int .u32 (wv (f 3)),.int .u32 (wv (f 4)),.int .u32 (wv (f 5)),.int .u32 (wv (f 6)),.int .u32 (wv (f 7))]) (.int .i64 ((1:Nat):Int))).run Tryz.prog w=.ok (.int .u32 (wv (f 1))) w:=by kernel_rfl
theorem index8_2 (f:Nat→BitVec 32) (w:World):(Instr.index 350 (.agg #[.int .u32 (wv (f 0)),.int .u32 (wv (f 1)),.int .u32 (wv (f 2)),.int .u32 (wv (f 3)),.int .u32 (wv (f 4)),.int .u32 (wv (f 5)),.int .u32 (wv (f 6)),.int .u32 (wv (f 7))]) (.int .i64 ((2:Nat):Int))).run Tryz.prog w=.ok (.int .u32 (wv (f 2))) w:=by kernel_rfl
theorem index8_3 (f:Nat→BitVec 32) (w:World):(Instr.index 350 (.agg #[.int .u32 (wv (f 0)),.int .u32 (wv (f 1)),.int .u32 (wv (f 2)),.int .u32 (wv (f 3)),.int .u32 (wv (f 4)),.int .u32 (wv (f 5)),.int .u32 (wv (f 6)),.int .u32 (wv (f 7))]) (.int .i64 ((3:Nat):Int))).run Tryz.prog w=.ok (.int .u32 (wv (f 3))) w:=by kernel_rfl
theorem index8_4 (f:Nat→BitVec 32) (w:World):(Instr.index 350 (.agg #[.int .u32 (wv (f 0)),.int .u32 (wv (f 1)),.int .u32 (wv (f 2)),.int .u32 (wv (f 3)),.int .u32 (wv (f 4)),.int .u32 (wv (f 5)),.int .u32 (wv (f 6)),.int .u32 (wv (f 7))]) (.int .i64 ((4:Nat):Int))).run Tryz.prog w=.ok (.int .u32 (wv (f 4))) w:=by kernel_rfl
theorem index8_5 (f:Nat→BitVec 32) (w:World):(Instr.index 350 (.agg #[.int .u32 (wv (f 0)),.int .u32 (wv (f 1)),.int .u32 (wv (f 2)),.int .u32 (wv (f 3)),.int .u32 (wv (f 4)),.int .u32 (wv (f 5)),.int .u32 (wv (f 6)),.int .u32 (wv (f 7))]) (.int .i64 ((5:Nat):Int))).run Tryz.prog w=.ok (.int .u32 (wv (f 5))) w:=by kernel_rfl
theorem index8_6 (f:Nat→BitVec 32) (w:World):(Instr.index 350 (.agg #[.int .u32 (wv (f 0)),.int .u32 (wv (f 1)),.int .u32 (wv (f 2)),.int .u32 (wv (f 3)),.int .u32 (wv (f 4)),.int .u32 (wv (f 5)),.int .u32 (wv (f 6)),.int .u32 (wv (f 7))]) (.int .i64 ((6:Nat):Int))).run Tryz.prog w=.ok (.int .u32 (wv (f 6))) w:=by kernel_rfl
theorem index8_7 (f:Nat→BitVec 32) (w:World):(Instr.index 350 (.agg #[.int .u32 (wv (f 0)),.int .u32 (wv (f 1)),.int .u32 (wv (f 2)),.int .u32 (wv (f 3)),.int .u32 (wv (f 4)),.int .u32 (wv (f 5)),.int .u32 (wv (f 6)),.int .u32 (wv (f 7))]) (.int .i64 ((7:Nat):Int))).run Tryz.prog w=.ok (.int .u32 (wv (f 7))) w:=by kernel_rfl
theorem index8 (f:Nat→BitVec 32) (k:Nat) (hk:k<8) (w:World):(Instr.index 350 (.agg #[.int .u32 (wv (f 0)),.int .u32 (wv (f 1)),.int .u32 (wv (f 2)),.int .u32 (wv (f 3)),.int .u32 (wv (f 4)),.int .u32 (wv (f 5)),.int .u32 (wv (f 6)),.int .u32 (wv (f 7))]) (.int .i64 (k:Int))).run Tryz.prog w=.ok (.int .u32 (wv (f k))) w:=by
 match k,hk with
 | 0,_=>exact index8_0 f w
 | 1,_=>exact index8_1 f w
 | 2,_=>exact index8_2 f w
 | 3,_=>exact index8_3 f w
 | 4,_=>exact index8_4 f w
 | 5,_=>exact index8_5 f w
 | 6,_=>exact index8_6 f w
 | 7,_=>exact index8_7 f w
def stateTo (f:Nat→BitVec 32) (k:Nat):List UInt8:=(List.range k).flatMap fun j=>be4 (f j)
theorem stateTo_succ (f:Nat→BitVec 32) (k:Nat):stateTo f (k+1)=stateTo f k++be4 (f k):=by
 unfold stateTo;rw [List.range_succ,List.flatMap_append];simp
theorem be_byte (n k:Nat) (x:Int) (hx:x=n):byteVal (UInt8.ofNat (n/256^k%256))=.int .u8 (x/2^(8*k)%256):=by
 subst hx
 unfold byteVal bv
 rw [UInt8.toNat_ofNat_of_lt' (Nat.mod_lt _ (by decide))]
 have h:(256:Nat)^k=2^(8*k):=by rw [Nat.pow_mul]
 rw [h]
 simp
theorem be8_length (n:Nat):(be8 n).length=8:=by simp [be8]
theorem be8_take (n j:Nat) (hj:j<8):(be8 n).take (j+1)=(be8 n).take j++[UInt8.ofNat (n/256^(7-j)%256)]:=by
 rw [List.take_succ_eq_append_getElem (by rw [be8_length];exact hj)]
 simp [be8]
theorem noughts_lt {r k:Nat}(h:k<(119-r%64)%64):(r+1+k)%64≠56:=by omega
theorem noughts_at (r:Nat):(r+1+(119-r%64)%64)%64=56:=by omega
theorem sum_any (base p:Nat) (bs:List UInt8) (w:World) (hS:Str w base p bs) (hn:bs.length≤1099511627776):
  Calls Tryz.prog 210 #[.pointer (some ⟨p,0,none⟩)] w fun e w'=>(∃ A c,e=.returned (.slice A 32 c)∧OwnB w' w.heap.size 5 A 32 c (shaSum bs))∧New w w':=by
 obtain ⟨done,rest,rfl,hr,hE⟩:=hS
 obtain ⟨A1,c1,hc72,hown,hne⟩:=hE.rest
 have hplt:=hE.lt
 have hc73:=hE.num
 have HE:=Lib.hid hE
 have hln:(done++rest).length=done.length+rest.length:=by simp
 rw [hln] at hn
 generalize hN:(done++rest).length=N at hc73
 have HN:=Lib.hid hN
 have hNl:N≤1099511627776:=by omega
 clear hE hln hN
 go_enter Tryz.func210,Tryz.ntmps210
 go_wp2_with fail
 refine (clone_bytes (fun b=>base≤b) A1 _ c1 rest w (Row.of_own hown) (by omega)).mono ?_
 rintro e w1 ⟨⟨A2,c2,rfl,hown2⟩,hK1⟩
 have hsz:=hK1.size
 go_wp2_with (at_builtin;refine app_bytes _ rfl (.tmp 14) (.tmp 15) rfl w.heap.size A2 _ c2 rest rfl (hown2.alloc _) (fun g=>w1.heap.size≤g) _ 1 1 [128] rfl (bs_one w1 5 128 _ rfl) (by omega) (by simp;omega) ?_;intro A3 c3 w3 hown3 hg3 hbk3)
 have hK3:=new_app hK1 hown2 hg3
 clear hown2 hg3 hbk3 hc72 hown hne hK1 hsz
 have hc73':w3.cell? ⟨p,73,none⟩=some (.int .i64 N):=(hK3.cell hplt trivial).trans hc73
 go_loopw [3] (fun s3 wx=>∃ A m c k,s3=.slice A m c∧k≤padNoughts rest.length∧m=rest.length+1+k∧OwnB wx w.heap.size 5 A m c (rest++[128]++List.replicate k 0)∧New w wx) (fun s3 _=>200-sliceLen s3)
 case atStart=>exact ⟨_,_,_,0,rfl,Nat.zero_le _,rfl,by simpa using hown3,hK3⟩
 case round =>
  clear hown3 hK3 hc73'
  obtain ⟨A,m,c,k,rfl,hk,hm,hown,hK⟩:=hrel
  have hpad:padNoughts rest.length<64:=Nat.mod_lt _ (by decide)
  have hmb:m<200:=by omega
  by_cases hlt:k<padNoughts rest.length
  ·have ht:((m:Int)%64 !=56)=true:=by have:=noughts_lt hlt;rw [bne_iff_ne];omega
   have HM:=Lib.hid hm
   clear hm
   have hsz:=hK.size
   have hbd:m+1≤140737488355328:=by omega
   have hsz':w.heap.size≤(wr.alloc (.cells #[.int .u8 0] 5)).heap.size:=(hK.alloc _).size
   go_wp2_with (at_builtin;refine app_bytes _ rfl (.tmp 21) (.tmp 22) rfl w.heap.size A m c _ rfl (hown.alloc _) (fun g=>wr.heap.size≤g) _ 1 1 [0] rfl (bs_one wr 5 0 _ rfl) hbd hsz' ?_;intro A3 c3 w3 hown3 hg3 hbk3)
   have hK3:=new_app hK hown hg3
   clear hg3 hbk3 hown hK
   go_roundw
   case rel=>exact ⟨_,_,_,k+1,rfl,by omega,by have:=HM.out;omega,by rw [List.replicate_succ',← List.append_assoc];exact hown3,hK3⟩
   case measure=>simp [sliceLen];omega
  ·have hk':k=padNoughts rest.length:=by omega
   have ht:((m:Int)%64 !=56)=false:=by
    have:=noughts_at rest.length
    have e:m%64=56:=by rw [hm,hk'];exact this
    simp;omega
   have HM:=Lib.hid hm
   have HK:=Lib.hid hk'
   clear hm hk'
   have hc73':wr.cell? ⟨p,73,none⟩=some (.int .i64 N):=(hK.cell hplt trivial).trans hc73
   go_wp2_with fail
   have hpre:m<200:=hmb
   generalize hL:rest++[128]++List.replicate k 0=L at hown
   have HLL:=Lib.hid hL
   clear hL
   go_loopw [3,5] (fun s3 i wx=>∃ (A:Option Addr) (c' j mm:Nat),s3=.slice A mm c'∧j≤8∧i=.int .i64 (7-(j:Int))∧mm=m+j∧OwnB wx w.heap.size 5 A mm c' (L++(be8 (N*8)).take j)∧New w wx) (fun _ i _=>(intOf i+1).toNat)
   case atStart=>exact ⟨_,_,0,m,rfl,by omega,rfl,rfl,by simpa using hown,hK⟩
   case round =>
    clear hown hK hc73'
    obtain ⟨A',c',j,mm,rfl,hj,rfl,hmm,hown,hK⟩:=hrel
    by_cases hlt:j<8
    ·have hb1:=bs_one wr 5 _ _ (be_byte (N*8) (7-j) ((N:Int)*8) (by simp))
     have hbd:mm+1≤140737488355328:=by omega
     have hmb':mm<300:=by omega
     have HMM:=Lib.hid hmm
     clear hmm
     go_wp2_with (at_builtin;refine app_bytes _ rfl (.tmp 34) (.tmp 40) rfl w.heap.size A' mm c' _ rfl (hown.alloc _) (fun g=>wr.heap.size≤g) _ 1 1 _ rfl hb1 hbd ((hK.alloc _).size) ?_;intro A3 c3 w3 hown3 hg3 hbk3)
     have hK3:=new_app hK hown hg3
     clear hg3 hbk3 hown hK hb1
     go_roundw
     case rel =>
      have e:(7:Int)-((j+1:Nat):Int)=7-(j:Int)-1:=by omega
      exact ⟨_,_,j+1,_,rfl,by omega,by rw [e],by have:=HMM.out;omega,by rw [be8_take _ _ hlt,← List.append_assoc];exact hown3,hK3⟩
     case measure=>simp [intOf];omega
    ·obtain rfl:j=8:=by omega
     rw [show (7-((8:Nat):Int)) = -1 from rfl]
     rw [List.take_of_length_le (by rw [be8_length];exact Nat.le_refl _)] at hown
     have hs:=HE.out.state.keep hK trivial
     have hks:=HE.out.ks.keep hK trivial
     have s0:=hs.cell0 (j:=0) (by omega)
     have s1:=hs.cell0 (j:=1) (by omega)
     have s2:=hs.cell0 (j:=2) (by omega)
     have s3:=hs.cell0 (j:=3) (by omega)
     have s4:=hs.cell0 (j:=4) (by omega)
     have s5:=hs.cell0 (j:=5) (by omega)
     have s6:=hs.cell0 (j:=6) (by omega)
     have s7:=hs.cell0 (j:=7) (by omega)
     clear hs
     go_wp2_with fail
     clear s0 s1 s2 s3 s4 s5 s6 s7
     generalize hf:blocks hAt done (done.length/64)=f
     generalize hW5:wr.alloc _=W5
     have hst:W32s W5 wr.heap.size 0 8 f:=by
      rw [← hW5]
      refine (S8.made8 wr _ (S8.of f)).congr fun j hj=>?_
      match j,hj with
      | 0,_=>rfl
      | 1,_=>rfl
      | 2,_=>rfl
      | 3,_=>rfl
      | 4,_=>rfl
      | 5,_=>rfl
      | 6,_=>rfl
      | 7,_=>rfl
     have hN5:New wr W5:=by rw [← hW5];exact (New.refl wr).alloc _
     have hB5:Bs W5 (fun b=>b≠wr.heap.size) A' mm (L++be8 (N*8)):=((Row.of_own hown).imp (fun b hb _=>Nat.ne_of_lt hb)).new hN5
     have hks5:=hks.keep hN5 trivial
     have hK5:=hK.new hN5
     have hcap:=own_cap hown
     have hge:w.heap.size≤wr.heap.size:=hK.size
     have hph:p≠wr.heap.size:=by omega
     subst hf
     clear hW5 hN5 hks hK hown
     generalize wr.heap.size=h at *
     have hmult:=HE.out.mult
     have hmm64:mm%64=0:=by
      have h1:=HM.out;have h2:=HK.out;have h3:=noughts_at rest.length
      unfold padNoughts at h2
      rw [← h2,← h1] at h3
      omega
     go_loopw [3] (fun s3 wx=>∃ (A:Option Addr) (n c:Nat) (bs done':List UInt8),s3=.slice A n c∧n≤c∧Bs wx (fun b=>b≠h) A n bs∧done++(L++be8 (N*8))=done'++bs∧n%64=0∧n<300∧done'.length%64=0∧W32s wx h 0 8 (blocks hAt done' (done'.length/64))∧W32s wx p 8 64 kAt∧New w wx) (fun s3 _=>sliceLen s3)
     case atStart=>exact ⟨_,_,_,_,done,rfl,hcap,hB5,rfl,hmm64,by omega,hmult,hst,hks5,hK5⟩
     case round =>
      clear hB5 hst hks5 hK5 hcap hmult hmm64 hmm
      obtain ⟨A'',n,c'',bs,done',rfl,hnc,hB,heq,hn64,hn300,hd64,hst,hks,hK⟩:=hrel
      have HQ:=Lib.hid heq
      clear heq
      by_cases hlt:0<n
      ·have hcut:=Bs.cutTo hB (hi:=64) (by omega)
       have i1:(64:Int)≤c'':=by omega
       have i2:(64:Int)≤n:=by omega
       have hl':=hB.len
       have HT:=Lib.hid (turn_any h 0 p 8 _ A'' c'' _ (blocks hAt done' (done'.length/64)) wr.drew hcut (by omega) hst hks)
       go_wp2_with fail
       go_region_with (go_at_call 272;refine HT.out.mono ?_;rintro e w4 ⟨rfl,h1,h2,h3,h4⟩)
       replace h2:=keep_undrew h2
       have hl64:(List.take 64 bs).length=64:=by rw [List.length_take];have:=hB.len;omega
       have hst4:W32s w4 h 0 8 (blocks hAt (done'++List.take 64 bs) ((done'++List.take 64 bs).length/64)):=by
        have hd:(done'++List.take 64 bs).length/64=done'.length/64+1:=by rw [List.length_append,hl64];omega
        rw [hd,blocks_snoc hAt done' _ _ (by omega) hl64];exact h1
       have hd64':(done'++List.take 64 bs).length%64=0:=by rw [List.length_append,hl64];omega
       have hks4:W32s w4 p 8 64 kAt:=hks.keep h2 hph
       have hK4:New w w4:=(Keep.trans2 (D:=fun b=>b<w.heap.size) (Keep.of_new hK) h2 (fun i hi _=>Nat.ne_of_lt (Nat.lt_of_lt_of_le hi hge))).toNew (fun i hi=>hi)
       have hB4:=hB.keep h2 (fun b _ hb=>hb)
       have hcat:done++(L++be8 (N*8))=done'++List.take 64 bs++List.drop 64 bs:=by rw [HQ.out,List.append_assoc,List.take_append_drop]
       have HC:=Lib.hid hcat
       clear h1 h2 h3 h4 HT hcut hcat hB hl' hst hks hK hl64
       by_cases hcc:c''=64
       ·go_wp2_with fail
        go_roundw
        case rel=>exact ⟨_,_,_,List.drop 64 bs,_,rfl,by omega,by rw [List.drop_eq_nil_of_le (by have:=Bs.len hB4;omega)];exact ⟨by simp;omega,fun h=>absurd h (by omega)⟩,HC.out,by omega,by omega,hd64',hst4,hks4,hK4⟩
        case measure=>simp [sliceLen];omega
       ·have hx:=Bs.from_ hB4 (l:=64) (by omega)
        go_wp2_with fail
        go_roundw
        case rel=>exact ⟨_,_,_,List.drop 64 bs,_,rfl,by omega,hx,HC.out,by omega,by omega,hd64',hst4,hks4,hK4⟩
        case measure=>simp [sliceLen];omega
      ·obtain rfl:n=0:=by omega
       obtain rfl:bs=[]:=List.eq_nil_of_length_eq_zero hB.len
       rw [List.append_nil] at HQ
       have hpd:done'=padded (done++rest):=by
        rw [← HQ.out,← HLL.out,HK.out]
        unfold padded
        rw [HN.out]
        have:padNoughts rest.length=padNoughts N:=by
         have h1:=HE.out.mult;have h2:=HN.out;rw [List.length_append] at h2;unfold padNoughts;omega
        rw [this];simp
       rw [hpd] at hst
       have HSH:Hid (stateBytes (blocks hAt (padded (done++rest)) ((padded (done++rest)).length/64))=shaSum (done++rest)):=Lib.hid rfl
       generalize blocks hAt (padded (done++rest)) ((padded (done++rest)).length/64)=f at hst HSH
       clear hpd HQ hB hks hd64
       have s0:=fun o=>((New.refl wr).alloc o).cell_some (hst.cell0 (j:=0) (by omega)) trivial
       have s1:=fun o=>((New.refl wr).alloc o).cell_some (hst.cell0 (j:=1) (by omega)) trivial
       have s2:=fun o=>((New.refl wr).alloc o).cell_some (hst.cell0 (j:=2) (by omega)) trivial
       have s3:=fun o=>((New.refl wr).alloc o).cell_some (hst.cell0 (j:=3) (by omega)) trivial
       have s4:=fun o=>((New.refl wr).alloc o).cell_some (hst.cell0 (j:=4) (by omega)) trivial
       have s5:=fun o=>((New.refl wr).alloc o).cell_some (hst.cell0 (j:=5) (by omega)) trivial
       have s6:=fun o=>((New.refl wr).alloc o).cell_some (hst.cell0 (j:=6) (by omega)) trivial
       have s7:=fun o=>((New.refl wr).alloc o).cell_some (hst.cell0 (j:=7) (by omega)) trivial
       have hmk:∀ w,(Instr.makeSlice 24 (.int .i64 0) (.int .i64 32)).run Tryz.prog w=.ok (.slice (some ⟨w.heap.size,0,none⟩) 0 32) (w.alloc (.cells (List.replicate 32 (Value.int .u8 0)).toArray 5)):=fun _=>by kernel_rfl
       clear hst
       go_wp2_with fail
       clear s0 s1 s2 s3 s4 s5 s6 s7 hmk
       generalize hW6:wr.alloc _=W6
       have ho6:OwnB W6 w.heap.size 5 (some ⟨wr.heap.size,0,none⟩) 0 32 []:=by
        rw [← hW6];exact World.ownsRow_made wr _ 32 hK.size (by decide) rfl
       have hK6:New w W6:=by rw [← hW6];exact hK.alloc _
       clear hW6
       go_loopw [7,59] (fun s7 i wx=>∃ (A:Option Addr) (n c k:Nat),s7=.slice A n c∧k≤8∧i=.int .i64 k∧n=4*k∧OwnB wx w.heap.size 5 A n c (stateTo f k)∧New w wx) (fun _ i _=>8-(intOf i).toNat)
       case atStart=>exact ⟨_,_,_,0,rfl,by omega,rfl,rfl,ho6,hK6⟩
       case round =>
        clear ho6 hK6 hK
        obtain ⟨A6,n,c6,k,rfl,hk8,rfl,hn4,hown,hK⟩:=hrel
        have hb:n≤32:=by omega
        have HN4:=Lib.hid hn4
        clear hn4
        by_cases hlt:k<8
        ·have hi:=index8 f k hlt wr
         have hbd:n+4≤140737488355328:=by omega
         go_wp2_with (at_builtin;refine app_bytes _ rfl (.tmp 62) (.tmp 74) rfl w.heap.size A6 n c6 _ rfl (hown.alloc _) (fun g=>wr.heap.size≤g) _ 4 4 (be4 (f k)) rfl (bs_four wr 5 _ _ _ _) hbd ((hK.alloc _).size) ?_;intro A3 c3 w3 hown3 hg3 hbk3)
         have hK3:=new_app hK hown hg3
         clear hg3 hbk3 hown hK hi
         go_roundw
         case rel=>exact ⟨_,_,_,k+1,rfl,by omega,by go_num,by have:=HN4.out;omega,by rw [stateTo_succ];exact hown3,hK3⟩
         case measure=>simp [intOf];omega
        ·obtain rfl:k=8:=by omega
         have hn32:=HN4.out
         obtain rfl:n=32:=hn32
         clear HN4
         go_wp2_with fail
         go_ret
         exact ⟨⟨_,_,rfl,by rw [← HSH.out];exact hown⟩,hK⟩
end Go.Proofs.YtdodbdednpnddaaGreatDoor
