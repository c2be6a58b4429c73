/-
  PROVED HERE: texts that belong together, one behind the other; what each proves, and under which conditions, its own opening remark says: Law17, BackLaw, CutsLaw, Laid17, Ref4, Heads, OwnHeads, BuildAny, Law18, Pair.
-/
import Derived.Test.YtdodbdednpnddaaGreatDoorCards
import Derived.Test.YtdodbdednpnddaaGreatDoorTie
import Derived.Deep.DeepHandedRow
import Derived.Lib.LaidTab
import Derived.Test.YtdodbdednpnddaaGreatDoorPkT14
set_option maxRecDepth 100000
namespace Go.Proofs.YtdodbdednpnddaaGreatDoor
open Go.RowKit
theorem headOf_cut (a b c d e f rest:List UInt8) (ha:a.length=2) (hb:b.length=8) (hc:c.length=2) (hd:d.length=2) (he:e.length=32) (hf:f.length=32):
  headOf (a++(b++(c++(d++(e++(f++rest))))))=⟨(beNat a:Nat),(beNat b:Nat),(beNat c:Nat),(beNat d:Nat),e,f⟩:=by
 unfold headOf
 dsimp only
 rw [RdS.num_cut a _ 2 ha.symm]
 dsimp only
 rw [RdS.num_cut b _ 8 hb.symm]
 dsimp only
 rw [RdS.num_cut c _ 2 hc.symm]
 dsimp only
 rw [RdS.num_cut d _ 2 hd.symm]
 dsimp only
 rw [RdS.raw_zero e _ 32 (by omega)]
 dsimp only
 rw [RdS.raw_zero f _ 32 (by omega)]
theorem seg_split {index first:Int}{prev:List UInt8}{rs:List RecP}(h:prev.length=32):segBytes index first prev rs=(segHead index first prev rs++be4 (crcSum (segHead index first prev rs)))++((leavesOf rs).flatten++List.replicate (942-(leavesOf rs).flatten.length) 0)∧(segHead index first prev rs++be4 (crcSum (segHead index first prev rs))).length=82:=by
 refine ⟨by unfold segBytes;rw [List.append_assoc],?_⟩
 rw [List.length_append,segHead_length _ _ _ _ h,be4_length]
theorem seg_sum {hd sum rest:List UInt8}(h:hd.length=78) (hs:sum.length=4):((hd++sum++rest).drop 78).take 4=sum∧(hd++sum++rest).take 78=hd∧(hd++sum++rest).drop 82=rest:=by
 refine ⟨?_,?_,?_⟩
 ·rw [List.append_assoc,List.drop_left' h,List.take_left' hs]
 ·rw [List.append_assoc,List.take_left' h]
 ·rw [List.drop_left'];simp [h,hs]
structure SegFine (index first:Int) (prev:List UInt8) (rs:List RecP):Prop where
 i0:0≤index
 i1:index≤65535
 f0:0≤first
 f1:first≤1099511627776
 prev:prev.length=32
 any:rs.length≠0
 right:∀ r∈rs,recRight r=true∧0≤r.seq
 room:(leavesOf rs).flatten.length≤942
 many:15*rs.length≤942
 seqs:∀ k (h:k<rs.length),rs[k].seq=first+k
section
variable {index first:Int}{prev:List UInt8}{rs:List RecP}
theorem SegFine.seqsW (h:SegFine index first prev rs):∀ k (hk:k<rs.length),rs[k].seq=IntKind.u64.wrap (first+(0+k:Nat)):=by
 intro k hk
 have h1:=h.seqs k hk
 have h2:=h.right rs[k] (List.getElem_mem hk)
 have h3:rs[k].seq≤1099511627776:=by have:=h2.1;unfold recRight at this;rw [decide_eq_true_eq] at this;exact this.1
 rw [IntKind.wrap_u64]
 omega
theorem SegFine.head (h:SegFine index first prev rs) (rest:List UInt8):headOf (segHead index first prev rs++rest)=⟨index,first,rs.length,(leavesOf rs).flatten.length,prev,rootOf (leavesOf rs)⟩:=by
 have e:segHead index first prev rs++rest=beI 2 index++(beI 8 first++(beI 2 rs.length++(beI 2 (leavesOf rs).flatten.length++(prev++(rootOf (leavesOf rs)++rest))))):=by
  simp only [segHead,List.append_assoc]
 rw [e,headOf_cut _ _ _ _ _ _ _ (beI_length _ _) (beI_length _ _) (beI_length _ _) (beI_length _ _) h.prev (rootOf_length _)]
 rw [beNat_beI 2 index h.i0 (by have:=h.i1;omega),beNat_beI 8 first h.f0 (by have:=h.f1;omega),beNat_beI 2 rs.length (by omega) (by have:=h.many;omega),beNat_beI 2 _ (by omega) (by have:=h.room;omega)]
theorem SegFine.read (h:SegFine index first prev rs):segRead (segBytes index first prev rs)=(⟨index,first,rs.length,(leavesOf rs).flatten.length,prev,rootOf (leavesOf rs)⟩,rs,0):=by
 have hl:=segBytes_length index first prev rs h.prev h.room
 have hs:=seg_split (index:=index) (first:=first) (rs:=rs) h.prev
 have hd:=seg_sum (hd:=segHead index first prev rs) (sum:=be4 (crcSum (segHead index first prev rs))) (rest:=(leavesOf rs).flatten++List.replicate (942-(leavesOf rs).flatten.length) 0) (segHead_length _ _ _ _ h.prev) rfl
 have hh:=h.head (be4 (crcSum (segHead index first prev rs))++((leavesOf rs).flatten++List.replicate (942-(leavesOf rs).flatten.length) 0))
 rw [← List.append_assoc,← hs.1] at hh
 rw [← hs.1] at hd
 have hgo:=recsGo_enc first [] rs 0 h.right h.seqsW
 rw [List.append_nil] at hgo
 have h942:=h.room
 have hsome:=h.any
 unfold segRead
 rw [if_neg (by rw [hl];decide),if_neg (by rw [hd.1,hd.2.1];simp),hh]
 dsimp only
 rw [if_neg (by omega),hd.2.2,Int.toNat_natCast,Int.toNat_natCast,List.take_left' rfl,hgo]
 dsimp only
 rw [if_neg,if_neg (by simp)]
 rw [hs.1,← List.drop_drop,List.drop_left' hs.2,List.drop_left' rfl]
 simp
end
section
variable {index first:Int}{prev:List UInt8}{rs:List RecP}
end
@[go_sem] theorem bv_xor (a b:UInt8):bits .xor .u8 (bv a) (bv b)=bv (a ^^^ b):=by
 unfold bv
 rw [UInt8.toNat_xor]
 exact u8_xor_nat _ _ a.toNat_lt b.toNat_lt
theorem right_len:∀ (rs:List RecP),(∀ r∈rs,recRight r=true)→15*rs.length≤(leavesOf rs).flatten.length
 | [],_=>by simp
 | r::rs,h=>by
  have ih:=right_len rs (fun x hx=>h x (by simp [hx]))
  have h1:=h r (by simp)
  rw [leavesOf_cons h1,List.flatten_cons,List.length_append,recEnc_len h1,List.length_cons]
  omega
theorem segRead_small (bs:List UInt8):(∀ r∈(segRead bs).2.1,recRight r=true)∧(leavesOf (segRead bs).2.1).flatten.length≤942∧(segRead bs).2.1.length≤942:=by
 have nil:(∀ r∈([]:List RecP),recRight r=true)∧(leavesOf ([]:List RecP)).flatten.length≤942∧([]:List RecP).length≤942:=by simp [leavesOf]
 unfold segRead
 split
 ·exact nil
 split
 ·exact nil
 split
 ·exact nil
 rename_i h1 h2 h3
 split
 ·exact nil
 ·rename_i rs rest hg
  split
  ·exact nil
  split
  ·exact nil
  ·obtain ⟨e,_,hr,_⟩:=recsGo_ok _ _ _ _ _ _ hg
   have hl:=congrArg List.length e
   rw [List.length_append,List.length_take] at hl
   have hb:(headOf bs).bytes.toNat≤942:=by omega
   have hr':∀ r∈rs,recRight r=true:=fun r h=>(hr r h).1
   have h15:=right_len rs hr'
   refine ⟨hr',?_,?_⟩
   ·show (leavesOf rs).flatten.length≤942
    omega
   ·show rs.length≤942
    omega
end Go.Proofs.YtdodbdednpnddaaGreatDoor
namespace Go.Proofs.YtdodbdednpnddaaGreatDoor
open Go.ChangeShapes Go.WideShapes Go.ChangeAt Go.RowKit
def rangeCells:Array Value:=(([128,191,160,191,128,159,144,191,128,143,0,0,0,0,0,0,0,0,0,0,0,0,0,0,0,0,0,0,0,0,0,0]:List Int).map (Value.int .u8)).toArray
def firstCells:Array Value:=(Go.Pinned.utf8FirstZ.map fun (n:Nat)=>Value.int .u8 (n:Int)).toArray
def withCells (cs:Array Value):Obj→Obj
 | .cells _ t frozen=>.cells cs t frozen
 | o=>o
end Go.Proofs.YtdodbdednpnddaaGreatDoor
namespace Go.Proofs.YtdodbdednpnddaaGreatDoor
open Go.RowKit
theorem bs_b4 (w:World) (a b c d:UInt8):Bs (w.alloc (.cells #[.int .u8 (bv a),.int .u8 (bv b),.int .u8 (bv c),.int .u8 (bv d)] 5)) (fun g=>w.heap.size≤g) (some ⟨w.heap.size,0,none⟩) 4 [a,b,c,d] :=
 Row.made w _ _ 4 1 rfl
def HeadAt (w:World) (D:Nat→Prop) (vs:List Value) (i:Nat) (h:HeadP):Prop :=
 ∃ A c A2 c2,vs[i]?=some (.int .i64 h.index)∧vs[i+1]?=some (.int .u64 h.first)∧vs[i+2]?=some (.int .i64 h.count)∧vs[i+3]?=some (.int .i64 h.bytes)∧vs[i+4]?=some (.slice A h.prev.length c)∧vs[i+5]?=some (.slice A2 h.root.length c2) ∧
  h.prev.length≤c∧h.root.length≤c2∧Bs w D A h.prev.length h.prev∧Bs w D A2 h.root.length h.root∧0≤h.first∧h.first≤18446744073709551615
section
variable {w w':World}{D E:Nat→Prop}{A:Option Addr}{n:Nat}{hs:List HeadP}
end
def genesisOf (id:List UInt8):List UInt8:=shaSum (3::id)
theorem genesis_any (D:Nat→Prop) (A:Option Addr) (n c:Nat) (bs:List UInt8) (w:World) (hB:Bs w D A n bs) (hc:n≤c) (hn:n≤1099511620000):
  Calls Tryz.prog 92 #[.slice A n c] w fun e w'=>(∃ A' c',e=.returned (.slice A' 32 c')∧OwnB w' w.heap.size 5 A' 32 c' (genesisOf bs))∧New w w':=by
 have hl:=hB.len
 have h0:=bs_one w 5 3 _ rfl
 have hlit:=(Bss.lit (w.alloc (.cells #[.int .u8 3] 5)) 24 [.slice (some ⟨w.heap.size,0,none⟩) 1 1,.slice A n c] [[3],bs] rfl
  (fun k hk=>match k,hk with|0,_=>⟨_,1,rfl,by simp,_,h0⟩|1,_=>⟨A,c,by simp [hl],by simp [hl];exact hc,D,by simpa [hl] using hB.alloc _⟩))
 rw [show (w.alloc (.cells #[.int .u8 3] 5)).heap.size=w.heap.size+1 from by simp] at hlit
 replace hlit:=Lib.hid hlit
 have HF:=Lib.hid (show ([[3],bs]:List (List UInt8)).flatten=3::bs by simp)
 have HFL:=Lib.hid (show ([[3],bs]:List (List UInt8)).flatten.length=n+1 by simp [hl])
 have HN:=Lib.hid (show New w ((w.alloc (.cells #[.int .u8 3] 5)).alloc (.cells #[.slice (some ⟨w.heap.size,0,none⟩) 1 1,.slice A n c] 24)) from ((New.refl w).alloc _).alloc _)
 clear hl h0
 go_enter Tryz.func92,Tryz.ntmps92
 go_wp2_with fail
 refine (concat_any _ _ _ _ [[3],bs] _ hlit.out (by rw [HFL.out];omega) (by simp)).mono ?_
 rintro e w2 ⟨⟨A',c',rfl,hown⟩,hK2⟩
 rw [HFL.out,HF.out] at hown
 rw [HFL.out]
 go_wp2_with fail
 refine (shaSum_any _ A' (n+1) c' (3::bs) w2 (Row.of_own hown) (own_cap hown) (by omega)).mono ?_
 rintro e w3 ⟨⟨A3,c3,rfl,hown3⟩,hK3⟩
 go_wp2_with fail
 go_ret
 exact ⟨⟨A3,c3,rfl,own_base hown3 (HN.out.new hK2).size⟩,(HN.out.new hK2).new hK3⟩
def OwnHeads (w:World) (base:Nat) (D:Nat→Prop) (A:Option Addr) (n c:Nat) (hs:List HeadP):Prop :=
 ∃ vs:List Value,Own w base 264 6 A n c vs∧hs.length=n∧∀ k (h:k<hs.length),HeadAt w (fun b=>D b∧some b≠blk A) vs (k*6) hs[k]
section
variable {w w':World}{base base':Nat}{D E:Nat→Prop}{A:Option Addr}{n c:Nat}{hs:List HeadP}
end
def buildOf (index first:Int) (pr:List UInt8) (rs:List RecP):List UInt8×Int :=
 if buildArgs index first pr.length rs=false then ([],1) else if seqsFrom first rs=false then ([],12) else (segBytes index first pr rs,0)
def BuildRet (d:List UInt8×Int) (w:World) (e:Ending) (w':World):Prop :=
 (∃ A' c',e=.returned (.tuple #[.slice A' d.1.length c',.int .i64 d.2])∧OwnB w' w.heap.size 5 A' d.1.length c' d.1)∧New w w'
theorem build_any (D D2:Nat→Prop) (index first:Int) (A A2:Option Addr) (c m c2:Nat) (pr:List UInt8) (rs:List RecP) (w:World) (hB:Bs w D A pr.length pr) (hnc:pr.length≤c) (hR:Recs w D2 A2 m rs) (hm:m≤9223372036854775807) (hf0:0≤first):
  Calls Tryz.prog 193 #[.int .i64 index,.int .u64 first,.slice A pr.length c,.slice A2 m c2] w (BuildRet (buildOf index first pr rs) w):=by
 cases h:buildArgs index first pr.length rs
 ·refine (build_arg D D2 index first A A2 pr.length c m c2 rs w hR hm h).mono ?_
  rintro e w' ⟨rfl,hK⟩
  unfold buildOf
  rw [if_pos h]
  exact ⟨⟨none,0,rfl,Own.nil _ _ _ _⟩,hK⟩
 ·cases hq:seqsFrom first rs
  ·refine (build_form D D2 index first A A2 pr.length c m c2 pr rs w hB hnc hR hm hf0 h hq).mono ?_
   rintro e w' ⟨rfl,hK⟩
   unfold buildOf
   rw [if_neg (by rw [h];decide),if_pos hq]
   exact ⟨⟨none,0,rfl,Own.nil _ _ _ _⟩,hK⟩
  ·refine (build_ok D D2 index first A A2 pr.length c m c2 pr rs w hB hnc hR hm hf0 h hq).mono ?_
   rintro e w' ⟨⟨A',c',rfl,ho⟩,hK⟩
   have hl:(segBytes index first pr rs).length=1024:=by simpa using ho.1
   unfold buildOf
   rw [if_neg (by rw [h];decide),if_neg (by rw [hq];decide)]
   refine ⟨⟨A',c',?_,?_⟩,hK⟩
   ·dsimp only;rw [hl]
   ·dsimp only;rw [hl];exact ho
theorem genesisOf_length (id:List UInt8):(genesisOf id).length=32:=shaSum_length _
theorem recRight_def (r:RecP):recRight r=decide (r.seq≤1099511627776∧r.body.length≤900∧(r.kind=1∨r.kind=2∧r.body.length=0)):=rfl
def chainHead (i:Nat) (next:Int) (prev:List UInt8) (rs:List RecP):HeadP:=⟨i,next,rs.length,(leavesOf rs).flatten.length,prev,rootOf (leavesOf rs)⟩
theorem keep_blk {w w':World}{A:Option Addr}(hg:w.grownBy w' (blk A)):Keep (fun b=>some b≠blk A) w w':=(Keep.refl _ w).grown hg (fun _ hj hd=>absurd hj.symm hd)
theorem ne_blk {w:World}{A A3:Option Addr}(hbk:blk A3=blk A∨blk A3=some w.heap.size){b:Nat}(hb:b<w.heap.size) (hne:some b≠blk A):some b≠blk A3:=by
 rcases hbk with e|e
 ·rw [e];exact hne
 ·rw [e];intro q;injection q;omega
structure Pair (w:World) (base:Nat) (A:Option Addr) (n c:Nat) (hs:List HeadP) (A':Option Addr) (n' c':Nat) (rs:List RecP):Prop where
 heads:OwnHeads w base (fun b=>base≤b∧some b≠blk A') A n c hs
 recs:OwnRecs w base (fun b=>base≤b∧some b≠blk A) A' n' c' rs
section
variable {w w' w2:World}{base:Nat}{A A':Option Addr}{n c n' c':Nat}{hs:List HeadP}{rs:List RecP}
end
theorem read_first (bs:List UInt8):0≤(segRead bs).1.first∧(segRead bs).1.first≤18446744073709551615:=by
 have hf:0≤(headOf bs).first∧(headOf bs).first≤18446744073709551615:=by
  have h:=num_lt ((RdS.mk bs 0).num 2).2 8
  refine ⟨Int.natCast_nonneg _,?_⟩
  show ((((RdS.mk bs 0).num 2).2.num 8).1:Int)≤_
  omega
 have nil:0≤noHead.first∧noHead.first≤18446744073709551615:=by simp [noHead]
 unfold segRead
 split
 ·exact nil
 split
 ·exact nil
 split
 ·exact nil
 split
 ·exact nil
 ·split
  ·exact nil
  split
  ·exact nil
  ·exact hf
end Go.Proofs.YtdodbdednpnddaaGreatDoor
