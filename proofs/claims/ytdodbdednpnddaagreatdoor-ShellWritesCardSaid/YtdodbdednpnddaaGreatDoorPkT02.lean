/-
  PROVED HERE: what the program's stream of SHA-256 does; conditions: fewer than 2^40 bytes.
-/
import Derived.StillTailTactics
import Derived.Deep.DeepCutAuto
import Derived.Deep.RegionLaw
import Derived.Test.YtdodbdednpnddaaGreatDoorPkT01
set_option maxRecDepth 100000
set_option maxHeartbeats 2000000
namespace Go.Proofs.YtdodbdednpnddaaGreatDoor
open Go.RowKit
structure StrE (w:World) (base p:Nat) (done rest:List UInt8) (n:Nat):Prop where
 hp:base≤p
 state:W32s w p 0 8 (blocks hAt done (done.length/64))
 ks:W32s w p 8 64 kAt
 mult:done.length%64=0
 rest:∃ A c,w.cell? ⟨p,72,none⟩=some (.slice A rest.length c)∧OwnB w base 5 A rest.length c rest∧blk A≠some p
 num:w.cell? ⟨p,73,none⟩=some (.int .i64 n)
 free:w.frozen? ⟨p,72,none⟩=false∧w.frozen? ⟨p,73,none⟩=false
theorem StrE.lt {w:World}{base p:Nat}{done rest:List UInt8}{n:Nat}(h:StrE w base p done rest n):p<w.heap.size:=World.block_lt_of_cell? w _ h.num
theorem StrE.setNum {w:World}{base p:Nat}{done rest:List UInt8}{n:Nat}(h:StrE w base p done rest n) (m:Nat):StrE (w.setCell ⟨p,73,none⟩ (.int .i64 m)) base p done rest m:=by
 obtain ⟨A,c,h1,h2,h3⟩:=h.rest
 refine ⟨h.hp,h.state.far (.inr (.inr (by simp))) _,h.ks.far (.inr (.inr (by simp))) _,h.mult,⟨A,c,?_,?_,h3⟩,World.cell?_setCell_same _ _ _ h.num,?_,?_⟩
 ·rw [World.cell?_setCell_other _ _ _ _ (by intro hh;injection hh;omega)];exact h1
 ·exact own_set h2 h3 _
 ·rw [World.frozen?_setCell];exact h.free.1
 ·rw [World.frozen?_setCell];exact h.free.2
theorem StrE.put {w w2:World}{base p:Nat}{done rest:List UInt8}{n:Nat}(h:StrE w base p done rest n){A1 A2:Option Addr}{m c2:Nat}{more:List UInt8}
  (hown2:OwnB w2 base 5 A2 m c2 (rest++more)) (hg2:w.grownBy w2 (blk A1)) (hbk2:blk A2=blk A1∨blk A2=some w.heap.size) (hne:blk A1≠some p)
  (hcc:∃ u,w2.cell? ⟨p,72,none⟩=some u):StrE (w2.setCell ⟨p,72,none⟩ (.slice A2 m c2)) base p done (rest++more) n:=by
 have hp:=h.lt
 have hk:Keep (fun b=>b=p) w w2:=(Keep.refl _ w).grown hg2 (fun k hk hd=>absurd (hd▸hk) hne)
 have hm:m=(rest++more).length:=by have:=hown2.1;simpa using this.symm
 have hA2:blk A2≠some p:=by
  rcases hbk2 with e|e <;> rw [e]
  ·exact hne
  ·intro e';injection e';omega
 obtain ⟨u,hu⟩:=hcc
 refine ⟨h.hp,(h.state.keep hk rfl).far (.inr (.inr (by simp))) _,(h.ks.keep hk rfl).far (.inr (.inr (by simp))) _,h.mult,⟨A2,c2,?_,?_,hA2⟩,?_,?_,?_⟩
 ·rw [← hm];exact World.cell?_setCell_same _ _ _ hu
 ·rw [← hm];exact own_set hown2 hA2 _
 ·rw [World.cell?_setCell_other _ _ _ _ (by intro hh;injection hh;omega)];exact (hk.cell hp rfl).trans h.num
 ·rw [World.frozen?_setCell];exact (hk.frozen hp rfl).trans h.free.1
 ·rw [World.frozen?_setCell];exact (hk.frozen hp rfl).trans h.free.2
theorem keep_undrew {D:Nat→Prop}{w w':World}(h:Keep D w.drew w'):Keep D w w':=⟨h.os,h.tape,h.output,h.size,h.block⟩
theorem own_cap {w:World}{base:Nat}{e:TypeId}{size n c:Nat}{A:Option Addr}{xs:List Value}(h:Own w base e size A n c xs):n≤c:=by
 rcases h.2 with ⟨hv,hn⟩|⟨g,cap,cur,hv,hb,hg,h1,h2,h3,h4⟩
 ·omega
 ·injection hv with h5 h6 h7;omega
theorem own_empty {w:World}{base:Nat}{e:TypeId}{A:Option Addr}{n c:Nat}{xs:List Value}(h:Own w base e 1 A n c xs):Own w base e 1 A 0 c []:=by
 refine ⟨rfl,?_⟩
 rcases h.2 with ⟨hv,hn⟩|⟨g,cap,cur,hv,hb,hg,h1,h2,h3,h4⟩
 ·subst hn;exact .inl ⟨by simpa using hv,rfl⟩
 ·injection hv with h5 h6 h7
  subst h5 h7
  exact .inr ⟨g,c,cur,rfl,hb,hg,Nat.zero_le _,h2,h3,by simp⟩
theorem StrE.turned {w w':World}{base p:Nat}{done rest:List UInt8}{n:Nat}(h:StrE w base p done rest n){A:Option Addr}{c:Nat}(hl:rest.length=64)
  (hown:OwnB w base 5 A 64 c rest) (hne:blk A≠some p)
  (h1:W32s w' p 0 8 (compress (blocks hAt done (done.length/64)) rest)) (h2:Keep (fun b=>b≠p) w w') (h3:∀ j,j<0∨0+8≤j→w'.cell? ⟨p,j,none⟩=w.cell? ⟨p,j,none⟩) (h4:∀ j,w'.frozen? ⟨p,j,none⟩=w.frozen? ⟨p,j,none⟩):
  StrE (w'.setCell ⟨p,72,none⟩ (.slice A 0 c)) base p (done++rest) [] n:=by
 have hm:=h.mult
 have hlen:(done++rest).length=done.length+64:=by rw [List.length_append,hl]
 have hd:(done++rest).length/64=done.length/64+1:=by rw [hlen];omega
 obtain ⟨A0,c0,hc,_,_⟩:=h.rest
 refine ⟨h.hp,?_,?_,by rw [hlen];omega,⟨A,c,?_,?_,hne⟩,?_,?_,?_⟩
 ·rw [hd,blocks_snoc hAt done rest _ (by omega) hl]
  exact h1.far (.inr (.inr (by simp))) _
 ·refine W32s.far (fun j hj=>⟨(h3 _ (by omega)).trans (h.ks.cell hj),(h4 _).trans (h.ks.free hj)⟩) (.inr (.inr (by simp))) _
 ·exact World.cell?_setCell_same _ _ _ ((h3 72 (by omega)).trans hc)
 ·exact own_set (own_keep (own_empty hown) h2 (fun k hk e=>hne (e▸hk))) hne _
 ·rw [World.cell?_setCell_other _ _ _ _ (by intro hh;injection hh;omega)];exact (h3 73 (by omega)).trans h.num
 ·rw [World.frozen?_setCell];exact (h4 72).trans h.free.1
 ·rw [World.frozen?_setCell];exact (h4 73).trans h.free.2
theorem StrE.turn1 {w w':World}{base p:Nat}{done rest bk:List UInt8}{n:Nat}(h:StrE w base p done rest n) (hl:bk.length=64)
  (h1:W32s w' p 0 8 (compress (blocks hAt done (done.length/64)) bk)) (h2:Keep (fun b=>b≠p) w w') (h3:∀ j,j<0∨0+8≤j→w'.cell? ⟨p,j,none⟩=w.cell? ⟨p,j,none⟩) (h4:∀ j,w'.frozen? ⟨p,j,none⟩=w.frozen? ⟨p,j,none⟩):
  StrE w' base p (done++bk) rest n:=by
 have hm:=h.mult
 have hlen:(done++bk).length=done.length+64:=by rw [List.length_append,hl]
 have hd:(done++bk).length/64=done.length/64+1:=by rw [hlen];omega
 obtain ⟨A0,c0,hc,hown,hne⟩:=h.rest
 refine ⟨h.hp,?_,fun j hj=>⟨(h3 _ (by omega)).trans (h.ks.cell hj),(h4 _).trans (h.ks.free hj)⟩,by rw [hlen];omega,⟨A0,c0,(h3 72 (by omega)).trans hc,own_keep hown h2 (fun k hk e=>hne (e▸hk)),hne⟩,(h3 73 (by omega)).trans h.num,(h4 72).trans h.free.1,(h4 73).trans h.free.2⟩
 rw [hd,blocks_snoc hAt done bk _ (by omega) hl]
 exact h1
def sliceLen:Value→Nat
 | .slice _ n _=>n
 | _=>0
def Str (w:World) (base p:Nat) (bs:List UInt8):Prop:=∃ done rest,bs=done++rest∧rest.length<64∧StrE w base p done rest bs.length
theorem begun_any (w:World):Calls Tryz.prog 270 #[] w fun e w'=>e=.returned (.agg #[.int .u32 1779033703,.int .u32 3144134277,.int .u32 1013904242,.int .u32 2773480762,.int .u32 1359893119,.int .u32 2600822924,.int .u32 528734635,.int .u32 1541459225])∧New w w':=by
 go_enter Tryz.func270,Tryz.ntmps270
 go_wp2
 exact bodyPost_ret (results_cell_row rfl _ _ _ _ _ _ _ rfl (heap_alloc_new w _) Tryz.underlying350 rfl (by kernel_rfl)) rfl ⟨rfl,(New.refl w).alloc _⟩
def kArr:Array Value:=#[.int .u32 1116352408,.int .u32 1899447441,.int .u32 3049323471,.int .u32 3921009573,.int .u32 961987163,.int .u32 1508970993,.int .u32 2453635748,.int .u32 2870763221,.int .u32 3624381080,.int .u32 310598401,.int .u32 607225278,.int .u32 1426881987,.int .u32 1925078388,.int .u32 2162078206,.int .u32 2614888103,.int .u32 3248222580,.int .u32 3835390401,.int .u32 4022224774,.int .u32 264347078,.int .u32 604807628,.int .u32 770255983,.int .u32 1249150122,.int .u32 1555081692,.int .u32 1996064986,.int .u32 2554220882,.int .u32 2821834349,.int .u32 2952996808,.int .u32 3210313671,.int .u32 3336571891,.int .u32 3584528711,.int .u32 113926993,.int .u32 338241895,.int .u32 666307205,.int .u32 773529912,.int .u32 1294757372,.int .u32 1396182291,.int .u32 1695183700,.int .u32 1986661051,.int .u32 2177026350,.int .u32 2456956037,.int .u32 2730485921,.int .u32 2820302411,.int .u32 3259730800,.int .u32 3345764771,.int .u32 3516065817,.int .u32 3600352804,.int .u32 4094571909,.int .u32 275423344,.int .u32 430227734,.int .u32 506948616,.int .u32 659060556,.int .u32 883997877,.int .u32 958139571,.int .u32 1322822218,.int .u32 1537002063,.int .u32 1747873779,.int .u32 1955562222,.int .u32 2024104815,.int .u32 2227730452,.int .u32 2361852424,.int .u32 2428436474,.int .u32 2756734187,.int .u32 3204031479,.int .u32 3329325298]
theorem constants_any (w:World):Calls Tryz.prog 271 #[] w fun e w'=>e=.returned (.agg kArr)∧New w w':=by
 go_enter Tryz.func271,Tryz.ntmps271
 go_wp2_with (first|(refine wpList_build rfl 352 _ rfl (by kernel_rfl) ?_;refine wpList_store_new rfl 352 _ _ rfl 352 _ kArr (by kernel_rfl) (by kernel_rfl) (by kernel_rfl) rfl (by kernel_rfl) (by kernel_rfl) ?_))
 exact bodyPost_ret (results_cell_row rfl _ _ _ _ _ _ _ rfl (heap_alloc_new w _) Tryz.underlying352 rfl (by kernel_rfl)) rfl ⟨rfl,(New.refl w).alloc _⟩
def hArr:Array Value:=#[.int .u32 1779033703,.int .u32 3144134277,.int .u32 1013904242,.int .u32 2773480762,.int .u32 1359893119,.int .u32 2600822924,.int .u32 528734635,.int .u32 1541459225]
def streamArr:Array Value:=hArr++kArr++#[.slice none 0 0,.int .i64 0]
theorem vals_at (l:List Nat) (hl:∀ n∈l,n<4294967296) (j:Nat) (hj:j<l.length):(l.map fun (n:Nat)=>Value.int .u32 (n:Int))[j]?=some (.int .u32 (wv (BitVec.ofNat 32 (l.getD j 0)))):=by
 rw [List.getElem?_map,List.getElem?_eq_getElem hj,List.getD_eq_getElem?_getD,List.getElem?_eq_getElem hj]
 have:=hl _ (List.getElem_mem hj)
 simp only [Option.map_some,Option.getD_some,wv,BitVec.toNat_ofNat]
 rw [Nat.mod_eq_of_lt (by omega)]
theorem stream_list:streamArr.toList=(hList.map fun (n:Nat)=>Value.int .u32 (n:Int))++((kList.map fun (n:Nat)=>Value.int .u32 (n:Int))++[.slice none 0 0,.int .i64 0]):=rfl
theorem stream_h (j:Nat) (hj:j<8):streamArr[j]?=some (.int .u32 (wv (hAt j))):=by
 rw [← Array.getElem?_toList,stream_list,List.getElem?_append_left (by simpa [hList] using hj)]
 exact vals_at hList (by decide) j hj
theorem stream_k (j:Nat) (hj:j<64):streamArr[8+j]?=some (.int .u32 (wv (kAt j))):=by
 rw [← Array.getElem?_toList,stream_list,List.getElem?_append_right (by simp [hList])]
 rw [show 8+j-(hList.map fun (n:Nat)=>Value.int .u32 (n:Int)).length=j from by simp [hList],List.getElem?_append_left (by simpa [kList] using hj)]
 exact vals_at kList (by decide) j hj
theorem new_any (w:World):Calls Tryz.prog 208 #[] w fun e w'=>(∃ p,e=.returned (.pointer (some ⟨p,0,none⟩))∧Str w' w.heap.size p [])∧New w w':=by
 go_enter Tryz.func208,Tryz.ntmps208
 go_wp2_with fail
 refine (begun_any _).mono ?_
 rintro e w1 ⟨rfl,h1⟩
 go_wp2_with fail
 refine (constants_any _).mono ?_
 rintro e w2 ⟨rfl,h2⟩
 go_wp2_with (refine wpList_build_as rfl 355 _ rfl streamArr (by kernel_rfl) ?_)
 go_ret
 refine ⟨⟨_,rfl,[],[],rfl,by decide,?_⟩,(h1.new h2).alloc _⟩
 have hc:=fun j=>cell_of_row (w2.alloc (.cells streamArr 355)) w2.heap.size j streamArr 355 (0,0) (heap_alloc_new w2 _)
 have hf:=fun j=>free_new w2 streamArr 355 j
 refine ⟨(h1.new h2).size,fun j hj=>⟨?_,hf _⟩,fun j hj=>⟨?_,hf _⟩,rfl,⟨none,0,?_,Own.nil _ _ _ _,by simp [blk]⟩,?_,hf _,hf _⟩
 ·rw [Nat.zero_add,hc];exact stream_h j hj
 ·rw [hc];exact stream_k j hj
 ·rw [hc];exact congrArg some (by kernel_rfl)
 ·rw [hc];exact congrArg some (by kernel_rfl)
theorem write_any (base p:Nat) (D:Nat→Prop) (A:Option Addr) (n c:Nat) (bs bs2:List UInt8) (w:World) (hS:Str w base p bs) (hB:Bs w D A n bs2) (hD:∀ b,D b→b<base) (hn:bs.length+n≤1099511627776) (hnc:n≤c):
  Calls Tryz.prog 209 #[.pointer (some ⟨p,0,none⟩),.slice A n c] w fun e w'=>e=.returned (.tuple #[])∧Str w' base p (bs++bs2)∧Keep (fun b=>b<base) w w':=by
 obtain ⟨done,rest,rfl,hr,hE⟩:=hS
 obtain ⟨A1,c1,hc72,hown,hne⟩:=hE.rest
 have hc73:=hE.num
 have hf72:=hE.free.1
 have hf73:=hE.free.2
 have hl2:=hB.len
 have hpb:=hE.hp
 have hlen:(done++rest).length=done.length+rest.length:=List.length_append
 rw [hlen] at hc73 hn
 have e1:((done.length+rest.length:Nat):Int)=(done.length:Int)+rest.length:=by omega
 rw [e1] at hc73
 have HL:=Lib.hid hlen
 have HE:=Lib.hid hE
 clear hlen e1 hE
 have h1:=HE.out.setNum (done.length+rest.length+n)
 have e2:((done.length+rest.length+n:Nat):Int)=(done.length:Int)+rest.length+n:=by omega
 rw [e2] at h1
 have hK1:Keep (fun b=>b<base) w (w.setCell ⟨p,73,none⟩ (.int .i64 ((done.length:Int)+rest.length+n))):=(Keep.refl _ w).setCell (fun hb=>absurd hb (by simp;omega)) _
 clear e2
 go_enter Tryz.func209,Tryz.ntmps209
 go_upto_if 19 with fail
 generalize hw1:w.setCell ⟨p,73,none⟩ _=w1 at h1 hK1 ⊢
 have hB1:Bs w1 D A n bs2:=hB.keep hK1 (fun b _ hd=>hD b hd)
 clear hw1 hc72 hc73 hf72 hf73 hown hne HE hB
 obtain ⟨A1,c1,hc72,hown,hne⟩:=h1.rest
 have hf72:=h1.free.1
 have H1:=Lib.hid h1
 clear h1
 go_cut [1] (fun s1 wx=>∃ A' n' c' bs' done',s1=.slice A' n' c'∧n'≤c'∧Bs wx D A' n' bs'∧done++rest++bs2=done'++bs'∧StrE wx base p done' [] (done.length+rest.length+n)∧Keep (fun b=>b<base) w wx)
 case first =>
  by_cases hz:rest.length=0
  ·obtain rfl:rest=[]:=List.eq_nil_of_length_eq_zero hz
   go_wp2_with fail
   go_meet
   exact ⟨A,n,c,bs2,done,rfl,hnc,hB1,by simp,H1.out,hK1⟩
  ·have hz':0<rest.length:=by omega
   by_cases hk:64-rest.length<n
   ·have hcut:=Bs.cutTo hB1 (hi:=64-rest.length) (by omega)
    have i1:(rest.length:Int)≤64:=by omega
    have i2:64-(rest.length:Int)≤c:=by omega
    go_wp2_with fail
    have hsz:base≤w1.heap.size:=Nat.le_trans hpb (Nat.le_of_lt H1.out.lt)
    have hplt:=H1.out.lt
    have hne':=Ne.symm hne
    have hbd:rest.length+(64-rest.length)≤140737488355328:=by omega
    go_region_law (refine step_bytes _ rfl (.tmp 33) (.tmp 36) rfl base A1 rest.length c1 rest ?hs hown D A (64-rest.length) c _ ?hx hcut hbd hsz ?next;(case hs=>simp [Act.eval]);(case hx=>simp [Act.eval]);intro A2 c2 w2 hown2 hg2 hbk2;have cc:=hg2.cell (a:=⟨p,72,none⟩) hc72 hne';have ff:=(hg2.frozen_far ⟨p,72,none⟩ hplt hne').trans hf72)
    replace hg2:=undrew hg2
    have hE2:=H1.out.put hown2 hg2 hbk2 hne ⟨_,cc⟩
    have hm2:rest.length+(64-rest.length)=64:=by omega
    rw [hm2] at hE2 hown2
    have hK13:Keep (fun b=>b<base) w1 (w2.setCell ⟨p,72,none⟩ (.slice A2 64 c2)):=((Keep.refl _ w1).grown (w':=w2) hg2 (fun k hk hd=>absurd hd (by have:=own_lt hown k hk;omega))).setCell (fun hb=>absurd hb (by simp;omega)) _
    have hK2:=hK1.trans hK13
    simp only [hm2]
    generalize w2.setCell ⟨p,72,none⟩ _=w3 at *
    have hB3:Bs w3 D A n bs2:=hB1.keep hK13 (fun b _ hd=>hD b hd)
    have hcut2:=Bs.from_ hB3 (l:=64-rest.length) (by omega)
    have hlr:(rest++List.take (64-rest.length) bs2).length=64:=by rw [List.length_append,List.length_take];omega
    clear hown2 hg2 hbk2 cc ff hc72 hown hne hne' hf72 H1 hK1 hB1 hcut
    obtain ⟨A3,c3,hc72,hown,hne⟩:=hE2.rest
    rw [hlr] at hc72 hown
    have hf72:=hE2.free.1
    have H2:=Lib.hid hE2
    have HR:=Lib.hid hlr
    clear hE2 hlr
    go_wp2_with fail
    have ht:=turn_any p 0 p 8 (fun b=>base≤b) A3 c3 _ (blocks hAt done (done.length/64)) w3.drew (Row.of_own hown) (by have:=own_cap hown;omega) H2.out.state H2.out.ks
    have HT:=Lib.hid ht
    clear ht
    go_region_with (go_at_call 272;refine HT.out.mono ?_;rintro e w4 ⟨rfl,h1,h2,h3,h4⟩)
    replace h2:=keep_undrew h2
    have hfin:=H2.out.turned HR.out hown hne h1 h2 h3 h4
    have cc4:=(h3 72 (by omega)).trans hc72
    have ff4:=(h4 72).trans hf72
    have hK4:Keep (fun b=>b<base) w3 (w4.setCell ⟨p,72,none⟩ (.slice A3 0 c3)):=Keep.setCell (p:=⟨p,72,none⟩) (h2.imp (E:=fun b=>b<base) fun i hi hb=>Nat.ne_of_lt (Nat.lt_of_lt_of_le hb hpb)) (fun hb=>absurd hb (Nat.not_lt.2 hpb)) _
    clear h1 h2 h3 h4 HT hc72 hf72 hown
    go_wp2_with fail
    go_meet
    refine ⟨_,_,_,_,_,rfl,by omega,hcut2.keep hK4 (fun b _ hd=>hD b hd),?_,hfin,hK2.trans hK4⟩
    simp only [List.append_assoc,List.take_append_drop]
   ·replace hk:n≤64-rest.length:=Nat.le_of_not_lt hk
    have hcut:=Bs.cutTo hB1 (hi:=n) (by omega)
    have i1:(rest.length:Int)≤64:=by omega
    have i2:(n:Int)≤c:=by omega
    go_wp2_with fail
    have hsz:base≤w1.heap.size:=Nat.le_trans hpb (Nat.le_of_lt H1.out.lt)
    have hplt:=H1.out.lt
    have hne':=Ne.symm hne
    have hbd:rest.length+n≤140737488355328:=by omega
    go_region_law (refine step_bytes _ rfl (.tmp 33) (.tmp 36) rfl base A1 rest.length c1 rest ?hs2 hown D A n c _ ?hx2 hcut hbd hsz ?next2;(case hs2=>simp [Act.eval]);(case hx2=>simp [Act.eval]);intro A2 c2 w2 hown2 hg2 hbk2;have cc:=hg2.cell (a:=⟨p,72,none⟩) hc72 hne';have ff:=(hg2.frozen_far ⟨p,72,none⟩ hplt hne').trans hf72)
    replace hg2:=undrew hg2
    have hE2:=H1.out.put hown2 hg2 hbk2 hne ⟨_,cc⟩
    by_cases hm2:rest.length+n=64
    ·skip
     rw [hm2] at hE2 hown2
     have hK13:Keep (fun b=>b<base) w1 (w2.setCell ⟨p,72,none⟩ (.slice A2 64 c2)):=((Keep.refl _ w1).grown (w':=w2) hg2 (fun k hk hd=>absurd hd (by have:=own_lt hown k hk;omega))).setCell (fun hb=>absurd hb (by simp;omega)) _
     have hK2:=hK1.trans hK13
     simp only [hm2]
     generalize w2.setCell ⟨p,72,none⟩ _=w3 at *
     have hB3:Bs w3 D A n bs2:=hB1.keep hK13 (fun b _ hd=>hD b hd)
     have hlr:(rest++List.take n bs2).length=64:=by rw [List.length_append,List.length_take];omega
     clear hown2 hg2 hbk2 cc ff hc72 hown hne hne' hf72 H1 hK1 hB1 hcut
     obtain ⟨A3,c3,hc72,hown,hne⟩:=hE2.rest
     rw [hlr] at hc72 hown
     have hf72:=hE2.free.1
     have H2:=Lib.hid hE2
     have HR:=Lib.hid hlr
     clear hE2 hlr
     by_cases hcn:c=n
     all_goals
      go_wp2_with fail
      have ht:=turn_any p 0 p 8 (fun b=>base≤b) A3 c3 _ (blocks hAt done (done.length/64)) w3.drew (Row.of_own hown) (by have:=own_cap hown;omega) H2.out.state H2.out.ks
      have HT:=Lib.hid ht
      clear ht
      go_region_with (go_at_call 272;refine HT.out.mono ?_;rintro e w4 ⟨rfl,h1,h2,h3,h4⟩)
      replace h2:=keep_undrew h2
      have hfin:=H2.out.turned HR.out hown hne h1 h2 h3 h4
      have cc4:=(h3 72 (by omega)).trans hc72
      have ff4:=(h4 72).trans hf72
      have hK4:Keep (fun b=>b<base) w3 (w4.setCell ⟨p,72,none⟩ (.slice A3 0 c3)):=Keep.setCell (p:=⟨p,72,none⟩) (h2.imp (E:=fun b=>b<base) fun i hi hb=>Nat.ne_of_lt (Nat.lt_of_lt_of_le hb hpb)) (fun hb=>absurd hb (Nat.not_lt.2 hpb)) _
      clear h1 h2 h3 h4 HT hc72 hf72 hown
      go_wp2_with fail
      go_meet
      refine ⟨_,_,_,[],_,rfl,by omega,⟨by simp,fun h=>absurd h (by omega)⟩,?_,hfin,hK2.trans hK4⟩
      rw [List.take_of_length_le (by omega)];simp
    ·have hlt:rest.length+n<64:=by omega
     have htk:List.take n bs2=bs2:=List.take_of_length_le (by omega)
     rw [htk] at hE2
     have hK13:Keep (fun b=>b<base) w1 (w2.setCell ⟨p,72,none⟩ (.slice A2 (rest.length+n) c2)):=((Keep.refl _ w1).grown (w':=w2) hg2 (fun k hk hd=>absurd hd (by have:=own_lt hown k hk;omega))).setCell (fun hb=>absurd hb (by simp;omega)) _
     have hK2:=hK1.trans hK13
     generalize w2.setCell ⟨p,72,none⟩ _=w3 at *
     clear hown2 hg2 hbk2 cc ff hc72 hown hne hne' hf72 H1 hK1 hB1 hcut
     obtain ⟨A3,c3,hc72,hown,hne⟩:=hE2.rest
     have hlr:(rest++bs2).length=rest.length+n:=by rw [List.length_append];omega
     rw [hlr] at hc72 hown
     have H2:=Lib.hid hE2
     have HR:=Lib.hid hlr
     clear hE2 hlr htk
     by_cases hcn:c=n
     all_goals
      go_wp2_with fail
      refine bodyPost_ret (results_none rfl _ _ _) rfl ⟨rfl,⟨done,rest++bs2,by simp,by rw [HR.out];exact hlt,?_⟩,hK2⟩
      have:=H2.out
      rw [show (done++rest++bs2).length=done.length+rest.length+n from by simp;omega]
      exact this
 case rest =>
  clear hB1 hc72 hown hne hf72 H1 hK1 HL
  obtain ⟨A',n',c',bs',done',rfl,hnc',hB',heq,hE',hK'⟩:=hcut
  have HQ:=Lib.hid heq
  clear heq
  go_wp2_with fail
  go_loopw [1] (fun s1 wx=>∃ A' n' c' bs' done',s1=.slice A' n' c'∧n'≤c'∧n'≤1099511627776∧Bs wx D A' n' bs'∧done++rest++bs2=done'++bs'∧StrE wx base p done' [] (done.length+rest.length+n)∧Keep (fun b=>b<base) w wx) (fun s1 _=>sliceLen s1)
  case atStart=>exact ⟨_,_,_,_,_,rfl,hnc',by have h1:=congrArg List.length HQ.out;have h2:=hB'.len;simp at h1;omega,hB',HQ.out,hE',hK'⟩
  case round =>
   clear hB' hE' hK' HQ hnc'
   obtain ⟨A',n',c',bs',done',rfl,hnc',hn',hB',heq,hE',hK'⟩:=hrel
   have HQ:=Lib.hid heq
   have HE:=Lib.hid hE'
   clear heq hE'
   have hl':=hB'.len
   by_cases hlt:64≤n'
   ·have hcut:=Bs.cutTo hB' (hi:=64) (by omega)
    have i1:(64:Int)≤c':=by omega
    have ht:=turn_any p 0 p 8 D A' c' _ (blocks hAt done' (done'.length/64)) wr.drew hcut (by omega) HE.out.state HE.out.ks
    have HT:=Lib.hid ht
    clear ht
    go_wp2_with fail
    go_region_with (go_at_call 272;refine HT.out.mono ?_;rintro e w4 ⟨rfl,h1,h2,h3,h4⟩)
    replace h2:=keep_undrew h2
    have hfin:=HE.out.turn1 (bk:=List.take 64 bs') (by rw [List.length_take];omega) h1 h2 h3 h4
    have hK4:Keep (fun b=>b<base) wr w4:=h2.imp (E:=fun b=>b<base) fun i hi hb=>Nat.ne_of_lt (Nat.lt_of_lt_of_le hb hpb)
    have hB4:=hB'.keep hK4 (fun b _ hd=>hD b hd)
    have hcat:done++rest++bs2=done'++List.take 64 bs'++List.drop 64 bs':=by rw [HQ.out,List.append_assoc,List.take_append_drop]
    have HC:=Lib.hid hcat
    clear h1 h2 h3 h4 HT hcut hcat hB' hl'
    have hl4:=Bs.len hB4
    by_cases hcc:c'=64
    ·have hx:=Row.nil w4 D A' 1
     go_wp2_with fail
     go_roundw
     case rel=>exact ⟨_,_,_,List.drop 64 bs',_,rfl,by omega,by omega,by rw [List.drop_eq_nil_of_le (by omega)];exact ⟨by simp;omega,fun h=>absurd h (by omega)⟩,HC.out,hfin,hK'.trans hK4⟩
     case measure=>simp [sliceLen];omega
    ·have hx:=Bs.from_ hB4 (l:=64) hlt
     go_wp2_with fail
     go_roundw
     case rel=>exact ⟨_,_,_,List.drop 64 bs',_,rfl,by omega,by omega,hx,HC.out,hfin,hK'.trans hK4⟩
     case measure=>simp [sliceLen];omega
   ·obtain ⟨A3,c3,hc72,hown,hne⟩:=HE.out.rest
    have hf72:=HE.out.free.1
    have hplt:=HE.out.lt
    have hne':=Ne.symm hne
    have hsz:base≤wr.heap.size:=Nat.le_trans hpb (Nat.le_of_lt hplt)
    have hbd:([]:List UInt8).length+n'≤140737488355328:=by simp;omega
    go_wp2_with (at_builtin;refine app_bytes _ rfl (.tmp 86) (.tmp 87) rfl base A3 _ c3 [] rfl hown D A' n' c' bs' rfl hB' hbd hsz ?_;intro A2 c2 w2 hown2 hg2 hbk2;have cc:=hg2.cell (a:=⟨p,72,none⟩) hc72 hne';have ff:=(hg2.frozen_far ⟨p,72,none⟩ hplt hne').trans hf72)
    go_end0
    refine ⟨rfl,⟨done',bs',HQ.out,by omega,?_⟩,?_⟩
    ·have hE2:=HE.out.put hown2 hg2 hbk2 hne ⟨_,cc⟩
     rw [show (done++rest++bs2).length=done.length+rest.length+n from by simp;omega]
     simpa using hE2
    ·exact (hK'.grown (w':=w2) hg2 (fun k hk hd=>absurd hd (by have:=own_lt hown k hk;omega))).setCell (p:=⟨p,72,none⟩) (fun hb=>absurd hb (Nat.not_lt.2 hpb)) _
end Go.Proofs.YtdodbdednpnddaaGreatDoor
