/-
  PROVED HERE: texts that belong together, one behind the other; what each proves, and under which conditions, its own opening remark says: FmtLaw22, FmtPts22, PathG22, PathF22, TLook22, TFine22, PathP22, TPlace22, Split22, TreeAdd22, RefT22, Do22, RefS22, TPlaceB22, TMake22, Fd22.
-/
import Derived.Lib.Split
import Derived.Test.YtdodbdednpnddaaGreatDoorPkT31
import Derived.Test.YtdodbdednpnddaaGreatDoorPkT32
set_option maxRecDepth 100000
set_option maxHeartbeats 4000000
namespace Go.Proofs.YtdodbdednpnddaaGreatDoor
open Go.RowKit
def fmtPoint (k:Nat) (id:List UInt8) (gen:Nat):List UInt8:=pointBytes ((k/4:Nat):Int) (fmtMark id (gen:Int))
def fmtBytes (k:Nat) (id:List UInt8):List UInt8:=superBytes k id++(fmtPoint k id 2++(fmtPoint k id 1++List.replicate ((k-1-2*(k/4))*128) 0))
theorem chunk_left {a b:List UInt8}{m x:Nat}(ha:a.length=m*128) (hx:x<m):chunkOf (a++b) x=chunkOf a x:=by
 unfold chunkOf
 rw [List.drop_append_of_le_length (by omega),List.take_append_of_le_length (by rw [List.length_drop];omega)]
theorem chunk_right {a b:List UInt8}{m x:Nat}(ha:a.length=m*128) (hx:m≤x):chunkOf (a++b) x=chunkOf b (x-m):=by
 unfold chunkOf
 rw [List.drop_append,List.drop_eq_nil_of_le (by omega),List.nil_append,ha,show x*128-m*128=(x-m)*128 from by omega]
theorem chunk_noughts {n m x y:Nat}(hx:x<n) (hy:y<m):chunkOf (List.replicate (n*128) 0) x=chunkOf (List.replicate (m*128) 0) y:=by
 unfold chunkOf
 rw [List.drop_replicate,List.drop_replicate,List.take_replicate,List.take_replicate,show min 128 (n*128-x*128)=128 from by omega,show min 128 (m*128-y*128)=128 from by omega]
theorem fmtPoint_length {k:Nat}{id:List UInt8}{gen:Nat}(hk:64≤k) (h1:1≤gen) (h2:gen≤2):(fmtPoint k id gen).length=k/4*128:=by
 have h:=fmtMark_ok (id:=id) (p:=k/4) (g:=0) (gen:=gen) h1 h2 (by omega)
 exact pointBytes_length h.1.head (by have:=h.2.1;omega)
theorem fmtBytes_length {k:Nat}{id:List UInt8}(hk:64≤k) (hid:id.length=16):(fmtBytes k id).length=k*128:=by
 unfold fmtBytes
 rw [List.length_append,List.length_append,List.length_append,superBytes_length hid,fmtPoint_length hk (by decide) (by decide),fmtPoint_length hk (by decide) (by decide),List.length_replicate]
 omega
theorem fmtDirt_two {M:Dirt}{k:Nat}{id:List UInt8}(hk:64≤k) (hid:id.length=16){i:Nat}(hi:i<k):fmtDirt M k id 2 i=some (chunkOf (fmtBytes k id) i):=by
 have hs:(superBytes (k:Int) id).length=1*128:=superBytes_length hid
 have h2:=fmtPoint_length (id:=id) (gen:=2) hk (by decide) (by decide)
 have h1:=fmtPoint_length (id:=id) (gen:=1) hk (by decide) (by decide)
 have e1:(((0+1:Nat):Int)%2).toNat=1:=by decide
 have e2:(((1+1:Nat):Int)%2).toNat=0:=by decide
 have hd:fmtDirt M k id 2=dirtRows (dirtRows (dirtRows (dirtRows M 0 1 (superBytes k id)) 1 (k-1) (List.replicate ((k-1)*128) 0)) (1+1*(k/4)) (k/4) (fmtPoint k id 1)) (1+0*(k/4)) (k/4) (fmtPoint k id 2):=rfl
 rw [hd]
 unfold dirtRows fmtBytes
 by_cases a0:i=0
 ·subst a0
  rw [if_neg (by omega),if_neg (by omega),if_neg (by omega),if_pos (by omega),chunk_left hs (by omega)]
  rfl
 ·rw [chunk_right hs (by omega)]
  by_cases a1:i<1+k/4
  ·rw [if_pos (by omega),chunk_left h2 (by omega)]
   congr 2
   omega
  ·rw [if_neg (by omega),chunk_right h2 (by omega)]
   by_cases a2:i<1+2*(k/4)
   ·rw [if_pos (by omega),chunk_left h1 (by omega)]
    congr 2
    omega
   ·rw [if_neg (by omega),if_pos (by omega),chunk_right h1 (by omega)]
    congr 1
    exact chunk_noughts (by omega) (by omega)
theorem flushed_all {S b:List UInt8}{M:Dirt}{k:Nat}(hb:b.length=k*128) (hS:S.length=k*128) (h:∀ i,i<k→M (i:Nat)=some (chunkOf b i)):flushed S M=b:=by
 apply List.ext_getElem?
 intro j
 unfold flushed laidOver
 rw [List.getElem?_mapIdx]
 by_cases hj:j<k*128
 ·rw [List.getElem?_eq_getElem (show j<S.length by omega),List.getElem?_eq_getElem (show j<b.length by omega),h (j/128) (by omega)]
  simp only [Option.map_some,if_true]
  congr 1
  unfold chunkOf
  rw [List.getD_eq_getElem?_getD,List.getElem?_take,if_pos (by omega),List.getElem?_drop,show j/128*128+j%128=j from by omega,List.getElem?_eq_getElem (show j<b.length by omega)]
  rfl
 ·rw [List.getElem?_eq_none (by omega),List.getElem?_eq_none (by omega)]
  rfl
theorem fmt_flushed {M:Dirt}{S:List UInt8}{k:Nat}{id:List UInt8}(hk:64≤k) (hid:id.length=16) (hS:S.length=k*128):flushed S (fmtDirt M k id 2)=fmtBytes k id :=
 flushed_all (fmtBytes_length hk hid) hS fun _ hi=>fmtDirt_two hk hid hi
theorem fmt_within {M:Dirt}{S:List UInt8}{k:Nat}{id:List UInt8}(hk:64≤k) (hS:S.length=k*128) (hM:∀ (i:Nat) b,M i=some b→i*128+128≤S.length):∀ (i:Nat) b,fmtDirt M k id 2 i=some b→i*128+128≤S.length:=by
 intro i b h
 by_cases hi:i<k
 ·omega
 ·have e1:(((0+1:Nat):Int)%2).toNat=1:=by decide
  have e2:(((1+1:Nat):Int)%2).toNat=0:=by decide
  have hd:fmtDirt M k id 2=dirtRows (dirtRows (dirtRows (dirtRows M 0 1 (superBytes k id)) 1 (k-1) (List.replicate ((k-1)*128) 0)) (1+1*(k/4)) (k/4) (fmtPoint k id 1)) (1+0*(k/4)) (k/4) (fmtPoint k id 2):=rfl
  rw [hd] at h
  unfold dirtRows at h
  rw [if_neg (by omega),if_neg (by omega),if_neg (by omega),if_neg (by omega)] at h
  exact hM i b h
theorem mformat_ok {w:World}{D:Nat→Prop}{q:DiskB}{S:List UInt8}{M:Dirt}{n:Nat}{wr0:Int}{k:Nat}(h:DiskAt w D q S M n wr0) (hk:S.length=k*128) (hk0:64≤k) (hk1:k≤1000) (hD:∀ b,w.heap.size≤b→D b) (hn:n≤100000)
  {D1:Nat→Prop} {A:Option Addr} {c:Nat} {id:List UInt8} (hM:∀ (i:Nat) b,M i=some b→i*128+128≤S.length) (hid:Bs w D1 A 16 id) (hD1:∀ b,D1 b→b≠q.bd∧b≠q.bm) (hc:16≤c):
  Calls Tryz.prog 57 #[.pointer (some ⟨q.bd,0,none⟩),.slice A 16 c] w fun e w'=>e=.returned (.int .i64 0)∧Keep (fun j=>j≠q.bd∧j≠q.bs∧j≠q.bm) w w'∧∃ wr',DiskAt w' D q (fmtBytes k id) Dirt.no 0 wr':=by
 have hf:=fmt_flushed (M:=M) (S:=S) (id:=id) hk0 hid.len hk
 have:=mformat_any h hk hk0 hk1 hD hn (fmt_within hk0 hk hM) hid hD1 hc
 rw [hf] at this
 exact this
theorem seg_left {a b:List UInt8}{n:Nat}(h:a.length=n):(a++b).take n=a:=by
 rw [← h,List.take_left]
theorem seg_right {a b:List UInt8}{n m:Nat}(h:a.length=n) (hm:n≤m):(a++b).drop m=b.drop (m-n):=by
 rw [List.drop_append,List.drop_eq_nil_of_le (by omega),List.nil_append,h]
theorem seg_right' {a b:List UInt8}{n m:Nat}(h:a.length=n) (hm:n=m):(a++b).drop m=b:=by
 rw [seg_right h (by omega),hm,Nat.sub_self];rfl
theorem fmt_super {k:Nat}{id:List UInt8}(h0:64≤k) (h1:k≤4096) (hid:id.length=16):superOf ((fmtBytes k id).take 128)=some (k,id):=by
 unfold fmtBytes
 rw [seg_left (superBytes_length hid)]
 exact superOf_super h0 h1 hid
theorem stateNew_loads:LoadsSt stateNew:=stload_of stateNew_ok (by decide) rfl committed_new tload_new sload_new (by rw [stNew_length];decide)
theorem fmt_point0 {k:Nat}{id:List UInt8}(h0:64≤k) (hid:id.length=16):pointOf (fmtBytes k id) (k/4) 0=fmtPoint k id 2:=by
 have hs:(superBytes (k:Int) id).length=128:=superBytes_length hid
 have h2:=fmtPoint_length (id:=id) (gen:=2) h0 (by decide) (by decide)
 unfold pointOf fmtBytes
 rw [seg_right' hs (by omega),seg_left h2]
theorem fmt_point1 {k:Nat}{id:List UInt8}(h0:64≤k) (hid:id.length=16):pointOf (fmtBytes k id) (k/4) 1=fmtPoint k id 1:=by
 have hs:(superBytes (k:Int) id).length=128:=superBytes_length hid
 have h2:=fmtPoint_length (id:=id) (gen:=2) h0 (by decide) (by decide)
 have h1:=fmtPoint_length (id:=id) (gen:=1) h0 (by decide) (by decide)
 unfold pointOf fmtBytes
 rw [seg_right hs (by omega),seg_right' h2 (by omega),seg_left h1]
theorem fmt_ok0 {k:Nat}{id:List UInt8}(h0:64≤k) (hid:id.length=16) (g:Nat):PointOk (fmtBytes k id) (k/4) g 0 (fmtMark id 2) stateNew:=by
 have h:=fmtMark_ok (id:=id) (p:=k/4) (g:=g) (gen:=2) (by decide) (by decide) (by omega)
 exact ⟨h.1,by have e:(fmtMark id 2).data.length=51:=h.2.2;omega,fmt_point0 h0 hid,rfl,stateNew_loads⟩
theorem fmt_ok1 {k:Nat}{id:List UInt8}(h0:64≤k) (hid:id.length=16) (g:Nat):PointOk (fmtBytes k id) (k/4) g 1 (fmtMark id 1) stateNew:=by
 have h:=fmtMark_ok (id:=id) (p:=k/4) (g:=g) (gen:=1) (by decide) (by decide) (by omega)
 exact ⟨h.1,by have e:(fmtMark id 1).data.length=51:=h.2.2;omega,fmt_point1 h0 hid,rfl,stateNew_loads⟩
theorem fmt_log {k:Nat}{id:List UInt8}(h0:64≤k) (hid:id.length=16) (i:Nat):(placeOf (fmtBytes k id) (k/4) i).take 16=List.replicate (min 16 ((k-1-2*(k/4))*128-i*1024)) 0:=by
 have hs:(superBytes (k:Int) id).length=128:=superBytes_length hid
 have h2:=fmtPoint_length (id:=id) (gen:=2) h0 (by decide) (by decide)
 have h1:=fmtPoint_length (id:=id) (gen:=1) h0 (by decide) (by decide)
 unfold placeOf fmtBytes placeAt
 rw [seg_right hs (by omega),seg_right h2 (by omega),seg_right h1 (by omega),List.drop_replicate,List.take_replicate,List.take_replicate]
 congr 1
 omega
theorem fmt_unread {k:Nat}{id:List UInt8}(h0:64≤k) (hid:id.length=16){i:Nat}(hi:i<(k-1-2*(k/4))/8):(segRead (placeOf (fmtBytes k id) (k/4) i)).2.2≠0 :=
 no_nought _ (by rw [fmt_log h0 hid,Nat.min_eq_left (by omega)])
theorem fmt_found {k:Nat}{id:List UInt8}(h0:64≤k) (hid:id.length=16) (nx:Int) (hd:List UInt8):foundIn (fmtBytes k id) (k/4) ((k-1-2*(k/4))/8-0) 0 nx hd=[]:=by
 obtain ⟨g,hg⟩:∃ g,g=(k-1-2*(k/4))/8:=⟨_,rfl⟩
 rw [← hg,Nat.sub_zero]
 rcases g with _|g
 ·rfl
 ·unfold foundIn
  rw [if_neg fun h=>fmt_unread h0 hid (i:=0) (by omega) h.1]
theorem good_any (nm:List UInt8) (w:World) (hn:nm.length≤1099511627776):Calls Tryz.prog 324 #[.string (strOf nm)] w fun e w'=>e=.returned (.bool (goodName nm))∧New w w':=by
 obtain ⟨cp,w1,hconv,hcp,k1,hB⟩:=conv_name nm w
 have HB:=Lib.hid (And.intro k1 hB)
 clear hcp k1 hB
 go_enter Tryz.func324,Tryz.ntmps324
 go_wp2_with fail
 clear hconv
 go_loopw [2,8] (fun s2 i wx=>∃ k:Nat,s2=.bool false∧k≤nm.length∧i=.int .i64 (k:Int)∧(nm.take k).all goodByte=true∧New w1 wx) (fun _ i _=>nm.length-(intOf i).toNat)
 case atStart=>exact ⟨0,rfl,Nat.zero_le _,rfl,rfl,New.refl _⟩
 case round =>
  obtain ⟨k,rfl,hk,rfl,hall,hK⟩:=hrel
  have HA:=Lib.hid hall
  have HK:=Lib.hid hK
  clear hall hK
  by_cases hlt:k<nm.length
  ·obtain ⟨g1,o1,e1,-,-,x1⟩:=Bs.cellAt HB.out.2 (by omega)
   injection e1 with e1
   injection e1 with e1 e2
   subst e1 e2
   have y1:wr.cell? ⟨w.heap.size,0+k,none⟩=some (.int .u8 (bv nm[k])):=HK.out.cell_some (x1 k hlt) trivial
   rw [Nat.zero_add] at y1
   have HNX:Hid (goodByte nm[k]=true→(nm.take (k+1)).all goodByte=true):=Lib.hid fun h=>by
    rw [List.take_succ_eq_append_getElem hlt,List.all_append,HA.out];simp [h]
   have HNB:Hid (goodByte nm[k]=false→goodName nm=false):=Lib.hid fun h=>by
    have:nm.all goodByte=false:=by
     rw [List.all_eq_false]
     exact ⟨nm[k],List.getElem_mem _,by simp [h]⟩
    simp [goodName,this]
   clear x1 HA
   generalize nm[k]=u at *
   have hub:0≤bv u∧bv u≤255:=by have:=u.toNat_lt;unfold bv;omega
   have HGB:Hid (goodByte u=true↔((97≤bv u∧bv u≤122)∨(48≤bv u∧bv u≤57)∨bv u=46∨bv u=45∨bv u=95)):=Lib.hid (by
    unfold goodByte bv
    simp only [Bool.or_eq_true,Bool.and_eq_true,decide_eq_true_eq]
    omega)
   go_wp2_with fail
   all_goals first
    | (go_ret;exact ⟨by rw [HNB.out (by rw [Bool.eq_false_iff];intro h;have h2:=HGB.out.1 h;simp only [Bool.not_eq_true',decide_eq_false_iff_not,beq_eq_false_iff_ne] at *;omega)];rfl,HB.out.1.new HK.out⟩)
    | (go_roundw;(case rel=>exact ⟨k+1,rfl,by omega,by go_num,HNX.out (HGB.out.2 (by simp only [Bool.not_eq_false',decide_eq_true_eq,beq_iff_eq] at *;omega)),HK.out⟩);(case measure=>simp [intOf];omega))
  ·obtain rfl:k=nm.length:=by omega
   rw [List.take_length] at HA
   have hsz:(strOf nm).size=nm.length:=by show nm.toArray.size=_;rw [List.size_toArray]
   go_wp2_with fail
   all_goals
    go_ret
    have hA:=HA.out
    refine ⟨?_,HB.out.1.new HK.out⟩
    have HZ:=Lib.hid hsz
    clear hsz
    simp [goodName, *]
   all_goals first
    | (intro h;omega)
    | (
     rename_i ha hb hc
     have e1:decide (nm.length≤16)=true:=decide_eq_true (by omega)
     have e2:nm.isEmpty=false:=by simpa using ha
     have e3:(nm==[46])=false:=by simpa using hc
     rw [e1,e2,e3]
     by_cases h5:nm=[46,46]
     ·rw [h5];rfl
     ·have e4:(nm==[46,46])=false:=by simpa using h5
      rw [e4,decide_eq_false h5];rfl)
abbrev Ps (w:World) (D:Nat→Prop) (A:Option Addr) (n:Nat) (p:PathP):Prop:=Row w D A n 1 (p.map fun nm=>Value.string (strOf nm))
theorem Ps.len {w:World}{D:Nat→Prop}{A:Option Addr}{n:Nat}{p:PathP}(h:Ps w D A n p):p.length=n:=by
 have:=h.1
 simpa using this
theorem Ps.at_ {w:World}{D:Nat→Prop}{A:Option Addr}{n:Nat}{p:PathP}(h:Ps w D A n p){k:Nat}(hk:k<p.length):∃ b off,A=some ⟨b,off,none⟩∧w.cell? ⟨b,off+k,none⟩=some (.string (strOf p[k])):=by
 have hl:=h.len
 obtain ⟨b,off,e,-,-,hc⟩:=h.2 (by omega)
 exact ⟨b,off,e,hc k _ (by rw [List.getElem?_map,List.getElem?_eq_getElem hk];rfl)⟩
theorem fine1_any (nm:List UInt8) (w:World) (hn:nm.length≤1099511627776):Calls Tryz.prog 323 #[.string (strOf nm)] w fun e w'=>e=.returned (.bool (!goodName nm))∧New w w':=by
 have HG:=Lib.hid (good_any nm w hn)
 go_enter Tryz.func323,Tryz.ntmps323
 go_wp2_with fail
 refine HG.out.mono ?_
 rintro e w1 ⟨rfl,k1⟩
 go_wp2_with fail
 go_ret
 exact ⟨rfl,k1⟩
def badPlace (p:PathP):Int:=match p.findIdx? (fun nm => !goodName nm) with
 | some i=>(i:Int)
 | none => -1
theorem badPlace_neg (p:PathP):decide (0≤badPlace p) = !(p.all goodName):=by
 unfold badPlace
 cases h:p.findIdx? (fun nm => !goodName nm) with
 | none =>
  rw [List.findIdx?_eq_none_iff] at h
  have:p.all goodName=true:=by rw [List.all_eq_true];intro x hx;have:=h x hx;simpa using this
  rw [this];rfl
 | some i =>
  obtain ⟨hi,h1,-⟩:=List.findIdx?_eq_some_iff_getElem.1 h
  have:p.all goodName=false:=by
   rw [List.all_eq_false]
   exact ⟨p[i],List.getElem_mem _,by simpa using h1⟩
  rw [this]
  show decide (0≤(i:Int))=true
  exact decide_eq_true (by omega)
theorem pindex_any (D:Nat→Prop) (A:Option Addr) (n c:Nat) (p:PathP) (w:World) (hR:Ps w D A n p) (hn:n≤1099511627776) (hs:∀ nm∈p,nm.length≤1099511627776):
  Calls Tryz.prog 350 #[.slice A n c,.func (Fn.func 323) #[] #[]] w fun e w'=>e=.returned (.int .i64 (badPlace p))∧New w w':=by
 have HL:=Lib.hid hR.len
 have HR:=Lib.hid hR
 have HS:=Lib.hid hs
 clear hR hs
 go_enter Tryz.func350,Tryz.ntmps350
 go_wp2_with fail
 go_loopw [4,8] (fun s4 i wx=>∃ k:Nat,s4=.int .i64 0∧k≤n∧i=.int .i64 (k:Int)∧(∀ j (h:j<p.length),j<k→(!goodName p[j])=false)∧New w wx) (fun _ i _=>n-(intOf i).toNat)
 case atStart=>exact ⟨0,rfl,Nat.zero_le _,rfl,fun j h hj=>absurd hj (by omega),New.refl _⟩
 case round =>
  obtain ⟨k,rfl,hk,rfl,hno,hK⟩:=hrel
  have HNO:=Lib.hid hno
  have HK:=Lib.hid hK
  clear hno hK
  by_cases hlt:k<n
  ·have hlk:k<p.length:=by have:=HL.out;omega
   have HFN:=Lib.hid (fine1_any p[k] wr (HS.out _ (List.getElem_mem hlk)))
   obtain ⟨b,off,rfl,u0⟩:=Ps.at_ (Row.new HR.out HK.out) hlk
   have HFI:Hid ((!goodName p[k])=true→badPlace p=(k:Int)):=Lib.hid fun h=>by
    unfold badPlace
    rw [List.findIdx?_eq_some_iff_getElem.2 ⟨hlk,h,fun j hj=>by simpa using HNO.out j (by omega) hj⟩]
   have HNX:Hid ((!goodName p[k])=false→∀ j (h:j<p.length),j<k+1→(!goodName p[j])=false):=Lib.hid fun h j hj hjk=>by
    by_cases e:j=k
    ·subst e;exact h
    ·exact HNO.out j hj (by omega)
   generalize p[k]=nm at *
   cases he:(!goodName nm)
   ·rw [he] at HFN
    have HNX:=Lib.hid (HNX.out he)
    clear he HFI
    go_wp2_with fail
    refine HFN.out.mono ?_
    rintro e w1 ⟨rfl,k1⟩
    go_wp2_with fail
    go_roundw
    case rel=>exact ⟨k+1,rfl,by omega,by go_num,HNX.out,HK.out.new k1⟩
    case measure=>simp [intOf];omega
   ·rw [he] at HFN
    have HFI:=Lib.hid (HFI.out he)
    clear he HNX
    go_wp2_with fail
    refine HFN.out.mono ?_
    rintro e w1 ⟨rfl,k1⟩
    go_wp2_with fail
    go_ret
    exact ⟨by rw [HFI.out];rfl,HK.out.new k1⟩
  ·obtain rfl:k=n:=by omega
   have HFI:Hid (badPlace p = -1):=Lib.hid (by
    unfold badPlace
    rw [List.findIdx?_eq_none_iff.2 fun x hx=>by
     obtain ⟨j,hj,rfl⟩:=List.getElem_of_mem hx
     exact HNO.out j hj (by have:=HL.out;omega)])
   go_wp2_with fail
   go_ret
   exact ⟨by rw [HFI.out];rfl,HK.out⟩
theorem pfine_any (D:Nat→Prop) (A:Option Addr) (n c:Nat) (p:PathP) (w:World) (hR:Ps w D A n p) (hn:n≤1099511627776) (hs:∀ nm∈p,nm.length≤1099511627776):
  Calls Tryz.prog 285 #[.slice A n c] w fun e w'=>e=.returned (.int .i64 (finePath p))∧New w w':=by
 have hl:=hR.len
 have HCF:Hid (Calls Tryz.prog 322 #[.slice A n c,.func (Fn.func 323) #[] #[]] w fun e w'=>e=.returned (.bool (!(p.all goodName)))∧New w w'):=Lib.hid (by
  have HI:=Lib.hid (pindex_any D A n c p w hR hn hs)
  have hb:=badPlace_neg p
  generalize badPlace p=x at *
  generalize (!(p.all goodName))=y at *
  subst hb
  clear hR hl
  go_enter Tryz.func322,Tryz.ntmps322
  go_wp2_with fail
  refine HI.out.mono ?_
  rintro e w1 ⟨rfl,k1⟩
  go_wp2_with fail
  go_ret
  exact ⟨rfl,k1⟩)
 have HF:Hid (finePath p=if p.all goodName=true then (if 8<p.length then 3 else 0) else 12):=Lib.hid rfl
 rw [hl] at HF
 generalize finePath p=f at *
 generalize p.all goodName=y at *
 clear hR hs hl
 go_enter Tryz.func285,Tryz.ntmps285
 cases y
 ·rw [if_neg (by decide)] at HF
  go_wp2_with fail
  refine HCF.out.mono ?_
  rintro e w1 ⟨rfl,k1⟩
  go_wp2_with fail
  go_ret
  exact ⟨by rw [HF.out];rfl,k1⟩
 ·rw [if_pos rfl] at HF
  by_cases h8:8<n
  ·rw [if_pos h8] at HF
   go_wp2_with fail
   refine HCF.out.mono ?_
   rintro e w1 ⟨rfl,k1⟩
   go_wp2_with fail
   go_ret
   exact ⟨by rw [HF.out];rfl,k1⟩
  ·rw [if_neg h8] at HF
   go_wp2_with fail
   refine HCF.out.mono ?_
   rintro e w1 ⟨rfl,k1⟩
   go_wp2_with fail
   go_ret
   exact ⟨by rw [HF.out];rfl,k1⟩
section
variable {w w':World}{c c':Col}{i j bt:Nat}{q q':TreeB}{T L:TreeP}
theorem tlook_any (h:TreeAt w c i bt q T) (hI:TreeInv T){D:Nat→Prop}{A:Option Addr}{n cp:Nat}{p:PathP}(hR:Ps w D A n p) (hn:n≤1099511627776) (hs:∀ nm∈p,nm.length≤1099511627776):
  Calls Tryz.prog 244 #[.pointer (some ⟨bt,0,none⟩),.slice A n cp] w fun e w'=>e=.returned (.tuple #[.int .i64 (walkT T 0 p).1,.int .i64 (walkT T 0 p).2])∧w=w':=by
 have c0:w.cell? ⟨bt,0,none⟩=some (.map (some q.bm)):=cellOf h.tree (k:=0) rfl
 have HT:=Lib.hid h
 have HI:=Lib.hid hI
 have HL:=Lib.hid hR.len
 have HR:=Lib.hid hR
 have HS:=Lib.hid hs
 have HRT:Hid ((getK T 0).isSome=true):=Lib.hid (by
  have:=hI.root
  unfold kindT at this
  cases hg:getK T 0 with
  | none=>rw [hg] at this;simp at this
  | some _=>rfl)
 clear h hI hR hs
 obtain ⟨r,hr⟩:∃ r,r=walkT T 0 p:=⟨_,rfl⟩
 rw [← hr]
 have HW:=Lib.hid hr
 clear hr
 go_enter Tryz.func244,Tryz.ntmps244
 go_wp2_with fail
 go_loopw [4,5,6,14] (fun s4 s5 s6 i wx=>∃ (k:Nat) (id:Int),s4=.int .i64 0∧s5=.int .i64 0∧s6=.int .i64 id∧k≤n∧i=.int .i64 (k:Int)∧(getK T id).isSome=true∧r=walkT T id (p.drop k)∧wx=w) (fun _ _ _ i _=>n-(intOf i).toNat)
 case atStart=>exact ⟨0,0,rfl,rfl,rfl,Nat.zero_le _,rfl,HRT.out,HW.out,rfl⟩
 case round =>
  obtain ⟨k,id,rfl,rfl,rfl,hk,rfl,hid,hrw,rfl⟩:=hrel
  have HRW:=Lib.hid hrw
  clear hrw
  obtain ⟨it,hg⟩:=Option.isSome_iff_exists.1 hid
  obtain ⟨hi0,hi1⟩:=HI.out.ids id it hg
  by_cases hlt:k<n
  ·have hlk:k<p.length:=by have:=HL.out;omega
   obtain ⟨b,off,rfl,u0⟩:=Ps.at_ HR.out hlk
   have hdr:p.drop k=p[k]::p.drop (k+1):=List.drop_eq_getElem_cons hlk
   have hnl:=HS.out _ (List.getElem_mem hlk)
   rw [hdr] at HRW
   generalize p[k]=nm at *
   have hlook:=(HT.out.look (id:=id) (by omega) (by omega)).2
   rw [hg] at hlook
   simp only [Option.elim_some] at hlook
   have hitem:=HT.out.item id it hg
   obtain ⟨A2,cp2,-,x1,-,-,-,-,-,x7,-⟩:=node_cells hitem
   have HNM:=Lib.hid hitem.names
   have HLD:=Lib.hid (fun k hk=>HI.out.leads id it nm k hg hk)
   clear hitem
   by_cases hk2:it.n.kind=2
   ·have hw:r=match getK it.names nm with
      | none=>((0:Int),(20:Int))
      | some k'=>walkT T k' (p.drop (k+1)):=by
     rw [HRW.out]
     have hd:dirOf T id=some it.names:=by simp [dirOf,hg,hk2]
     conv=>lhs;unfold walkT
     rw [hd]
     rfl
    have hn2:(Instr.lookup 219 (.map (some (q.γ id))) (.string (strOf nm)) true).run Tryz.prog wr=.ok (.tuple #[(getK it.names nm).elim (.int .i64 0) (fun k'=>.int .i64 k'),.bool (getK it.names nm).isSome]) wr :=
     ((HNM.out hk2).2.look Tryz.underlying219 (zero_int wr) (k:=nm) (by show nm.length≤9223372036854775807;omega)).1
    rw [if_pos hk2] at x7
    rw [hk2] at x1
    clear HNM hk2 HRW hdr hg
    cases hgn:getK it.names nm with
    | none =>
     rw [hgn] at hw hn2
     simp only [Option.elim_none,Option.isSome_none] at hn2
     have HWE:=Lib.hid hw
     clear hw hgn HLD
     go_wp2_with fail
     refine bodyPost_ret (v:=.tuple #[.int .i64 0,.int .i64 20]) (by simp [results,Tryz.results244,go_sem]) rfl ?_
     exact ⟨by rw [HWE.out],rfl⟩
    | some k' =>
     rw [hgn] at hw hn2
     simp only [Option.elim_some,Option.isSome_some] at hn2
     have HWE:=Lib.hid hw
     have HL2:=Lib.hid (HLD.out k' hgn).2.2
     clear hw hgn HLD
     go_wp2_with fail
     go_roundw
     case rel=>exact ⟨k+1,k',rfl,rfl,rfl,by omega,by go_num,HL2.out,HWE.out,by first|rfl|trivial⟩
     case measure=>simp [intOf];omega
   ·have hw:r=(0,23):=by
     rw [HRW.out]
     have hd:dirOf T id=none:=by simp [dirOf,hg,hk2]
     conv=>lhs;unfold walkT
     rw [hd]
    have HWE:=Lib.hid hw
    have hk3:(it.n.kind==2)=false:=beq_eq_false_iff_ne.2 hk2
    clear HNM HLD x7 hk2 HRW hdr hg hw
    go_wp2_with fail
    refine bodyPost_ret (v:=.tuple #[.int .i64 0,.int .i64 23]) (by simp [results,Tryz.results244,go_sem]) rfl ?_
    exact ⟨by rw [HWE.out],rfl⟩
  ·obtain rfl:k=n:=by omega
   have hdr:p.drop k=[]:=List.drop_eq_nil_of_le (by have:=HL.out;omega)
   rw [hdr] at HRW
   have HRE:Hid (r=(id,0)):=Lib.hid HRW.out
   clear hdr HRW hid hg hi0 hi1
   go_wp2_with fail
   refine bodyPost_ret (v:=.tuple #[.int .i64 id,.int .i64 0]) (by simp [results,Tryz.results244,go_sem]) rfl ?_
   exact ⟨by rw [HRE.out],rfl⟩
end
def Pss (w:World) (D:Nat→Prop) (A:Option Addr) (n:Nat) (l:List PathP):Prop :=
 ∃ vs:List Value,Row w D A n 1 vs∧vs.length=l.length∧∀ k (hk:k<l.length),∃ A1 c1,vs[k]?=some (.slice A1 l[k].length c1)∧Ps w D A1 l[k].length l[k]
def fineL:List PathP→Int
 | []=>0
 | p::r=>if finePath p≠0 then finePath p else fineL r
theorem tfine_any (D:Nat→Prop) (A:Option Addr) (n c:Nat) (l:List PathP) (w:World) (hR:Pss w D A n l) (hn:n≤1000) (hs:∀ p∈l,p.length≤1099511627776∧∀ nm∈p,nm.length≤1099511627776):
  Calls Tryz.prog 235 #[.slice A n c] w fun e w'=>e=.returned (.int .i64 (fineL l))∧New w w':=by
 obtain ⟨vs,hrow,hvl,hat⟩:=hR
 have hl:l.length=n:=by have:=hrow.1;omega
 have HL:=Lib.hid hl
 have HR:=Lib.hid hrow
 have HAT:=Lib.hid hat
 have HS:=Lib.hid hs
 obtain ⟨r,hr⟩:∃ r,r=fineL l:=⟨_,rfl⟩
 rw [← hr]
 have HW:=Lib.hid hr
 clear hrow hvl hat hl hs hr
 go_enter Tryz.func235,Tryz.ntmps235
 go_wp2_with fail
 go_loopw [2,8] (fun s2 i wx=>∃ k:Nat,s2=.int .i64 0∧k≤n∧i=.int .i64 (k:Int)∧r=fineL (l.drop k)∧New w wx) (fun _ i _=>n-(intOf i).toNat)
 case atStart=>exact ⟨0,rfl,Nat.zero_le _,rfl,HW.out,New.refl _⟩
 case round =>
  obtain ⟨k,rfl,hk,rfl,hrw,hK⟩:=hrel
  have HRW:=Lib.hid hrw
  have HK:=Lib.hid hK
  clear hrw hK
  by_cases hlt:k<n
  ·have hlk:k<l.length:=by have:=HL.out;omega
   obtain ⟨A1,c1,hv,hps⟩:=HAT.out k hlk
   obtain ⟨b,off,rfl,-,-,hc⟩:=HR.out.2 (by omega)
   have u0:wr.cell? ⟨b,off+k,none⟩=some (.slice A1 l[k].length c1):=HK.out.cell_some (hc k _ hv) trivial
   have hs:=HS.out _ (List.getElem_mem hlk)
   have HF:=Lib.hid (pfine_any D A1 _ c1 l[k] wr (Row.new hps HK.out) hs.1 hs.2)
   have hdr:l.drop k=l[k]::l.drop (k+1):=List.drop_eq_getElem_cons hlk
   rw [hdr] at HRW
   have HE:Hid (r=if finePath l[k]≠0 then finePath l[k] else fineL (l.drop (k+1))):=Lib.hid HRW.out
   generalize finePath l[k]=f at *
   clear hv hps hc hs hdr HRW
   generalize l[k].length=m at *
   by_cases hf:f=0
   ·subst hf
    have HE2:Hid (r=fineL (l.drop (k+1))):=Lib.hid (by have:=HE.out;simpa using this)
    clear HE
    go_wp2_with fail
    refine HF.out.mono ?_
    rintro e w1 ⟨rfl,k1⟩
    go_wp2_with fail
    go_roundw
    case rel=>exact ⟨k+1,rfl,by omega,by go_num,HE2.out,HK.out.new k1⟩
    case measure=>simp [intOf];omega
   ·have HE2:Hid (r=f):=Lib.hid (by have:=HE.out;rwa [if_pos hf] at this)
    have hb:(f !=0)=true:=by simpa using hf
    clear HE hf
    go_wp2_with fail
    refine HF.out.mono ?_
    rintro e w1 ⟨rfl,k1⟩
    go_wp2_with fail
    go_ret
    exact ⟨by rw [HE2.out];rfl,HK.out.new k1⟩
  ·obtain rfl:k=n:=by omega
   have HE2:Hid (r=0):=Lib.hid (by
    have:=HRW.out
    rw [List.drop_eq_nil_of_le (by have:=HL.out;omega)] at this
    exact this)
   go_wp2_with fail
   go_ret
   exact ⟨by rw [HE2.out];rfl,HK.out⟩
theorem pss_one {w:World}{D:Nat→Prop}{A:Option Addr}{n c:Nat}{p:PathP}{t:TypeId}(h:Ps w D A n p):Pss (w.alloc (.cells #[.slice A n c] t)) (fun _=>True) (some ⟨w.heap.size,0,none⟩) 1 [p]:=by
 have hl:=h.len
 have k1:=(New.refl w).alloc (.cells #[.slice A n c] t)
 refine ⟨[.slice A n c],⟨rfl,fun _=>⟨w.heap.size,0,rfl,trivial,by simp,fun k u hu=>?_⟩⟩,rfl,fun k hk=>?_⟩
 ·have hk:k=0:=by have:=(List.getElem?_eq_some_iff.1 hu).1;simp at this;omega
  subst hk
  obtain rfl:Value.slice A n c=u:=by simpa using hu
  exact cellOf (heap_alloc_new w (.cells #[.slice A n c] t)) (k:=0) rfl
 ·have hk:k=0:=by simp at hk;omega
  subst hk
  refine ⟨A,c,by simp [hl],?_⟩
  show Ps _ _ A p.length p
  rw [hl]
  exact (Row.imp h fun _ _ _=>trivial).new k1
section
variable {w w':World}{c c':Col}{i j bt:Nat}{q q':TreeB}{T L:TreeP}
end
theorem info_str:(Tryz.prog.info? 9).map (fun i=>(i.zero.map fun z=>z.cells.size,i.size,i.bytes))=some (some 1,1,16):=by kernel_rfl
theorem str_one (p:PathP):∀ u∈p.map (fun nm=>Value.string (strOf nm)),u.oneCell'=true:=by
 intro u hu;obtain ⟨b,_,rfl⟩:=List.mem_map.1 hu;rfl
theorem app_strs {ops:Array Oper}{rest:List Oper}{o:Oper}{a:Act}{Q:Exit→Act→World→Prop}(w:World) (hgd:o.guard=none) (s x:Operand)
  (ho:o.op=.call { callee:=.builtin .append,args:=#[s,x],argTypes:=#[25,25] })
  (base:Nat) (A:Option Addr) (n c:Nat) (bs:PathP) (hs:a.eval s=.slice A n c) (hown:Own w base 9 1 A n c (bs.map fun nm=>Value.string (strOf nm)))
  (D:Nat→Prop) (A2:Option Addr) (m c2:Nat) (bs2:PathP) (hx:a.eval x=.slice A2 m c2) (hr:Ps w D A2 m bs2)
  (h63:n+m≤1000000) (hbase:base≤w.heap.size)
  (h:∀ A' c' w',Own w' base 9 1 A' (n+m) c' ((bs++bs2).map fun nm=>Value.string (strOf nm))→w.grownBy w' (blk A)→(blk A'=blk A∨blk A'=some w.heap.size)→wpList Tryz.prog ops Q rest (a.put o.dst (.slice A' (n+m) c')) w'):wpList Tryz.prog ops Q (o::rest) a w:=by
 obtain ⟨i,z,hi,hz0,hz1,hz2,hz3⟩:=parts2 info_str
 refine wpList_append_row w hgd s x 25 ho base 9 i z 1 16 Tryz.underlying25 hi hz0 hz1 hz2 hz3 (by decide) A n c _ hs hown D A2 m c2 _ hx hr (str_one _) (by unfold maxLen;omega) (by omega) hbase ?_
 intro A' c' w' h1 h2 h3
 rw [← List.map_append] at h1
 exact h A' c' w' h1 h2 h3
theorem clone_strs (D:Nat→Prop) (A:Option Addr) (n c:Nat) (p:PathP) (w:World) (hB:Ps w D A n p) (hn:n≤1000000):
  Calls Tryz.prog 325 #[.slice A n c] w fun e w'=>(∃ A' c',e=.returned (.slice A' n c')∧Own w' w.heap.size 9 1 A' n c' (p.map fun nm=>Value.string (strOf nm)))∧New w w':=by
 have hq:=fun w'=>Lib.run_eql_slice_nil (P:=Tryz.prog) w' 25 9 A n c 0 0 Tryz.underlying25
 rcases A with _|ad
 ·have h0:n=0:=by
   rcases Nat.eq_zero_or_pos n with h|h
   ·exact h
   ·obtain ⟨_,_,e,_⟩:=hB.2 h;cases e
  subst h0
  have hb:p=[]:=List.eq_nil_of_length_eq_zero hB.len
  subst hb
  go_enter Tryz.func325,Tryz.ntmps325
  go_wp2
  go_ret
  exact ⟨⟨_,_,rfl,Own.nil _ _ _ _⟩,New.refl _⟩
 ·go_enter Tryz.func325,Tryz.ntmps325
  go_wp2_with (at_builtin;refine app_strs _ rfl _ _ rfl w.heap.size _ _ _ [] rfl (World.ownsRow_made w #[] 0 (Nat.le_refl _) (by decide) rfl) D _ _ _ p rfl (Row.new hB ((New.refl w).alloc _)) (by omega) (by simp) ?_;intro A' c' w' hown hg hbk)
  go_ret
  refine ⟨⟨A',c',rfl,by simpa using hown⟩,((New.refl w).alloc _).grown hg ?_⟩
  intro k hk _
  simp [blk] at hk
  omega
theorem parent_nil (A:Option Addr) (c:Nat) (w:World):Calls Tryz.prog 286 #[.slice A 0 c] w fun e w'=>e=.returned (.tuple #[.slice none 0 0,.string { data:=#[] },.int .i64 1])∧w=w':=by
 go_enter Tryz.func286,Tryz.ntmps286
 go_wp2_with fail
 refine bodyPost_ret (v:=.tuple #[.slice none 0 0,.string { data:=#[] },.int .i64 1]) (by simp [results,Tryz.results286,go_sem]) rfl ?_
 exact ⟨rfl,rfl⟩
theorem parent_any (D:Nat→Prop) (A:Option Addr) (n c:Nat) (up:PathP) (nm:List UInt8) (w:World) (hR:Ps w D A n (up++[nm])) (hn:n≤1000000) (hc:n≤c):
  Calls Tryz.prog 286 #[.slice A n c] w fun e w'=>(∃ A' c',e=.returned (.tuple #[.slice A' up.length c',.string (strOf nm),.int .i64 0])∧Own w' w.heap.size 9 1 A' up.length c' (up.map fun nm=>Value.string (strOf nm)))∧New w w':=by
 have hl:=hR.len
 rw [List.length_append,List.length_singleton] at hl
 obtain ⟨m,hm⟩:∃ m,m=up.length:=⟨_,rfl⟩
 rw [← hm] at hl ⊢
 subst hl
 obtain ⟨b,off,rfl,u0⟩:=Ps.at_ hR (k:=m) (by simp [hm])
 have e0:(up++[nm])[m]'(by simp [hm])=nm:=by subst hm;simp
 rw [e0] at u0
 have HUP:Hid (Ps w D (some ⟨b,off,none⟩) m up):=Lib.hid (by
  obtain ⟨h1,h2⟩:=hR
  refine ⟨by simp [hm],fun h=>?_⟩
  obtain ⟨b',off',e,hd,hlt,hcc⟩:=h2 (by omega)
  refine ⟨b',off',e,hd,hlt,fun k u hu=>hcc k u ?_⟩
  rw [List.map_append,List.getElem?_append_left (List.getElem?_eq_some_iff.1 hu).1]
  exact hu)
 have HCL:=Lib.hid (fun W (hW:New w W)=>clone_strs D (some ⟨b,off,none⟩) m c up W (Row.new HUP.out hW) (by omega))
 have q3:IntKind.i64.wrap (m:Int)=(m:Int):=IntWalk.i64_in _ (by omega)
 have d0:((m:Int)+1==0)=false:=by simp;omega
 have i1:(m:Int)≤(c:Int):=by omega
 have i2:m≤c:=by omega
 have i3:(m:Int)<(m:Int)+1:=by omega
 have x0:∀ W,New w W→W.cell? ⟨b,off+m,none⟩=some (.string (strOf nm)):=fun W h=>h.cell_some u0 trivial
 clear hR e0 u0 hm
 go_enter Tryz.func286,Tryz.ntmps286
 go_upto_region 3 with fail
 refine hold_begin (by kernel_rfl) ?_
 have n0:New w w.drew:=(New.refl w).drew
 replace x0:=fun W (hW:New w.drew W)=>x0 W (Keep.new n0 hW)
 refine take1 0 ?_
 refine take1 1 ?_
 refine take1 2 ?_
 refine take1 3 ?_
 refine take1 4 ?_
 refine take1 6 ?_
 refine take1 7 ?_
 refine take1 8 ?_
 refine take1 9 ?_
 refine take1 10 ?_
 refine take1 11 ?_
 refine hold_step (i:=5) (by kernel_rfl) rfl rfl (fun K hK=>?_)
 go_simp
 refine (HCL.out _ n0).mono ?_
 rintro e w1 ⟨⟨A1,ca1,rfl,o1⟩,k1⟩;have HO:=Lib.hid (And.intro o1 k1);clear o1
 go_wp2_with fail
 refine hK.out _ _ k1 ?_
 clear hK K
 try simp only [Act.put,ly1,ly2,ly3,ly4,ly5,ly6]
 replace n0:=Keep.new n0 k1
 replace x0:=fun W (hW:New w1 W)=>x0 W (Keep.new k1 hW)
 refine take1 12 ?_
 refine take1 13 ?_
 refine take1 14 ?_
 refine wpAnyH_done (by kernel_rfl) ?_ _
 go_wp2_with fail
 refine bodyPost_ret (v:=.tuple #[.slice A1 m ca1,.string (strOf nm),.int .i64 0]) (by simp [results,Tryz.results286,go_sem]) rfl ?_
 exact ⟨⟨A1,ca1,rfl,own_base HO.out.1 (Nat.le_refl _)⟩,n0⟩
section
variable {w w':World}{c c':Col}{i j bt:Nat}{q q':TreeB}{T L:TreeP}
theorem tplace_nil (A:Option Addr) (cp:Nat) (w:World) (bt:Nat):Calls Tryz.prog 236 #[.pointer (some ⟨bt,0,none⟩),.slice A 0 cp] w fun e w'=>e=.returned (.tuple #[.pointer none,.string { data:=#[] },.int .i64 1])∧w=w':=by
 have HP:=Lib.hid (parent_nil A cp w)
 go_enter Tryz.func236,Tryz.ntmps236
 go_wp2_with fail
 refine HP.out.mono ?_
 rintro e w1 ⟨rfl,rfl⟩
 clear HP
 go_wp2_with fail
 refine bodyPost_ret (v:=.tuple #[.pointer none,.string { data:=#[] },.int .i64 1]) (by simp [results,Tryz.results236,go_sem]) rfl ?_
 exact ⟨rfl,rfl⟩
def TPlaceRet (q:TreeB) (T:TreeP) (up:PathP) (nm:List UInt8) (e:Ending):Prop :=
 ((placeT T (up++[nm])).2.2=0∧e=.returned (.tuple #[.pointer (some ⟨q.β (placeT T (up++[nm])).1,0,none⟩),.string (strOf nm),.int .i64 0])) ∨
 ((placeT T (up++[nm])).2.2≠0∧e=.returned (.tuple #[.pointer none,.string { data:=#[] },.int .i64 (placeT T (up++[nm])).2.2]))
theorem tplace_any (h:TreeAt w c i bt q T) (hI:TreeInv T){D:Nat→Prop}{A:Option Addr}{n cp:Nat}{up:PathP}{nm:List UInt8}(hR:Ps w D A n (up++[nm])) (hn:n≤1000000) (hc:n≤cp) (hs:∀ x∈up,x.length≤1099511627776):
  Calls Tryz.prog 236 #[.pointer (some ⟨bt,0,none⟩),.slice A n cp] w fun e w'=>TPlaceRet q T up nm e∧New w w':=by
 have hl:=hR.len
 rw [List.length_append,List.length_singleton] at hl
 have HP:=Lib.hid (parent_any D A n cp up nm w hR hn hc)
 have hpl:placeT T (up++[nm])=if (walkT T 0 up).2≠0 then (0,[],(walkT T 0 up).2) else match dirOf T (walkT T 0 up).1 with
   | none=>(0,[],23)
   | some _=>((walkT T 0 up).1,nm,0):=by
  unfold placeT
  rw [if_neg (by simp),List.dropLast_concat,List.getLastD_concat]
  rfl
 have HI:=Lib.hid hI
 have HT:=Lib.hid (And.intro h hI)
 have HLK:=Lib.hid (fun W (hW:New w W) D A n c (hR:Ps W D A n up) (hn:n≤1099511627776)=>tlook_any (h.new hW) hI (cp:=c) hR hn hs)
 have HWS:=Lib.hid (walk_some hI up 0 (by
  have:=hI.root
  unfold kindT at this
  cases hg:getK T 0 with
  | none=>rw [hg] at this;simp at this
  | some _=>rfl))
 unfold TPlaceRet
 obtain ⟨r,hr⟩:∃ r,r=placeT T (up++[nm]):=⟨_,rfl⟩
 rw [← hr] at hpl ⊢
 obtain ⟨d,why,hx⟩:∃ d why,walkT T 0 up=(d,why):=⟨_,_,rfl⟩
 rw [hx] at HLK HWS hpl
 dsimp only at HLK hpl
 have HRR:=Lib.hid hpl
 have HLN:=Lib.hid hl
 clear h hI hR hs hpl hx hl hr
 go_enter Tryz.func236,Tryz.ntmps236
 go_wp2_with fail
 refine HP.out.mono ?_
 rintro e w1 ⟨⟨A1,c1,rfl,o1⟩,k1⟩
 have HK:=Lib.hid k1
 have HL1:=Lib.hid (HLK.out w1 k1 _ A1 _ c1 (Row.of_own o1) (by have:=HLN.out;omega))
 clear HP HLK o1 k1
 go_wp2_with fail
 refine HL1.out.mono ?_
 rintro e w2 ⟨rfl,rfl⟩
 clear HL1
 by_cases hw:why=0
 ·subst hw
  obtain ⟨it,hg⟩:=Option.isSome_iff_exists.1 (HWS.out d rfl)
  have T1:=HT.out.1.new HK.out
  obtain ⟨hi0,hi1⟩:=HT.out.2.ids d it hg
  have c0:w1.cell? ⟨bt,0,none⟩=some (.map (some q.bm)):=cellOf T1.tree (k:=0) rfl
  have hlook:=(T1.look (id:=d) (by omega) (by omega)).2
  rw [hg] at hlook
  simp only [Option.elim_some] at hlook
  obtain ⟨A2,cp2,-,x1,-⟩:=node_cells (T1.item d it hg)
  by_cases hk:it.n.kind=2
  ·have hd:dirOf T d=some it.names:=by simp [dirOf,hg,hk]
   have HE:Hid (r=(d,nm,0)):=Lib.hid (by have:=HRR.out;rw [hd] at this;simpa using this)
   rw [hk] at x1
   clear hg hd hk T1
   go_wp2_with fail
   refine bodyPost_ret (v:=.tuple #[.pointer (some ⟨q.β d,0,none⟩),.string (strOf nm),.int .i64 0]) (by simp [results,Tryz.results236,go_sem]) rfl ?_
   exact ⟨.inl (by rw [HE.out];exact ⟨rfl,rfl⟩),HK.out⟩
  ·have hd:dirOf T d=none:=by simp [dirOf,hg,hk]
   have HE:Hid (r=(0,[],23)):=Lib.hid (by have:=HRR.out;rw [hd] at this;simpa using this)
   have hk3:(it.n.kind==2)=false:=beq_eq_false_iff_ne.2 hk
   clear hg hd T1
   go_wp2_with fail
   refine bodyPost_ret (v:=.tuple #[.pointer none,.string { data:=#[] },.int .i64 23]) (by simp [results,Tryz.results236,go_sem]) rfl ?_
   exact ⟨.inr (by rw [HE.out];exact ⟨by decide,rfl⟩),HK.out⟩
 ·have hb:(why !=0)=true:=by simpa using hw
  have HE:Hid (r=(0,[],why)):=Lib.hid (by have:=HRR.out;rwa [if_pos hw] at this)
  have HWH:=Lib.hid hw
  clear hw
  go_wp2_with fail
  refine bodyPost_ret (v:=.tuple #[.pointer none,.string { data:=#[] },.int .i64 why]) (by simp [results,Tryz.results236,go_sem]) rfl ?_
  exact ⟨.inr (by rw [HE.out];exact ⟨HWH.out,rfl⟩),HK.out⟩
end
end Go.Proofs.YtdodbdednpnddaaGreatDoor
namespace Go.Proofs.YtdodbdednpnddaaGreatDoor
def splitA (pre:List UInt8):List UInt8→List (List UInt8)
 | []=>[pre]
 | b::r=>if b=47 then pre::splitA [] r else splitA (pre++[b]) r
def splitS (s:List UInt8):List (List UInt8):=splitA [] s
theorem splitA_none:∀ {s:List UInt8}(pre:List UInt8),47∉s→splitA pre s=[pre++s]
 | [],pre,_=>by rw [List.append_nil];rfl
 | b::r,pre,h=>by
  unfold splitA
  rw [if_neg (fun e=>h (by rw [e];exact List.mem_cons_self ..)),splitA_none _ (fun e=>h (List.mem_cons_of_mem _ e)),List.append_assoc]
  rfl
theorem splitA_hit:∀ {a:List UInt8}(pre r:List UInt8),47∉a→splitA pre (a++47::r)=(pre++a)::splitA [] r
 | [],pre,r,_=>by
  show (if (47:UInt8)=47 then pre::splitA [] r else _)=_
  rw [if_pos rfl,List.append_nil]
 | b::a,pre,r,h=>by
  show (if b=47 then pre::splitA [] (a++47::r) else splitA (pre++[b]) (a++47::r))=_
  rw [if_neg (fun e=>h (by rw [e];exact List.mem_cons_self ..)),splitA_hit _ _ (fun e=>h (List.mem_cons_of_mem _ e)),List.append_assoc]
  rfl
theorem occ_iff (s:List UInt8) (j:Nat):Go.Lib.occAt s [47] j=true↔s[j]?=some 47:=by
 unfold Go.Lib.occAt
 have h:s[j]?=(s.drop j)[0]?:=by rw [List.getElem?_drop];rfl
 rw [h]
 cases s.drop j with
 | nil=>exact ⟨fun h=>(by cases h),fun h=>(by cases h)⟩
 | cons b t =>
  show ((47:UInt8)==b&&List.isPrefixOf [] t)=true↔some b=some 47
  rw [Bool.and_eq_true,beq_iff_eq,Option.some.injEq]
  exact ⟨fun h=>h.1.symm,fun h=>⟨h.symm,by cases t <;> rfl⟩⟩
theorem split_eq:∀ (n:Nat) (s:List UInt8),s.length≤n→Go.Lib.split s [47]=splitS s:=by
 intro n
 induction n with
 | zero =>
  intro s hs
  obtain rfl:s=[]:=List.length_eq_zero_iff.1 (by omega)
  rfl
 | succ n ih =>
  intro s hs
  rcases Go.Lib.index_spec s [47] with ⟨h1,h2⟩|⟨i,h1,h2,h3,h4⟩
  ·have hm:47∉s:=fun hm=>by
    obtain ⟨j,hj,he⟩:=List.getElem_of_mem hm
    have:=h2 j (by omega)
    rw [(occ_iff s j).2 (by rw [List.getElem?_eq_getElem hj,he])] at this
    cases this
   unfold Go.Lib.split
   rw [Go.Lib.count_miss h1]
   unfold splitS
   rw [splitA_none _ hm];rfl
  ·have hi:=(occ_iff s i).1 h3
   obtain ⟨hil,hie⟩:=List.getElem?_eq_some_iff.1 hi
   have hs2:s=s.take i++47::s.drop (i+1):=by
    rw [← hie,← List.drop_eq_getElem_cons hil,List.take_append_drop]
   have hm:47∉s.take i:=fun hm=>by
    obtain ⟨j,hj,he⟩:=List.getElem_of_mem hm
    rw [List.length_take] at hj
    have:=h4 j (by omega)
    rw [(occ_iff s j).2 (by rw [List.getElem_take] at he;rw [List.getElem?_eq_getElem (by omega),he])] at this
    cases this
   have hc:=Go.Lib.count_hit (sub:=[47]) (by simp) h1
   unfold Go.Lib.split
   rw [hc,Nat.add_comm]
   unfold Go.Lib.splitK
   rw [h1,if_neg (by simp)]
   have:=ih (s.drop (i+1)) (by rw [List.length_drop];omega)
   unfold Go.Lib.split at this
   show s.take ((i:Int).toNat+0)::Go.Lib.splitK [47] 0 (Go.Lib.count (s.drop (i+1)) [47]) (s.drop ((i:Int).toNat+1))=_
   rw [Int.toNat_natCast,Nat.add_zero,this]
   unfold splitS
   conv=>rhs;rw [hs2]
   rw [splitA_hit _ _ hm];rfl
def splitP:List UInt8→PathP×Int
 | []=>([],12)
 | b::r=>if b≠47 then ([],12) else if r=[] then ([],0) else if finePath (splitS r)≠0 then ([],finePath (splitS r)) else (splitS r,0)
theorem splitA_len:∀ (s pre:List UInt8),∀ x∈splitA pre s,x.length≤pre.length+s.length
 | [],pre,x,hx=>by
  obtain rfl:x=pre:=by simpa [splitA] using hx
  simp
 | b::r,pre,x,hx=>by
  unfold splitA at hx
  split at hx
  ·rcases List.mem_cons.1 hx with rfl|hx
   ·omega
   ·have:=splitA_len r [] x hx;simp at this ⊢;omega
  ·have:=splitA_len r (pre++[b]) x hx;simp at this ⊢;omega
theorem splitA_many:∀ (s pre:List UInt8),1≤(splitA pre s).length∧(splitA pre s).length≤s.length+1
 | [],pre=>by simp [splitA]
 | b::r,pre=>by
  unfold splitA
  split
  ·have:=splitA_many r [];simp;omega
  ·have:=splitA_many r (pre++[b]);simp;omega
theorem splitP_fine {s:List UInt8}(h:(splitP s).2=0):finePath (splitP s).1=0:=by
 unfold splitP at *
 cases s with
 | nil=>exact absurd h (by decide)
 | cons b r =>
  dsimp only at *
  by_cases h1:b=47
  ·rw [if_neg (by simpa using h1)] at *
   by_cases h2:r=[]
   ·rw [if_pos h2];decide
   ·rw [if_neg h2] at *
    by_cases h3:finePath (splitS r)=0
    ·rw [if_neg (by simpa using h3)];exact h3
    ·rw [if_pos h3] at h;exact absurd h h3
  ·rw [if_pos h1] at h;exact absurd h (by decide)
end Go.Proofs.YtdodbdednpnddaaGreatDoor
namespace Go.Proofs.YtdodbdednpnddaaGreatDoor
open Go.RowKit
section
variable {w w' w1:World}{c c' c1:Col}{i j bt bi nb:Nat}{q q':TreeB}{T L:TreeP}{k:Int}{it it':ItemP}
def TreeB.plus (q:TreeB) (k:Int) (bi nb:Nat):TreeB:=⟨q.bm,fun x=>if x=k then bi else q.β x,fun x=>if x=k then nb else q.γ x⟩
theorem TreeB.plus_ne {x:Int}(hx:x≠k):(q.plus k bi nb).β x=q.β x∧(q.plus k bi nb).γ x=q.γ x:=⟨if_neg hx,if_neg hx⟩
theorem TreeB.plus_eq:(q.plus k bi nb).β k=bi∧(q.plus k bi nb).γ k=nb:=⟨if_pos rfl,if_pos rfl⟩
theorem TreeAt.nmap (h:TreeAt w c i bt q T):bt≠q.bm:=by
 obtain ⟨_,E,⟨es,clock,hm,_⟩,_⟩:=h.own
 intro e
 have:=h.tree
 rw [e,hm] at this
 injection this with this
 cases this
theorem TreeAt.add (h:TreeAt w c i bt q T) (hi:i≠0) (hb:w.heap.size≤bi) (hn:w.heap.size≤nb) (hI:ItemAt w' c' i bi nb k it) (hk:Keep (fun b=>b≠q.bm) w w') (hx:Ext w c c')
  (hm:MapIs w' q.bm (fun (x:Int) (_:ItemP)=>.pointer (some ⟨(q.plus k bi nb).β x,0,none⟩)) (putK k it T)):TreeAt w' c' i bt (q.plus k bi nb) (putK k it T):=by
 have h0:∀ b,b<w.heap.size→c b=0→b≠q.bm:=fun b _ hb e=>by rw [e,h.col.2] at hb;exact hi hb
 have key:∀ {k':Int} {it2:ItemP},getK (putK k it T) k'=some it2→(k'=k∧it2=it)∨(k'≠k∧getK T k'=some it2):=fun {k' it2} hh=>by
  rw [getK_put] at hh
  by_cases e:k'=k
  ·rw [if_pos e] at hh;injection hh with hh;exact .inl ⟨e,hh.symm⟩
  ·rw [if_neg e] at hh;exact .inr ⟨e,hh⟩
 have lb:∀ {k':Int} {it2:ItemP},getK T k'=some it2→q.β k'<w.heap.size:=fun {k' it2} hh=>(h.item k' it2 hh).lt
 have ln:∀ {k':Int} {it2:ItemP},getK T k'=some it2→it2.n.kind=2→q.γ k'<w.heap.size:=fun {k' it2} hh hd=>((h.item k' it2 hh).names hd).2.lt
 refine ⟨(hk.block bt h.ltT h.nmap).trans h.tree,hm,fun k' it2 hg2=>?_,⟨(hx _ h.ltT).trans h.col.1,(hx _ h.ltM).trans h.col.2⟩,fun k1 k2 i1 i2 g1 g2 hne=>?_,fun k' it2 hg2 hd2=>?_⟩
 ·rcases key hg2 with ⟨rfl,rfl⟩|⟨e,hg3⟩
  ·rw [TreeB.plus_eq.1,TreeB.plus_eq.2];exact hI
  ·rw [(TreeB.plus_ne e).1,(TreeB.plus_ne e).2]
   exact (h.item k' it2 hg3).keepB hk hx ((h.item k' it2 hg3).notMap h.own) (fun hd=>h.far k' it2 hg3 hd) h0
 ·rcases key g1 with ⟨rfl,rfl⟩|⟨e1,g3⟩
  ·rcases key g2 with ⟨rfl,rfl⟩|⟨e2,g4⟩
   ·exact absurd rfl hne
   ·rw [TreeB.plus_eq.1,TreeB.plus_eq.2,(TreeB.plus_ne e2).1,(TreeB.plus_ne e2).2]
    exact ⟨by have:=lb g4;omega,fun _ hd=>by have:=ln g4 hd;omega⟩
  ·rcases key g2 with ⟨rfl,rfl⟩|⟨e2,g4⟩
   ·rw [TreeB.plus_eq.1,TreeB.plus_eq.2,(TreeB.plus_ne e1).1,(TreeB.plus_ne e1).2]
    exact ⟨by have:=lb g3;omega,fun hd _=>by have:=ln g3 hd;omega⟩
   ·rw [(TreeB.plus_ne e1).1,(TreeB.plus_ne e1).2,(TreeB.plus_ne e2).1,(TreeB.plus_ne e2).2]
    exact h.inj k1 k2 i1 i2 g3 g4 hne
 ·rcases key hg2 with ⟨rfl,rfl⟩|⟨e,hg3⟩
  ·rw [TreeB.plus_eq.2]
   show nb≠q.bm
   have:=h.ltM;omega
  ·rw [(TreeB.plus_ne e).2];exact h.far k' it2 hg3 hd2
theorem TreeAt.come (h:TreeAt w c i bt q T) (hi:i≠0) (hg:getK T k=none) (h0 : -9223372036854775808≤k) (h1:k≤9223372036854775807) (hT:T.length<1000000) (hk:New w w1) (hb:w.heap.size≤bi) (hn:w.heap.size≤nb) (hx:Ext w c c1) (hI:ItemAt w1 c1 i bi nb k it):
  ∃ w2,(Instr.mapUpdate 211 (.map (some q.bm)) (.int .i64 k) (.pointer (some ⟨bi,0,none⟩))).run Tryz.prog w1=.ok () w2∧Keep (fun b=>b≠q.bm) w1 w2∧w2.heap.size=w1.heap.size∧TreeAt w2 c1 i bt (q.plus k bi nb) (putK k it T):=by
 have hlm:=h.ltM
 have m1:MapIs w1 q.bm (fun (x:Int) (_:ItemP)=>.pointer (some ⟨(q.plus k bi nb).β x,0,none⟩)) T:=(h.own.new hk).fn fun x y hy=>by
  have hne:x≠k:=fun e=>by rw [e,hg] at hy;cases hy
  rw [(TreeB.plus_ne hne).1]
 obtain ⟨w2,hrun,m2,k2,z2⟩:=m1.store Tryz.underlying211 hT (wf0 h0 h1) it
 rw [TreeB.plus_eq.1] at hrun
 have hc:c1 q.bm=i:=(hx _ hlm).trans h.col.2
 refine ⟨w2,hrun,k2,z2,h.add hi hb hn (hI.keepB k2 (Ext.refl _ _) (by omega) (fun _=>by omega) (fun b hb2 hc0 e=>by rw [e,hc] at hc0;exact hi hc0)) (Keep.trans2 (D:=fun b=>b≠q.bm) (Keep.of_new hk) k2 fun b _ hb2=>hb2) hx m2⟩
theorem TreeAt.name (h:TreeAt w c i bt q T) (hi:i≠0) (hg:getK T k=some it) (hd:it.n.kind=2) (hl:it.names.length<1000000){nm:List UInt8}(hnm:nm.length≤9223372036854775807) (id:Int):
  ∃ w2,(Instr.mapUpdate 219 (.map (some (q.γ k))) (.string (strOf nm)) (.int .i64 id)).run Tryz.prog w=.ok () w2∧Keep (fun b=>b≠q.γ k) w w2∧w2.heap.size=w.heap.size∧TreeAt w2 c i bt q (putK k { it with names:=putK nm id it.names } T):=by
 obtain ⟨w2,hrun,m2,k2,z2⟩:=((h.item k it hg).names hd).2.store Tryz.underlying219 hl (k:=nm) hnm id
 exact ⟨w2,hrun,k2,z2,h.setNames hi hg hd k2 m2⟩
def TurnRet (w:World) (c:Col) (i bt:Nat) (T:TreeP) (v:Value) (e:Ending) (w':World):Prop :=
 e=.returned v∧Keep (fun b=>b<w.heap.size∧c b≠i) w w'∧∃ c' q',Ext w c c'∧TreeAt w' c' i bt q' T
theorem TurnRet.stay (h:TreeAt w c i bt q T) (hk:New w w') (v:Value):TurnRet w c i bt T v (.returned v) w':=⟨rfl,Keep.of_new hk,c,q,Ext.refl _ _,h.new hk⟩
end
end Go.Proofs.YtdodbdednpnddaaGreatDoor
namespace Go.Proofs.YtdodbdednpnddaaGreatDoor
section
variable {κ α:Type} [Ord2 κ] {l:List (κ×α)}{k:κ}{v x:α}
def below (k:κ):List (κ×α)→Nat
 | []=>0
 | (a,_)::r=>if a<k then below k r+1 else 0
end
structure EntK where
 d:Int
 nm:List UInt8
theorem EntK.ext {a b:EntK}(h1:a.d=b.d) (h2:a.nm=b.nm):a=b:=by cases a;cases b;cases h1;cases h2;rfl
instance:Ord2 EntK where
 lt a b:=a.d<b.d∨a.d=b.d∧a.nm<b.nm
 dec a b:=inferInstanceAs (Decidable (a.d<b.d∨a.d=b.d∧a.nm<b.nm))
 deq a b:=if h:a.d=b.d∧a.nm=b.nm then .isTrue (EntK.ext h.1 h.2) else .isFalse fun e=>h ⟨by rw [e],by rw [e]⟩
 irr a h:=h.elim (Int.lt_irrefl _) fun h=>List.lt_irrefl _ h.2
 tra h h':=by
  rcases h with h|⟨h,h1⟩ <;> rcases h' with h'|⟨h',h1'⟩
  ·exact .inl (Int.lt_trans h h')
  ·exact .inl (by omega)
  ·exact .inl (by omega)
  ·exact .inr ⟨h.trans h',List.lt_trans h1 h1'⟩
 tri a b:=by
  rcases Ord2.tri a.d b.d with h|h|h
  ·exact .inl (.inl h)
  ·rcases Ord2.tri a.nm b.nm with h'|h'|h'
   ·exact .inl (.inr ⟨h,h'⟩)
   ·exact .inr (.inl (EntK.ext h h'))
   ·exact .inr (.inr (.inr ⟨h.symm,h'⟩))
  ·exact .inr (.inr (.inl h))
section
variable {T:TreeP}{d k id:Int}{nm:List UInt8}{it it':ItemP}
end
section
variable {T:TreeP}{d k id:Int}{nm:List UInt8}{it it':ItemP}
end
end Go.Proofs.YtdodbdednpnddaaGreatDoor
namespace Go.Proofs.YtdodbdednpnddaaGreatDoor
structure OpP where
 kind:Int
 path:List UInt8
 goal:List UInt8
 fd:Int
 at_:Int
 n:Int
 till:Int
 snap:Int
 data:List UInt8
structure ReplyP where
 err:Int
 n:Int
 data:List UInt8
 names:PathP
 node:Option (Int×NodeP)
def noR (e:Int):ReplyP:=⟨e,0,[],[],none⟩
def fdT (s:StateP) (n:Int) (wr:Bool):Option FdP:=if 0≤n∧n<8 then (s.fd n.toNat).filter fun f=>f.writing==wr else none
def mkdirT (s:StateP) (p:PathP):ReplyP×StateP:=(noR (makeT s.T p 2).2.1,{ s with T:=(makeT s.T p 2).2.2 })
end Go.Proofs.YtdodbdednpnddaaGreatDoor
namespace Go.Proofs.YtdodbdednpnddaaGreatDoor
structure StInv (s:StateP):Prop where
 tree:TreeInv s.T
 few:LinksFew s.T
 now:0≤s.now∧s.now≤1099511627776
 fd:∀ k f,s.fd k=some f→(f.writing=true→f.b=[]∧0≤f.id∧f.id≤63)∧(f.writing=false→f.id=0∧f.b.length≤4096)
 snaps:s.S.list.length≤8
 snap:∀ x∈s.S.list,TreeInv x.T∧LinksFew x.T∧x.hash.length=32
 ids:∀ x∈s.S.list,0≤x.id∧x.id<s.S.next
 next:1≤s.S.next∧s.S.next≤1000000000
 last:s.S.last.length≤32
end Go.Proofs.YtdodbdednpnddaaGreatDoor
namespace Go.Proofs.YtdodbdednpnddaaGreatDoor
open Go.RowKit
def PlaceRet (q:TreeB) (x:Int×List UInt8×Int) (e:Ending):Prop :=
 (x.2.2=0∧e=.returned (.tuple #[.pointer (some ⟨q.β x.1,0,none⟩),.string (strOf x.2.1),.int .i64 0])) ∨
 (x.2.2≠0∧e=.returned (.tuple #[.pointer none,.string { data:=#[] },.int .i64 x.2.2]))
theorem fineL_one (p:PathP):fineL [p]=finePath p:=by unfold fineL fineL;split <;> omega
section
variable {w w':World}{c c':Col}{i j bt:Nat}{q q':TreeB}{T L:TreeP}{D:Nat→Prop}{A:Option Addr}{n cp:Nat}{p:PathP}{d:Int}{it:ItemP}{nm:List UInt8}
theorem tplace_both (h:TreeAt w c i bt q T) (hI:TreeInv T) (hR:Ps w D A n p) (hn:n≤1000) (hc:n≤cp) (hs:∀ x∈p,x.length≤1099511627776):
  Calls Tryz.prog 236 #[.pointer (some ⟨bt,0,none⟩),.slice A n cp] w fun e w'=>PlaceRet q (placeT T p) e∧New w w':=by
 rcases List.eq_nil_or_concat p with rfl|⟨up,nm,rfl⟩
 ·obtain rfl:n=0:=hR.len.symm
  refine (tplace_nil A cp w bt).mono ?_
  rintro e w' ⟨rfl,rfl⟩
  exact ⟨.inr ⟨by show (1:Int)≠0;decide,rfl⟩,New.refl _⟩
 ·rw [List.concat_eq_append] at hR hs ⊢
  refine (tplace_any h hI hR (by omega) hc fun x hx=>hs x (List.mem_append_left _ hx)).mono ?_
  rintro e w' ⟨h1,k⟩
  refine ⟨h1.imp (fun ⟨a,b⟩=>⟨a,?_⟩) id,k⟩
  obtain ⟨-,-,-,h2⟩:=place_ok a
  rw [b]
  have:(placeT T (up++[nm])).2.1=nm:=by
   unfold placeT at a ⊢
   rw [if_neg (by simp)] at a ⊢
   split at a
   ·exact absurd a (by assumption)
   ·rename_i hw
    rw [if_neg hw]
    split at a
    ·exact absurd a (by decide)
    ·rename_i hd;rw [hd];exact List.getLastD_concat ..
  rw [this]
theorem TreeAt.dirAt (h:TreeAt w c i bt q T) (hg:getK T d=some it) (hk:it.n.kind=2) (hnm:nm.length≤9223372036854775807):
  w.cell? ⟨q.β d,1,none⟩=some (.int .i64 2)∧w.cell? ⟨q.β d,7,none⟩=some (.map (some (q.γ d))) ∧
  (Instr.lookup 219 (.map (some (q.γ d))) (.string (strOf nm)) true).run Tryz.prog w=.ok (.tuple #[(getK it.names nm).elim (.int .i64 0) (fun k'=>.int .i64 k'),.bool (getK it.names nm).isSome]) w:=by
 have hitem:=h.item d it hg
 obtain ⟨A2,cp2,-,x1,-,-,-,-,-,x7,-⟩:=node_cells hitem
 rw [if_pos hk] at x7
 rw [hk] at x1
 exact ⟨x1,x7,((hitem.names hk).2.look Tryz.underlying219 (zero_int w) (k:=nm) hnm).1⟩
theorem TreeAt.lookAt (h:TreeAt w c i bt q T) (h0 : -9223372036854775808≤d) (h1:d≤9223372036854775807):
  w.cell? ⟨bt,0,none⟩=some (.map (some q.bm))∧(Instr.lookup 211 (.map (some q.bm)) (.int .i64 d) true).run Tryz.prog w=.ok (.tuple #[(getK T d).elim (.pointer none) (fun _=>.pointer (some ⟨q.β d,0,none⟩)),.bool (getK T d).isSome]) w ∧
  (Instr.lookup 211 (.map (some q.bm)) (.int .i64 d) false).run Tryz.prog w=.ok ((getK T d).elim (.pointer none) (fun _=>.pointer (some ⟨q.β d,0,none⟩))) w :=
 ⟨cellOf h.tree (k:=0) rfl,h.look h0 h1⟩
end
theorem free_is {T:TreeP}(h:TreeInv T) (hl:T.length<64){k:Int}(hg:getK T k=none) (h1:1≤k) (hb:∀ j,1≤j→j<k→(getK T j).isSome):k=freeT T:=by
 obtain ⟨f0,f1,f2,f3⟩:=free_ok h hl
 rcases Int.lt_trichotomy k (freeT T) with e|e|e
 ·have:=f3 k h1 e;rw [hg] at this;cases this
 ·exact e
 ·have:=hb _ f1 e;rw [f0] at this;cases this
section
variable {w w':World}{c c':Col}{i j bt:Nat}{q q':TreeB}{T L:TreeP}{D:Nat→Prop}{A:Option Addr}{n cp:Nat}{p:PathP}{d:Int}{it:ItemP}{nm:List UInt8}
theorem tmake_any (h:TreeAt w c i bt q T) (hi:i≠0) (hI:TreeInv T) (hF:LinksFew T) (hR:Ps w D A n p) (hn:n≤1000) (hc:n≤cp) (hs:∀ nm∈p,nm.length≤1099511627776){kind:Int}(hkd:kind=1∨kind=2):
  Calls Tryz.prog 175 #[.pointer (some ⟨bt,0,none⟩),.slice A n cp,.int .i64 kind] w (TurnRet w c i bt (makeT T p kind).2.2 (.tuple #[.int .i64 (makeT T p kind).1,.int .i64 (makeT T p kind).2.1])):=by
 have hl:=hR.len
 have k1:=(New.refl w).alloc (.cells #[.slice A n cp] 25)
 have HTF:=Lib.hid (tfine_any _ (some ⟨w.heap.size,0,none⟩) 1 1 [p] _ (pss_one (c:=cp) (t:=25) hR) (by decide) (by simpa using ⟨by omega,hs⟩))
 rw [fineL_one] at HTF
 have HPL:=Lib.hid (fun W (hW:New w W)=>tplace_both (h.new hW) hI (cp:=cp) (Row.new hR hW) hn hc hs)
 have HT:=Lib.hid (And.intro h (And.intro hI (And.intro hi hF)))
 have HLN:=Lib.hid (fun (e:finePath p=0) (e2:p≠[])=>(good_last e e2))
 have HPO:=Lib.hid (fun (e:(placeT T p).2.2=0)=>place_ok e)
 have HFR:=Lib.hid (fresh_any c i)
 obtain ⟨r,hr⟩:∃ r,r=makeT T p kind:=⟨_,rfl⟩
 rw [← hr]
 have HK1:=Lib.hid k1
 have hnk:¬ (kind≠1∧kind≠2):=by omega
 have HW:Hid (r=if finePath p≠0 then (0,finePath p,T) else if (placeT T p).2.2≠0 then (0,(placeT T p).2.2,T) else if (getK (namesT T (placeT T p).1) (placeT T p).2.1).isSome then (0,21,T) else if 64≤T.length then (0,4,T)
   else (freeT T,0,setNames (putK (freeT T) (freshItem kind) T) (placeT T p).1 (putK (placeT T p).2.1 (freeT T) (namesT T (placeT T p).1)))):=Lib.hid (by rw [hr];unfold makeT;rw [if_neg hnk])
 generalize finePath p=f at *
 generalize hpx:placeT T p=x at *
 obtain ⟨d,nm,why⟩:=x
 dsimp only at HW HPL HPO HLN
 have HNM:Hid (f=0→why=0→p≠[]∧nm=p.getLastD []):=Lib.hid (fun e1 e2=>by
  have:=HPO.out e2
  exact ⟨this.1,this.2.2.2⟩)
 have HPX:=Lib.hid hpx
 clear hl h hI hi hF hR hs hr k1 hnk hpx hc
 rcases hkd with rfl|rfl
 all_goals
  go_enter Tryz.func175,Tryz.ntmps175
  go_wp2_with fail
  refine HTF.out.mono ?_
  rintro e w1 ⟨rfl,k2⟩
  have HN:=Lib.hid (HK1.out.new k2)
  clear k2 HK1 HTF
  by_cases hf:f=0
  rotate_left
  ·have HE:Hid (r=(0,f,T)):=Lib.hid (by have:=HW.out;rwa [if_pos hf] at this)
   have hb:(f !=0)=true:=by simpa using hf
   clear HW hf
   go_wp2_with fail
   refine bodyPost_ret (v:=.tuple #[.int .i64 0,.int .i64 f]) (by simp [results,Tryz.results175,go_sem]) rfl ?_
   rw [HE.out]
   exact TurnRet.stay HT.out.1 HN.out _
  subst hf
  rw [if_neg (by decide)] at HW
  go_wp2_with fail
  refine (HPL.out _ HN.out).mono ?_
  rintro e w2 ⟨hp,k3⟩
  replace HN:=Lib.hid (HN.out.new k3)
  clear k3 HPL
  rcases hp with ⟨hw0,rfl⟩|⟨hw0,rfl⟩
  rotate_left
  ·replace hw0:why≠0:=hw0
   have HE:Hid (r=(0,why,T)):=Lib.hid (by have:=HW.out;rwa [if_pos hw0] at this)
   have hb:(why !=0)=true:=by simpa using hw0
   clear HW hw0
   go_wp2_with fail
   refine bodyPost_ret (v:=.tuple #[.int .i64 0,.int .i64 why]) (by simp [results,Tryz.results175,go_sem]) rfl ?_
   rw [HE.out]
   exact TurnRet.stay HT.out.1 HN.out _
  replace hw0:why=0:=hw0
  subst hw0
  rw [if_neg (by decide)] at HW
  obtain ⟨hpn,hpw,⟨it,hg,hk2,hnt⟩,hnl⟩:=HPO.out (by first|rfl|trivial)
  have hgd:=HLN.out (by first|rfl|trivial) hpn
  have hnl1:nm.length≤16:=by
   rw [hnl]
   unfold goodName at hgd
   simp only [Bool.and_eq_true,decide_eq_true_eq] at hgd
   exact hgd.1.1.2
  rw [hnt] at HW
  have HG:=Lib.hid (And.intro hg (And.intro hk2 hnl1))
  have T2:=HT.out.1.new HN.out
  obtain ⟨x1,x7,hlk⟩:=T2.dirAt hg hk2 (nm:=nm) (by omega)
  clear hpw hnt hnl hgd HPO HLN
  by_cases hsm:(getK it.names nm).isSome=true
  ·have HE:Hid (r=(0,21,T)):=Lib.hid (by have:=HW.out;rwa [if_pos hsm] at this)
   obtain ⟨k',hk'⟩:=Option.isSome_iff_exists.1 hsm
   rw [hk'] at hlk
   simp only [Option.elim_some,Option.isSome_some] at hlk
   clear HW hg hk2 T2 hsm hk'
   go_wp2_with fail
   refine bodyPost_ret (v:=.tuple #[.int .i64 0,.int .i64 21]) (by simp [results,Tryz.results175,go_sem]) rfl ?_
   rw [HE.out]
   exact TurnRet.stay HT.out.1 HN.out _
  rw [if_neg hsm] at HW
  have hno:=some_of_not hsm
  rw [hno] at hlk
  simp only [Option.elim_none,Option.isSome_none] at hlk
  have HNO:=Lib.hid hno
  have hlen:=T2.own.len Tryz.underlying211 3
  have c0:=(T2.lookAt (d:=0) (by decide) (by decide)).1
  clear hg hk2 T2 hsm hno
  by_cases hmany:64≤T.length
  ·have HE:Hid (r=(0,4,T)):=Lib.hid (by have:=HW.out;rwa [if_pos hmany] at this)
   have hb:((T.length:Int)≥64):=by omega
   clear HW
   go_wp2_with fail
   refine bodyPost_ret (v:=.tuple #[.int .i64 0,.int .i64 4]) (by simp [results,Tryz.results175,go_sem]) rfl ?_
   rw [HE.out]
   exact TurnRet.stay HT.out.1 HN.out _
  rw [if_neg hmany] at HW
  have HMA:=Lib.hid hmany
  have hb:¬ ((T.length:Int)≥64):=by omega
  clear hmany
  go_wp2_with fail
  clear hlk x1 x7 hlen hb
  go_loopw [14] (fun s14 wx=>∃ id:Int,s14=.int .i64 id∧1≤id∧id≤64∧(∀ j,1≤j→j<id→(getK T j).isSome=true)∧w2=wx) (fun s _=>65-(intOf s).toNat)
  case atStart=>exact ⟨1,rfl,by decide,by decide,fun j h1 h2=>by omega,rfl⟩
  case round =>
   obtain ⟨id,rfl,hi1,hi2,hbelow,rfl⟩:=hrel
   have T2:=HT.out.1.new HN.out
   have hlk2:=(T2.lookAt (d:=id) (by omega) (by omega)).2.2
   have HB:=Lib.hid hbelow
   clear T2 hbelow
   cases hgi:getK T id with
   | some it2 =>
    rw [hgi] at hlk2
    simp only [Option.elim_some] at hlk2
    have hid:=HT.out.2.1.ids id it2 hgi
    have HG2:Hid ((getK T id).isSome=true):=Lib.hid (by rw [hgi];rfl)
    have hwr:IntKind.i64.wrap (id+1)=id+1:=IntWalk.i64_in _ (by omega)
    clear hgi
    go_wp2_with fail
    go_roundw
    case rel=>exact ⟨id+1,by go_num,by omega,by omega,fun j h1 h2=>(Int.lt_or_eq_of_le (show j≤id by omega)).elim (HB.out j h1) (fun e=>by rw [e];exact HG2.out),by first|rfl|trivial⟩
    case measure=>simp [intOf];omega
   | none =>
    rw [hgi] at hlk2
    simp only [Option.elim_none] at hlk2
    have hfr:=free_is HT.out.2.1 (by have:=HMA.out;omega) hgi hi1 HB.out
    have HGI:=Lib.hid (And.intro hgi hfr)
    have cq:∀ W,Keep (fun b=>b≠q.bm) w2.drew W→W.cell? ⟨bt,0,none⟩=some (.map (some q.bm)):=fun W hW=>hW.cell_some (cellOf (w:=w2.drew) ((HT.out.1.new HN.out).tree) (k:=0) rfl) HT.out.1.nmap
    clear hgi hfr
    go_upto_region 17 with fail
    clear c0 hlk2
    refine hold_beginS (Keep (fun b=>b≠q.bm) w2.drew) (by kernel_rfl) ?_
    have n0:Keep (fun b=>b≠q.bm) w2.drew w2.drew:=Keep.refl _ _
    refine take0 0 n0 ?_
    refine take0 1 n0 ?_
    refine take0 2 n0 ?_
    refine take0 3 n0 ?_
    refine take0 4 n0 ?_
    refine take0 5 n0 ?_
    refine take0 6 n0 ?_
    refine hold_step0 (i:=7) (by kernel_rfl) rfl rfl (fun K hK=>?_)
    go_simp
    refine (HFR.out id _ (by decide) w2.drew).mono ?_
    rintro e w3 ⟨bi,nb,c1,rfl,k3,hb1,hn1,hx1,hit⟩
    have H3:=Lib.hid (And.intro k3 (And.intro hb1 (And.intro hn1 (And.intro hx1 hit))))
    clear hb1 hn1 hx1 hit
    go_wp2_with fail
    have n1:=Keep.new n0 k3
    refine hK.out _ _ n1 ?_
    clear hK K n0 k3
    try simp only [Act.put,ly1,ly2,ly3,ly4,ly5,ly6]
    obtain ⟨w4,hr4,k4,z4,T4⟩:=(HT.out.1.new (HN.out.drew)).come HT.out.2.2.1 HGI.out.1 (by omega) (by omega) (by have:=HMA.out;omega) H3.out.1 H3.out.2.1 H3.out.2.2.1 H3.out.2.2.2.1 H3.out.2.2.2.2
    have H4:=Lib.hid (And.intro k4 T4)
    have n2:=n1.trans k4
    clear z4 T4 k4
    refine hold_step0 (i:=8) (by kernel_rfl) rfl rfl (fun K hK=>?_)
    go_simp
    refine hK.out _ _ n2 ?_
    clear hK K n1 hr4 cq
    try simp only [Act.put,ly1,ly2,ly3,ly4,ly5,ly6]
    refine wpAnyH_done (by kernel_rfl) ?_ _
    have N2:=Lib.hid n2
    clear n2
    have hne:d≠id:=fun e=>by have h1:=HGI.out.1;have h2:=HG.out.1;rw [e,h1] at h2;cases h2
    have hgd:∀ x,getK (putK id x T) d=some it:=fun x=>by rw [getK_put,if_neg hne];exact HG.out.1
    have y7:=(H4.out.2.dirAt (hgd _) HG.out.2.1 (nm:=nm) (by have:=HG.out.2.2;omega)).2.1
    obtain ⟨w5,hr5,k5,z5,T5⟩:=H4.out.2.name HT.out.2.2.1 (hgd _) HG.out.2.1 (by have:=names_le HT.out.2.1 HT.out.2.2.2 (getK_mem HG.out.1);dsimp only at this;omega) (nm:=nm) (by have:=HG.out.2.2;omega) id
    rw [(TreeB.plus_ne hne).1,(TreeB.plus_ne hne).2] at y7
    rw [(TreeB.plus_ne hne).2] at hr5 k5
    have H5:=Lib.hid (And.intro hne (And.intro hgd (And.intro k5 T5)))
    clear hne hgd k5 T5 z5
    go_wp2_with fail
    refine bodyPost_ret (v:=.tuple #[.int .i64 id,.int .i64 0]) (by simp [results,Tryz.results175,go_sem]) rfl ?_
    obtain ⟨hne,hgd,k5,T5⟩:=H5.out
    rw [HW.out,← HGI.out.2]
    refine ⟨rfl,?_,c1,q.plus id bi nb,fun b hb=>H3.out.2.2.2.1 b (Nat.lt_of_lt_of_le hb HN.out.size),?_⟩
    ·have hd:=((HT.out.1.item d it HG.out.1).names HG.out.2.1).1
     exact ((Keep.of_new HN.out.drew).trans2 N2.out fun b _ hh e=>hh.2 (by rw [e];exact HT.out.1.col.2)).trans2 k5 fun b _ hh e=>hh.2 (by rw [e];exact hd)
    ·dsimp only
     rw [setNames_of _ (hgd _)]
     exact T5
end
section
variable {w w':World}{c c':Col}{i:Cols}{b:Nat}{B:StateB}{s:StateP}
theorem StateAt.fdCell (h:StateAt w c i b B s){k:Nat}(hk:k<8):w.cell? ⟨b,3+k,none⟩=some (B.ptr k):=by
 refine cellOf h.state ?_
 match k,hk with
 | 0,_=>rfl
 | 1,_=>rfl
 | 2,_=>rfl
 | 3,_=>rfl
 | 4,_=>rfl
 | 5,_=>rfl
 | 6,_=>rfl
 | 7,_=>rfl
theorem sfd_any (h:StateAt w c i b B s) (n:Int) (wr:Bool):Calls Tryz.prog 171 #[.pointer (some ⟨b,0,none⟩),.int .i64 n,.bool wr] w fun e w' =>
  e=.returned (.tuple #[if (fdT s n wr).isSome=true then B.ptr n.toNat else .pointer none,.bool (fdT s n wr).isSome])∧w=w':=by
 by_cases hn:0≤n∧n<8
 ·obtain ⟨k,rfl⟩:∃ k:Nat,n=(k:Int):=⟨n.toNat,by omega⟩
  have hk:k<8:=by omega
  have u0:=h.fdCell hk
  have hf:=h.fd k hk
  unfold StateB.ptr at u0 ⊢
  rw [Int.toNat_natCast]
  unfold fdT
  rw [if_pos hn,Int.toNat_natCast]
  clear h hn
  cases hB:B.fd k with
  | none =>
   cases hs:s.fd k with
   | some _=>rw [hB,hs] at hf;exact hf.elim
   | none =>
    rw [hB] at u0
    clear hf hB hs
    simp only [Option.isSome_none,Option.filter_none,if_false,Bool.false_eq_true,Option.map_none] at u0 ⊢
    have e0:(k:Int)<8:=by omega
    go_enter Tryz.func171,Tryz.ntmps171
    go_wp2_with fail
    refine bodyPost_ret (v:=.tuple #[.pointer none,.bool false]) (by simp [results,Tryz.results171,go_sem]) rfl ?_
    exact ⟨rfl,rfl⟩
  | some g =>
   cases hs:s.fd k with
   | none=>rw [hB,hs] at hf;exact hf.elim
   | some f =>
    rw [hB,hs] at hf
    obtain ⟨-,A,cp,hc,-⟩:=hf
    have v0:=cellOf hc (k:=0) rfl
    rw [hB] at u0
    clear hB hs hc
    have e0:(k:Int)<8:=by omega
    by_cases he:f.writing=wr
    ·have e1:(f.writing==wr)=true:=by simp [he]
     have e2:(some f:Option FdP).filter (fun f=>f.writing==wr)=some f:=by simp [Option.filter,he]
     rw [e2]
     clear he e2
     simp only [Option.isSome_some,if_true,Option.map_some] at u0 ⊢
     go_enter Tryz.func171,Tryz.ntmps171
     go_wp2_with fail
     refine bodyPost_ret (v:=.tuple #[.pointer (some ⟨g,0,none⟩),.bool true]) (by simp [results,Tryz.results171,go_sem]) rfl ?_
     exact ⟨rfl,rfl⟩
    ·have e1:(f.writing==wr)=false:=by simp [he]
     have e2:(some f:Option FdP).filter (fun f=>f.writing==wr)=none:=by simp [Option.filter,he]
     rw [e2]
     clear he e2
     simp only [Option.isSome_none,if_false,Bool.false_eq_true,Option.map_some] at u0 ⊢
     go_enter Tryz.func171,Tryz.ntmps171
     go_wp2_with fail
     refine bodyPost_ret (v:=.tuple #[.pointer none,.bool false]) (by simp [results,Tryz.results171,go_sem]) rfl ?_
     exact ⟨rfl,rfl⟩
 ·have e:fdT s n wr=none:=by unfold fdT;rw [if_neg hn]
  rw [e]
  clear e h
  simp only [Option.isSome_none,if_false,Bool.false_eq_true]
  go_enter Tryz.func171,Tryz.ntmps171
  by_cases h0:n<0
  ·go_wp2_with fail
   refine bodyPost_ret (v:=.tuple #[.pointer none,.bool false]) (by simp [results,Tryz.results171,go_sem]) rfl ?_
   exact ⟨rfl,rfl⟩
  ·have h8:n≥8:=by omega
   go_wp2_with fail
   refine bodyPost_ret (v:=.tuple #[.pointer none,.bool false]) (by simp [results,Tryz.results171,go_sem]) rfl ?_
   exact ⟨rfl,rfl⟩
end
end Go.Proofs.YtdodbdednpnddaaGreatDoor
