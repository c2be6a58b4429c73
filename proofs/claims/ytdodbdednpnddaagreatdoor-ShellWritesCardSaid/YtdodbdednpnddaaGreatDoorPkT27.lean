/-
  PROVED HERE: texts that belong together, one behind the other; what each proves, and under which conditions, its own opening remark says: Keys22, Copy22, TreeSet22, MapDel22, File22, Drop22, Commit22, Node22, Save22a, TreeKeep22, Super22, MLay22, SuperB22, Enc22, MSave22, MarkLaw22.
-/
import Derived.Lib.SlMapFilter
import Derived.Laws.IdiomStrings
import Derived.Test.YtdodbdednpnddaaGreatDoorPkT18
import Derived.Test.YtdodbdednpnddaaGreatDoorPkT24
set_option maxRecDepth 100000
set_option maxHeartbeats 4000000
namespace Go.Proofs.YtdodbdednpnddaaGreatDoor
open Go.RowKit Go.Maps Go.Sort Go.Shelf
section
variable {w w':World}{nb bm:Nat}{c:Col}{i bt:Nat}{q:TreeB}{T:TreeP}
theorem new_of_below (h:Below w.heap.size w w'):New w w':=⟨h.os,h.tape,h.output,h.size,fun k hk _=>h.block k hk⟩
theorem cloneN_any {l:List (List UInt8×Int)}(h:NamesAt w nb l):
  Calls Tryz.prog 211 #[.map (some nb)] w fun e w'=>e=.returned (.map (some w.heap.size))∧New w w'∧w.heap.size<w'.heap.size∧NamesAt w' w.heap.size l:=by
 obtain ⟨h0,E,h1,h2⟩:=h
 refine (AnyW.maps_Clone_owns cloneN _ heldR nb _ E w h1).mono ?_
 rintro e w' ⟨he,ho,_,hb⟩
 exact ⟨he,new_of_below hb,ho.lt,h0,E,ho,h2⟩
theorem cloneN_nil (w:World):Calls Tryz.prog 211 #[.map none] w fun e w'=>e=.returned (.map none)∧w=w' :=
 (AnyW.maps_Clone_nil cloneN w).mono fun _e _w' ⟨he,hw⟩=>⟨he,hw.symm⟩
theorem sortsI (m:Nat):AnyZI.SortsIn Tryz.prog sortedI_ren Fence.wide m :=
 ⟨fun blk off cap ss W hH hblk hsz=>callsIn_wide.2 (AnyM.slices_Sort_int sortI blk off cap ss W hH hblk hsz),fun p cap W=>callsIn_wide.2 (AnyM.slices_Sort_int_none sortI p cap W)⟩
theorem sortsN (m:Nat):AnyZ.SortsIn Tryz.prog sortedN_ren Fence.wide m :=
 ⟨fun blk off cap ss W hH hblk hsz=>callsIn_wide.2 (AnyM.slices_Sort_string sortN blk off cap ss W hH hblk hsz),fun p cap W=>callsIn_wide.2 (AnyM.slices_Sort_string_none sortN p cap W)⟩
theorem keys_int {α:Type}{f:Int→α→Value}{l:List (Int×α)}{n:Nat}{E:DataW Value}(hown:w.ownsMap Tryz.prog 3 heldR bm n E) (hs:ShowsK E f l) (hr:Rising l){ss:List Int}(hp:ss.Perm (intKeys E)):(ss.mergeSort fun x y=>decide (x≤y))=l.map (·.1):=by
 obtain ⟨es,hD,hpw,_⟩:=hown.entries keyI
 obtain ⟨es',hD',hko⟩:=hown.keysOf
 obtain rfl:es=es':=by rw [hD] at hD';simpa using hD'
 subst hD
 have h1:(l.map (·.1)).Perm (intKeys (.map es)):=perm_intKeys hpw (fun p hp=>by obtain ⟨v,hv⟩:=hko p hp;obtain ⟨x,_,hx,_⟩:=Maps.keyOf_i64 Tryz.underlying3 hv;exact ⟨x,hx⟩)
  (List.pairwise_map.2 (hr.imp fun {a b} h e=>by have h:a.1<b.1:=h;omega)) (fun x=>by
   constructor
   ·intro hx
    obtain ⟨p,hp,rfl⟩:=List.mem_map.1 hx
    exact ((hs p.1).2 p.2 (hr.get hp)).1
   ·intro hx
    cases hg:getK l x with
    | none=>have:=(hs x).1 hg;rw [show (KeyL.lit x:Lit)=.int .i64 x from rfl] at this;rw [this] at hx;cases hx
    | some z=>exact List.mem_map.2 ⟨(x,z),getK_mem hg,rfl⟩)
 have h2:=mergeSort_of_perm_i (hp.trans h1.symm)
 have h3:(l.map (·.1)).mergeSort leI=l.map (·.1):=List.mergeSort_of_pairwise (List.pairwise_map.2 (hr.imp fun {a b} h=>by have h:a.1<b.1:=h;simp only [leI,decide_eq_true_eq];omega))
 exact h2.trans h3
theorem keys_str {α:Type}{f:List UInt8→α→Value}{l:List (List UInt8×α)}{n:Nat}{E:DataW Value}(hown:w.ownsMap Tryz.prog 9 heldR bm n E) (hs:ShowsK E f l) (hr:Rising l){ss:List (List UInt8)}(hp:ss.Perm (strKeys E)):(ss.mergeSort fun x y=>decide (x≤y))=l.map (·.1):=by
 obtain ⟨es,hD,hpw,_⟩:=hown.entries keyS
 obtain ⟨es',hD',hko⟩:=hown.keysOf
 obtain rfl:es=es':=by rw [hD] at hD';simpa using hD'
 subst hD
 have h1:(l.map (·.1)).Perm (strKeys (.map es)):=perm_strKeys hpw (fun p hp=>by obtain ⟨v,hv⟩:=hko p hp;obtain ⟨x,_,hx,_⟩:=Maps.keyOf_str Tryz.underlying9 hv;exact ⟨x,hx⟩)
  (List.pairwise_map.2 (hr.imp fun {a b} h e=>by have h:a.1<b.1:=h;rw [e] at h;exact Ord2.irr _ h)) (fun x=>by
   constructor
   ·intro hx
    obtain ⟨p,hp,rfl⟩:=List.mem_map.1 hx
    exact ((hs p.1).2 p.2 (hr.get hp)).1
   ·intro hx
    cases hg:getK l x with
    | none=>have:=(hs x).1 hg;rw [show (KeyL.lit x:Lit)=.string x from rfl] at this;rw [this] at hx;cases hx
    | some z=>exact List.mem_map.2 ⟨(x,z),getK_mem hg,rfl⟩)
 have h2:=mergeSort_of_perm (hp.trans h1.symm)
 have h3:(l.map (·.1)).mergeSort leB=l.map (·.1):=List.mergeSort_of_pairwise (List.pairwise_map.2 (hr.imp fun {a b} h=>by have h:a.1<b.1:=h;simp only [leB,decide_eq_true_eq];exact List.le_of_lt h))
 exact h2.trans h3
theorem own_sliceV {base e size n:Nat}{v:Value}{xs:List Value}(h:w.ownsRow base e size v n xs):∃ A c,v=.slice A n c:=by
 rcases h.2 with ⟨h0,h2⟩|⟨g,cap,cur,h0,_⟩
 ·exact ⟨none,0,by rw [h0,h2]⟩
 ·exact ⟨_,_,h0⟩
theorem sortedT_any {α:Type}{f:Int→α→Value}{l:List (Int×α)}(h:MapIs w bm f l) (hn:l.length≤1000000) (B1:Nat) (h1:w.heap[B1]?=some (.cells #[.map (some bm)] 211 (0,0))):
  Calls Tryz.prog 197 #[.func (.func 274) #[] #[.pointer (some ⟨B1,0,none⟩)]] w fun e w'=>(∃ (A:Option Addr) (c:Nat),e=.returned (.slice A l.length c)∧Own w' w.heap.size 3 1 A l.length c (l.map fun p=>.int .i64 p.1))∧New w w':=by
 obtain ⟨h0,E,hown,hsh⟩:=h
 have hs:=hown.size_le
 have hseq:SeqGives Fence.wide 2 Tryz.prog 274 #[.pointer (some ⟨B1,0,none⟩)] encZ (fun ss=>ss.Perm (intKeys E)) (Maps.size E) w :=
  AnyZI.keys_gives (ρ:=keysT_ren) { keysT with } Fence.wide _ trivial rfl (by omega) B1 bm _ E w (Array.getElem?_eq_some_iff.1 h1).1 (cellOf h1 (k:=0) rfl) hown
 have cS:=AnyZI.sorted_in sortedI Fence.wide 5 trivial trivial trivial trivial rfl (by omega) (sortsI _) (enters_of Tryz.func264 (by kernel_rfl) rfl) 274 #[.pointer (some ⟨B1,0,none⟩)] trivial (enters_of Tryz.func274 (by kernel_rfl) rfl) _ _ (by unfold maxLen;omega) (by omega) _ hseq
 change CallsIn _ _ Tryz.prog 197 _ _ _ at cS
 refine (callsIn_wide.1 cS).mono ?_
 rintro e w' ⟨v,ss,rfl,hp,hrow,_,hb⟩
 have hk:=keys_int hown hsh h0 hp
 have hl:ss.length=l.length:=by have:=congrArg List.length hk;rw [List.length_mergeSort,List.length_map] at this;exact this
 rw [hk,List.map_map,hl] at hrow
 obtain ⟨A,c,rfl⟩:=own_sliceV hrow
 exact ⟨⟨A,c,rfl,hrow⟩,new_of_below hb⟩
theorem sortedN_any {α:Type}{f:List UInt8→α→Value}{l:List (List UInt8×α)}(h:MapIs w bm f l) (hn:l.length≤1000000) (B1:Nat) (h1:w.heap[B1]?=some (.cells #[.map (some bm)] 219 (0,0))):
  Calls Tryz.prog 157 #[.func (.func 219) #[] #[.pointer (some ⟨B1,0,none⟩)]] w fun e w'=>(∃ (A:Option Addr) (c:Nat),e=.returned (.slice A l.length c)∧Own w' w.heap.size 9 1 A l.length c (l.map fun p=>.string (strOf p.1)))∧New w w':=by
 obtain ⟨h0,E,hown,hsh⟩:=h
 have hs:=hown.size_le
 have hseq:SeqGives Fence.wide 2 Tryz.prog 219 #[.pointer (some ⟨B1,0,none⟩)] encStr (fun ss=>ss.Perm (strKeys E)) (Maps.size E) w :=
  AnyZ.keys_gives (ρ:=keysN_ren) { keysN with } Fence.wide _ trivial rfl (by omega) B1 bm _ E w (Array.getElem?_eq_some_iff.1 h1).1 (cellOf h1 (k:=0) rfl) hown
 have cS:=AnyZ.sorted_in sortedN Fence.wide 5 trivial trivial trivial trivial rfl (by omega) (sortsN _) (enters_of Tryz.func218 (by kernel_rfl) rfl) 219 #[.pointer (some ⟨B1,0,none⟩)] trivial (enters_of Tryz.func219 (by kernel_rfl) rfl) _ _ (by unfold maxLen;omega) (by omega) _ hseq
 change CallsIn _ _ Tryz.prog 157 _ _ _ at cS
 refine (callsIn_wide.1 cS).mono ?_
 rintro e w' ⟨v,ss,rfl,hp,hrow,_,hb⟩
 have hk:=keys_str hown hsh h0 hp
 have hl:ss.length=l.length:=by have:=congrArg List.length hk;rw [List.length_mergeSort,List.length_map] at this;exact this
 rw [hk,List.map_map,hl] at hrow
 obtain ⟨A,c,rfl⟩:=own_sliceV hrow
 exact ⟨⟨A,c,rfl,hrow⟩,new_of_below hb⟩
theorem keysT_any (bm:Nat) (w:World):Calls Tryz.prog 212 #[.map (some bm)] w fun e w'=>e=.returned (.func (.func 274) #[] #[.pointer (some ⟨w.heap.size,0,none⟩)])∧w'=w.alloc (.cells #[.map (some bm)] 211):=by
 go_enter Tryz.func212,Tryz.ntmps212
 go_wp2_with fail
 go_ret
 exact ⟨rfl,rfl⟩
theorem keysN_any (bm:Nat) (w:World):Calls Tryz.prog 158 #[.map (some bm)] w fun e w'=>e=.returned (.func (.func 219) #[] #[.pointer (some ⟨w.heap.size,0,none⟩)])∧w'=w.alloc (.cells #[.map (some bm)] 219):=by
 go_enter Tryz.func158,Tryz.ntmps158
 go_wp2_with fail
 go_ret
 exact ⟨rfl,rfl⟩
theorem ids_any (h:TreeAt w c i bt q T) (hn:T.length≤1000000):
  Calls Tryz.prog 154 #[.pointer (some ⟨bt,0,none⟩)] w fun e w'=>(∃ (A:Option Addr) (cp:Nat),e=.returned (.slice A T.length cp)∧Own w' w.heap.size 3 1 A T.length cp (T.map fun p=>.int .i64 p.1))∧New w w':=by
 have k1:=(New.refl w).alloc (.cells #[.map (some q.bm)] 211)
 have c0:w.cell? ⟨bt,0,none⟩=some (.map (some q.bm)):=cellOf h.tree (k:=0) rfl
 have HL:=Lib.hid (sortedT_any (h.own.new k1) hn _ (heap_alloc_new w _))
 have HM:=Lib.hid (keysT_any q.bm w)
 clear h
 go_enter Tryz.func154,Tryz.ntmps154
 go_wp2_with fail
 refine HM.out.mono ?_
 rintro e w1 ⟨rfl,rfl⟩
 go_wp2_with fail
 refine HL.out.mono ?_
 rintro e w2 ⟨⟨A,c,rfl,ho⟩,k2⟩
 have HK:=Lib.hid (And.intro ho k2)
 clear ho k2
 go_wp2_with fail
 go_ret
 exact ⟨⟨A,c,rfl,ownsRow_base_a HK.out.1 (by simp)⟩,k1.new HK.out.2⟩
end
end Go.Proofs.YtdodbdednpnddaaGreatDoor
namespace Go.Proofs.YtdodbdednpnddaaGreatDoor
open Go.RowKit
section
variable {w w':World}{c c':Col}{i j bt:Nat}{q q':TreeB}{T L:TreeP}
structure Made (w:World) (c:Col) (j n bt bm:Nat) (β γ:Int→Nat) (L:TreeP):Prop where
 tree:w.heap[bt]?=some (.cells #[.map (some bm)] 213 (0,0))
 own:MapIs w bm (fun (k:Int) (_:ItemP)=>.pointer (some ⟨β k,0,none⟩)) L
 item:∀ k it,getK L k=some it→ItemAt w c j (β k) (γ k) k it∧n≤β k∧n≤γ k
 col:c bt=j∧c bm=j
 inj:∀ k k' it it',getK L k=some it→getK L k'=some it'→k≠k'→β k≠β k'∧(it.n.kind=2→it'.n.kind=2→γ k≠γ k')
 far:∀ k it,getK L k=some it→it.n.kind=2→γ k≠bm
theorem Made.keep {n bm:Nat}{β γ:Int→Nat}{F:Nat→Prop}(h:Made w c j n bt bm β γ L) (hk:Keep F w w') (hx:Ext w c c') (hF:∀ b,b<w.heap.size→c b=j∨c b=0→F b):Made w' c' j n bt bm β γ L :=
 ⟨(hk.block bt (Array.getElem?_eq_some_iff.1 h.tree).1 (hF _ (Array.getElem?_eq_some_iff.1 h.tree).1 (.inl h.col.1))).trans h.tree,h.own.keep hk (hF _ h.own.lt (.inl h.col.2)),fun k it hg=>⟨(h.item k it hg).1.keep hk hx hF,(h.item k it hg).2⟩,⟨(hx _ (Array.getElem?_eq_some_iff.1 h.tree).1).trans h.col.1,(hx _ h.own.lt).trans h.col.2⟩,h.inj,h.far⟩
theorem grown_new {o:Option Nat}(hg:w.grownBy w' o) (ho:∀ k,o=some k→w.heap.size≤k):New w w':=⟨hg.os,hg.tape,hg.output,hg.size,fun j hj _=>hg.block j hj (fun e=>by have:=ho j e.symm;omega)⟩
theorem Made.tree_at {n bm:Nat}{β γ:Int→Nat}(h:Made w c j n bt bm β γ L):TreeAt w c j bt ⟨bm,β,γ⟩ L:=⟨h.tree,h.own,fun k it hg=>(h.item k it hg).1,h.col,h.inj,h.far⟩
theorem node_cells {W:World}{bi nb:Nat}{id:Int}{it:ItemP}(h:ItemAt W c i bi nb id it):∃ A cp,W.cell? ⟨bi,0,none⟩=some (.int .i64 id)∧W.cell? ⟨bi,1,none⟩=some (.int .i64 it.n.kind)∧W.cell? ⟨bi,2,none⟩=some (.int .i64 it.n.links)∧W.cell? ⟨bi,3,none⟩=some (.int .i64 it.n.size) ∧
  W.cell? ⟨bi,4,none⟩=some (.int .u64 it.n.till)∧W.cell? ⟨bi,5,none⟩=some (.bool it.n.shut)∧W.cell? ⟨bi,6,none⟩=some (.slice A it.b.length cp)∧W.cell? ⟨bi,7,none⟩=some (.map (if it.n.kind=2 then some nb else none))∧it.b.length≤cp∧cp≤9223372036854775807∧Bs W (fun b=>c b=0) A it.b.length it.b:=by
 obtain ⟨A,cp,h1,h2,h3,h4⟩:=h.cells
 exact ⟨A,cp,cellOf h1 (k:=0) rfl,cellOf h1 (k:=1) rfl,cellOf h1 (k:=2) rfl,cellOf h1 (k:=3) rfl,cellOf h1 (k:=4) rfl,cellOf h1 (k:=5) rfl,cellOf h1 (k:=6) rfl,cellOf h1 (k:=7) rfl,h2,h3,h4⟩
theorem tcopy_any (h:TreeAt w c i bt q T) (hn:T.length≤100000) (j:Nat) (hj:j≠0):
  Calls Tryz.prog 153 #[.pointer (some ⟨bt,0,none⟩)] w fun e w'=>∃ (bt':Nat) (q':TreeB) (c':Col),e=.returned (.pointer (some ⟨bt',0,none⟩))∧New w w'∧w.heap.size≤bt'∧Ext w c c'∧TreeAt w' c' j bt' q' T:=by
 have hmm:=@run_makeMap Tryz.prog
 obtain ⟨h0,E,hown,hsh⟩:=h.own
 have HT:=Lib.hid h
 have HS:=Lib.hid hsh
 have H0:=Lib.hid h0
 have c0:w.cell? ⟨bt,0,none⟩=some (.map (some q.bm)):=cellOf h.tree (k:=0) rfl
 have hbt:=h.ltT
 have hbm:=h.ltM
 have k1:=(New.refl w).alloc (.map #[] 0)
 have m1:=MapIs.made (κ:=Int) (α:=ItemP) w (fun _ _=>.pointer (some ⟨0,0,none⟩))
 have z1:(w.alloc (.map #[] 0)).heap.size=w.heap.size+1:=by simp
 clear h hsh h0
 go_enter Tryz.func153,Tryz.ntmps153
 go_upto_region 2 with fail
 generalize w.alloc (.map #[] 0)=wA at *
 have hB:=heap_alloc_new wA (.cells #[.map (some w.heap.size)] 213)
 have k2:=(New.refl wA).alloc (.cells #[.map (some w.heap.size)] 213)
 have z2:(wA.alloc (.cells #[.map (some w.heap.size)] 213)).heap.size=w.heap.size+2:=by simp [z1]
 rw [z1] at hB
 generalize wA.alloc (.cells #[.map (some w.heap.size)] 213)=wB at *
 obtain ⟨bm',hbm'⟩:∃ b,b=w.heap.size:=⟨_,rfl⟩
 obtain ⟨bt',hbt'⟩:∃ b,b=w.heap.size+1:=⟨_,rfl⟩
 have hownB:=(k1.new k2)
 have hown2:wB.ownsMap Tryz.prog 3 heldR q.bm T.length E:=ownsMap_keep hown hownB trivial
 have c0B:=hownB.cell_some c0 trivial
 have HMD:Hid (Made wB (c.on w.heap.size fun _=>j) j w.heap.size bt' bm' (fun _=>0) (fun _=>0) []):=Lib.hid ⟨by rw [hbt',hbm'];exact hB,by rw [hbm'];exact (m1.new k2),fun k it hg=>(by cases hg),⟨Col.on_new _ _ (by omega),Col.on_new _ _ (by omega)⟩,fun k k' it it' hg=>(by cases hg),fun k it hg=>(by cases hg)⟩
 have HKB:=Lib.hid hownB
 rw [← hbt',← hbm']
 replace z1:=Lib.hid z1
 have HZ2:Hid (wB.heap.size=bm'+2∧bt'=bm'+1∧bm'=w.heap.size):=Lib.hid ⟨by omega,by omega,hbm'⟩
 clear z2
 replace hbm':=Lib.hid hbm'
 replace hbt':=Lib.hid hbt'
 clear m1 k1 k2 hB hownB hown
 go_wp2_with (first
  | (at_range;refine wpList_range_own _ rfl _ 211 rfl 3 209 keyI Tryz.underlying211 _ q.bm T.length _ rfl hown2 ?_;intro w0 hrg0 hg0 hs0)
  | fail)
 clear c0 c0B
 have hz0:wB.heap.size≤w0.heap.size:=hg0.size
 go_loopw [] (fun wr=>∃ (left:Lit→Bool) (cnt:Nat) (L:TreeP) (β γ:Int→Nat) (cc:Col),wr.ranges Tryz.prog 3 heldR q.bm wB.heap.size T.length E left cnt∧(∀ kl,left kl=true→Maps.has E kl=true)∧Keep (fun b=>b<w.heap.size) w wr∧Ext w c cc∧wB.heap.size<wr.heap.size∧cc wB.heap.size=j+1 ∧
   Made wr cc j w.heap.size bt' bm' β γ L∧∀ k,getK L k=if left (.int .i64 k) then none else getK T k)
  (fun wr=>wr.rangeLeft q.bm wB.heap.size)
 case atStart =>
  have kk:=grown_new hg0 (fun k e=>by cases e)
  refine ⟨_,_,[],_,_,(c.on w.heap.size fun _=>j).on wB.heap.size fun _=>j+1,hrg0,fun _ h=>h,Keep.of_new (HKB.out.new kk),(Col.on_ext c w _).trans (Col.on_ext _ wB _) HKB.out.size,by have:=HZ2.out;omega,Col.on_new _ _ (Nat.le_refl _),HMD.out.keep kk (Col.on_ext _ wB _) (fun _ _ _=>trivial),fun k=>?_⟩
  show none=_
  split
  ·rfl
  ·rename_i hk
   cases hg:getK T k with
   | none=>rfl
   | some it=>exact absurd ((HS.out k).2 it hg).1 hk
 case round =>
  obtain ⟨left,cnt,L,β,γ,cc,hrg,hle,hK,hX,hZ,hCr,hM,hL⟩:=hrel
  have HR:=Lib.hid (And.intro hK (And.intro hX (And.intro hZ (And.intro hCr (And.intro hM hL)))))
  go_wp2_with (first
   | (at_next;refine wpList_next_ranges _ rfl _ rfl 3 keyI heldR (Value.int .i64) (fun c:Value=>c) (fun key kl hkey=>by obtain ⟨x,rfl,_⟩:=Maps.keyOf_int_inv Tryz.underlying3 hkey;exact ⟨x,rfl⟩) (fun v y hv=>⟨v,rfl⟩) q.bm wB.heap.size T.length _ _ _ rfl hrg ?_ ?_)
   | fail)
  ·intro _ hl0
   clear hK hX hZ hM hL hCr
   go_wp2_with fail
   go_ret
   obtain ⟨hK,hX,hZ,hCr,hM,hL⟩:=HR.out
   have hLT:L=T:=hM.own.1.ext H0.out fun k=>by rw [hL k,hl0];rfl
   subst hLT
   exact ⟨bt',_,cc,rfl,hK.toNew (fun b hb=>hb),by have:=HZ2.out;omega,hX,hM.tree_at⟩
  ·intro x cv kl y ps w1 cnt1 hkey hlk hRv hat hrg1 hlt1 hg1 hs1 hen
   obtain ⟨x',ex,rfl,hwx⟩:=Maps.keyOf_int_inv Tryz.underlying3 hkey
   obtain rfl:x'=x:=by injection ex with _ e;exact e.symm
   have hy:y=.held cv:=by injection hRv with hRv;injection hRv with hRv;exact hRv.symm
   subst hy
   have hhas:=hle _ hlk
   obtain ⟨it,hgt⟩:∃ it,getK T x'=some it:=by
    cases hg:getK T x' with
    | none=>have:=(HS.out x').1 hg;rw [show (KeyL.lit x':Lit)=.int .i64 x' from rfl] at this;rw [this] at hhas;cases hhas
    | some it=>exact ⟨it,rfl⟩
   have hcv:cv=.pointer (some ⟨q.β x',0,none⟩):=by
    have:=(hat .nil).symm.trans (((HS.out x').2 it hgt).2 .nil)
    injection this
   subst hcv
   have hit:=HT.out.item x' it hgt
   have hbl:=hit.lt
   have hKr:Keep (fun b=>b≠wB.heap.size) wr w1:=⟨hg1.os,hg1.tape,hg1.output,hg1.size,fun j hj hd=>hg1.block j hj (fun e=>hd (by injection e))⟩
   have hM1:=hM.keep (c':=cc) hKr (Ext.refl _ _) (fun b hb hc e=>by rw [e] at hc;have:=hCr;omega)
   have hKw:Keep (fun b=>b<w.heap.size) w w1:=hK.trans2 hKr fun b hb _=>by have:=HZ2.out;omega
   have hz1:=hKr.size
   obtain ⟨A,cp,x0,x1,x2,x3,x4,x5,x6,x7,hcp,hcm,hBb0⟩:=node_cells hit
   have hBb:Bs w1 (fun b=>c b=0∧b<w.heap.size) A it.b.length it.b:=(hBb0.imp (E:=fun b=>c b=0∧b<w.heap.size) fun b hb hd=>⟨hd,hb⟩).keep hKw fun b hb hd=>hd.2
   have hKW:Hid (∀ W,Keep (fun b=>b≠bm') w1.drew W→∀ (b k:Nat) u,b<w.heap.size→w.cell? ⟨b,k,none⟩=some u→W.cell? ⟨b,k,none⟩=some u):=Lib.hid fun W hW b k u hb hc=>(hKw.trans2 ((Keep.refl _ w1).drew.trans hW) fun d hd _=>by have:=HZ2.out;show d≠bm';omega).cell_some hc hb
   have yt:∀ W,Keep (fun b=>b≠bm') w1.drew W→W.cell? ⟨bt',0,none⟩=some (.map (some bm')):=fun W hW=>((Keep.refl _ w1).drew.trans hW).cell_some (cellOf hM1.tree (k:=0) rfl) (by have:=HZ2.out;show bt'≠bm';omega)
   have y0:∀ W,Keep (fun b=>b≠bm') w1.drew W→W.cell? ⟨q.β x',0,none⟩=some (.int .i64 x'):=fun W hW=>hKW.out W hW _ _ _ hbl x0
   have y1:∀ W,Keep (fun b=>b≠bm') w1.drew W→W.cell? ⟨q.β x',1,none⟩=some (.int .i64 it.n.kind):=fun W hW=>hKW.out W hW _ _ _ hbl x1
   have y2:∀ W,Keep (fun b=>b≠bm') w1.drew W→W.cell? ⟨q.β x',2,none⟩=some (.int .i64 it.n.links):=fun W hW=>hKW.out W hW _ _ _ hbl x2
   have y3:∀ W,Keep (fun b=>b≠bm') w1.drew W→W.cell? ⟨q.β x',3,none⟩=some (.int .i64 it.n.size):=fun W hW=>hKW.out W hW _ _ _ hbl x3
   have y4:∀ W,Keep (fun b=>b≠bm') w1.drew W→W.cell? ⟨q.β x',4,none⟩=some (.int .u64 it.n.till):=fun W hW=>hKW.out W hW _ _ _ hbl x4
   have y5:∀ W,Keep (fun b=>b≠bm') w1.drew W→W.cell? ⟨q.β x',5,none⟩=some (.bool it.n.shut):=fun W hW=>hKW.out W hW _ _ _ hbl x5
   have y6:∀ W,Keep (fun b=>b≠bm') w1.drew W→W.cell? ⟨q.β x',6,none⟩=some (.slice A it.b.length cp):=fun W hW=>hKW.out W hW _ _ _ hbl x6
   have x7':=x7
   have HST:=Lib.hid (And.intro hX (And.intro hM1 (And.intro hKw (And.intro hKr (And.intro hBb (And.intro hcp hcm))))))
   have HIT:=Lib.hid hit
   have HRG:=Lib.hid (And.intro hrg1 (And.intro hlt1 (And.intro hrg hz1)))
   have HHL:=Lib.hid (And.intro hle (And.intro hgt (And.intro hlk (And.intro hL (And.intro hCr hZ)))))
   clear hM1 hKw hKr hBb hcp hcm hBb0 hit hrg1 hlt1 hg1 hs1 hat hkey hRv hhas hgt hK hX hZ hM hCr hL hle x0 x1 x2 x3 x4 x5 x6 hrg hz1 hlk
   by_cases hkd:it.n.kind=2
   ·rw [if_pos hkd] at x7
    have y7:∀ W,Keep (fun b=>b≠bm') w1.drew W→W.cell? ⟨q.β x',7,none⟩=some (.map (some (q.γ x'))):=fun W hW=>hKW.out W hW _ _ _ hbl x7
    have HNB:=Lib.hid (((HIT.out.names hkd).2).keep HST.out.2.2.1 (HIT.out.names hkd).2.lt)
    have HKD:=Lib.hid hkd
    clear x7 x7' hkd
    go_wp2_with fail
    refine hold_beginS (Keep (fun b=>b≠bm') w1.drew) (by kernel_rfl) ?_
    have n0:Keep (fun b=>b≠bm') w1.drew w1.drew:=Keep.refl _ _
    refine take0 0 n0 ?_
    refine take0 1 n0 ?_
    refine take0 2 n0 ?_
    refine take0 3 n0 ?_
    refine take0 4 n0 ?_
    refine take0 5 n0 ?_
    refine take0 6 n0 ?_
    refine take0 7 n0 ?_
    refine take0 8 n0 ?_
    refine take0 9 n0 ?_
    refine take0 10 n0 ?_
    refine take0 11 n0 ?_
    refine take0 12 n0 ?_
    refine take0 13 n0 ?_
    refine take0 14 n0 ?_
    refine take0 15 n0 ?_
    refine take0 16 n0 ?_
    refine hold_step0 (i:=17) (by kernel_rfl) rfl rfl (fun K hK=>?_)
    go_simp
    refine (cloneN_any (w:=w1.drew) HNB.out).mono ?_
    rintro e w2 ⟨rfl,k2,hz2,hnm2⟩
    have HN2:=Lib.hid (And.intro hz2 hnm2)
    clear hz2 hnm2
    go_wp2_with fail
    have n1:=Keep.new n0 k2
    refine hK.out _ _ n1 ?_
    clear hK K n0
    try simp only [Act.put,ly1,ly2,ly3,ly4,ly5,ly6]
    refine take0 18 n1 ?_
    refine hold_step0 (i:=19) (by kernel_rfl) rfl rfl (fun K hK=>?_)
    go_simp
    have h3:(w2.alloc (.cells #[.int .i64 x',.int .i64 it.n.kind,.int .i64 it.n.links,.int .i64 it.n.size,.int .u64 it.n.till,.bool it.n.shut,.slice A it.b.length cp,.map (some w1.heap.size)] 221)).heap[w2.heap.size]?=some (.cells #[.int .i64 x',.int .i64 it.n.kind,.int .i64 it.n.links,.int .i64 it.n.size,.int .u64 it.n.till,.bool it.n.shut,.slice A it.b.length cp,.map (some w1.heap.size)] 221 (0,0)):=heap_alloc_new w2 (.cells #[.int .i64 x',.int .i64 it.n.kind,.int .i64 it.n.links,.int .i64 it.n.size,.int .u64 it.n.till,.bool it.n.shut,.slice A it.b.length cp,.map (some w1.heap.size)] 221)
    have k3:New w2 (w2.alloc (.cells #[.int .i64 x',.int .i64 it.n.kind,.int .i64 it.n.links,.int .i64 it.n.size,.int .u64 it.n.till,.bool it.n.shut,.slice A it.b.length cp,.map (some w1.heap.size)] 221)):=(New.refl w2).alloc _
    have z3:(w2.alloc (.cells #[.int .i64 x',.int .i64 it.n.kind,.int .i64 it.n.links,.int .i64 it.n.size,.int .u64 it.n.till,.bool it.n.shut,.slice A it.b.length cp,.map (some w1.heap.size)] 221)).heap.size=w2.heap.size+1:=by simp
    have n2:=Keep.new n1 k3
    refine hK.out _ _ n2 ?_
    clear hK K n1
    try simp only [Act.put,ly1,ly2,ly3,ly4,ly5,ly6]
    generalize (w2.alloc (.cells #[.int .i64 x',.int .i64 it.n.kind,.int .i64 it.n.links,.int .i64 it.n.size,.int .u64 it.n.till,.bool it.n.shut,.slice A it.b.length cp,.map (some w1.heap.size)] 221))=w3 at *
    have HKW2:Hid (Keep (fun b=>b≠bm') w2 w3):=Lib.hid (Keep.of_new k3)
    have K13:New w1.drew w3:=k2.new k3
    obtain ⟨bi,hbi⟩:∃ b,b=w2.heap.size:=⟨_,rfl⟩
    obtain ⟨nb,hnb⟩:∃ b,b=w1.heap.size:=⟨_,rfl⟩
    rw [← hbi]
    have hLt:=H0.out.len_le HST.out.2.1.own.1 (P:=fun k => !left (.int .i64 k)) (fun k=>by rw [HHL.out.2.2.2.1 k];cases left (.int .i64 k) <;> rfl)
    have hLx:getK L x'=none:=by rw [HHL.out.2.2.2.1 x',HHL.out.2.2.1];rfl
    have m3:MapIs w3 bm' (fun (k:Int) (_:ItemP)=>.pointer (some ⟨if k=x' then bi else β k,0,none⟩)) L:=(HST.out.2.1.own.new (New.refl w1).drew |>.new K13).fn (fun k it hk=>by rw [if_neg (fun e=>by rw [e,hLx] at hk;cases hk)])
    obtain ⟨w4,hrun,m4,k4,z4⟩:=m3.store Tryz.underlying211 (by omega) (k:=x') hwx it
    replace hrun:(Instr.mapUpdate 211 (.map (some bm')) (.int .i64 x') (.pointer (some ⟨bi,0,none⟩))).run Tryz.prog w3=.ok () w4:=by have e:(if x'=x' then bi else β x')=bi:=if_pos rfl;rw [← e];exact hrun
    have HF:=Lib.hid (And.intro h3 (And.intro n2 (And.intro z3 (And.intro m4 (And.intro k4 (And.intro z4 (And.intro hbi hnb)))))))
    clear h3 k3 z3 m3 m4 z4 hbi hnb hLt hLx k2
    refine hold_step0 (i:=20) (by kernel_rfl) rfl rfl (fun K hK=>?_)
    go_simp
    have n3:=n2.trans k4
    refine hK.out _ _ n3 ?_
    clear hK K n2 n3 k4
    try simp only [Act.put,ly1,ly2,ly3,ly4,ly5,ly6]
    refine wpAnyH_done (by kernel_rfl) ?_ _
    go_wp2_with fail
    go_roundw
    case rel =>
     obtain ⟨h3,n2,z3,m4,k4,z4,hbi,hnb⟩:=HF.out
     obtain ⟨hX,hM1,hKw,hKr,hBb,hcp,hcm⟩:=HST.out
     obtain ⟨hle,hgt,hlk,hL,hCr,hZ⟩:=HHL.out
     obtain ⟨hrg1,hlt1,hrg,hz1⟩:=HRG.out
     obtain ⟨q1,q2,q3⟩:=HZ2.out
     have hit:=HIT.out
     have hLx:getK L x'=none:=by rw [hL x',hlk];rfl
     have k14:Keep (fun b=>b≠bm') w1 w4:=((Keep.refl _ w1).drew.trans n2).trans k4
     have k34:Keep (fun b=>b≠bm') w1.drew w4:=n2.trans k4
     have hz14:=k14.size
     have hg14:w1.grownBy w4 (some bm'):=⟨k14.os,k14.tape,k14.output,k14.size,fun j hj hne=>k14.block j hj (fun e=>hne (by rw [e]))⟩
     have hbil:w1.heap.size≤bi∧w.heap.size≤nb∧bi<w3.heap.size:=⟨by first|omega|(have:=HN2.out.1;have h9:w1.drew.heap.size=w1.heap.size:=rfl;omega),by omega,by omega⟩
     have hcc:∀ b,w1.heap.size≤b→(cc.on w1.heap.size fun _=>j) b=j:=fun b hb=>Col.on_new _ _ hb
     refine ⟨_,_,putK x' it L,fun z=>if z=x' then bi else β z,fun z=>if z=x' then nb else γ z,cc.on w1.heap.size fun _=>j,hrg1.kept hg14 (fun e=>by injection e with e;omega) (fun e=>by injection e with e;omega),fun kl hkl=>hle kl (by simp at hkl;exact hkl.1),hKw.trans2 k14 (fun b hb _=>by omega),hX.trans (Col.on_ext cc w1 _) hKw.size,by omega,(Col.on_old cc _ (by omega)).trans hCr,⟨(k14.block bt' (Array.getElem?_eq_some_iff.1 hM1.tree).1 (by omega)).trans hM1.tree,m4,fun k it' hg=>?_,⟨(Col.on_old cc _ (by omega)).trans hM1.col.1,(Col.on_old cc _ (by omega)).trans hM1.col.2⟩,fun k k' it1 it2 g1 g2 hne=>?_,fun k it' hg hd=>?_⟩,fun k=>?_⟩
     ·rw [getK_put] at hg
      by_cases e:k=x'
      ·rw [if_pos e] at hg
       injection hg with hg
       subst hg
       subst e
       rw [if_pos rfl,if_pos rfl]
       refine ⟨⟨hcc _ hbil.1,⟨A,cp,?_,hcp,hcm,(hBb.keep k14 (fun b _ hd=>by have:=hd.2;omega)).imp fun b hb hd=>by rw [(hX.trans (Col.on_ext cc w1 _) hKw.size) b hd.2];exact hd.1⟩,fun hd=>?_,hit.bare⟩,by omega,by omega⟩
       ·have h5:=(k4.block bi hbil.2.2 (by omega)).trans (hbi▸h3)
        rw [h5]
        rw [if_pos HKD.out,hnb]
       ·exact ⟨hcc _ (by omega),hnb▸(HN2.out.2.keep (HKW2.out.trans k4) (by have h9:w1.drew.heap.size=w1.heap.size:=rfl;omega))⟩
      ·rw [if_neg e] at hg
       rw [if_neg e,if_neg e]
       obtain ⟨g1,g2,g3⟩:=hM1.item k it' hg
       exact ⟨g1.keepB k14 (Col.on_ext cc w1 _) (g1.notMap hM1.own) (fun hd=>hM1.far k it' hg hd) (fun b hb hc eb=>by rw [eb,hM1.col.2] at hc;exact hj hc),g2,g3⟩
     ·rw [getK_put] at g1 g2
      by_cases e1:k=x'
      ·have e2:¬ k'=x':=fun e=>hne (by rw [e1,e])
       rw [if_neg e2] at g2
       rw [if_pos e1,if_neg e2,if_pos e1,if_neg e2]
       have h5:=hM1.item k' it2 g2
       have h6:=h5.1.lt
       exact ⟨by omega,fun _ hd=>by have:=(h5.1.names hd).2.lt;omega⟩
      ·rw [if_neg e1] at g1
       by_cases e2:k'=x'
       ·rw [if_neg e1,if_pos e2,if_neg e1,if_pos e2]
        have h5:=hM1.item k it1 g1
        have h6:=h5.1.lt
        exact ⟨by omega,fun hd _=>by have:=(h5.1.names hd).2.lt;omega⟩
       ·rw [if_neg e2] at g2
        rw [if_neg e1,if_neg e2,if_neg e1,if_neg e2]
        exact hM1.inj k k' it1 it2 g1 g2 hne
     ·rw [getK_put] at hg
      by_cases e:k=x'
      ·rw [if_pos e];omega
      ·rw [if_neg e] at hg
       rw [if_neg e]
       exact hM1.far k it' hg hd
     ·rw [getK_put]
      by_cases e:k=x'
      ·subst e;simp [Lit.sameKey,hgt]
      ·rw [if_neg e,hL k]
       have:(Lit.int .i64 k).sameKey (.int .i64 x')=false:=by simp [Lit.sameKey,e]
       rw [this]
       simp
    case measure =>
     obtain ⟨h3,n2,z3,m4,k4,z4,hbi,hnb⟩:=HF.out
     obtain ⟨hrg1,hlt1,hrg,hz1⟩:=HRG.out
     obtain ⟨q1,q2,q3⟩:=HZ2.out
     have hZ:=HHL.out.2.2.2.2.2
     have k14:Keep (fun b=>b≠bm') w1 w4:=((Keep.refl _ w1).drew.trans n2).trans k4
     have hg14:w1.grownBy w4 (some bm'):=⟨k14.os,k14.tape,k14.output,k14.size,fun j hj hne=>k14.block j hj (fun e=>hne (by rw [e]))⟩
     rw [(hrg1.kept hg14 (fun e=>by injection e with e;omega) (fun e=>by injection e with e;omega)).left_eq,hrg.left_eq]
     exact hlt1
   ·rw [if_neg hkd] at x7
    have y7:∀ W,Keep (fun b=>b≠bm') w1.drew W→W.cell? ⟨q.β x',7,none⟩=some (.map none):=fun W hW=>hKW.out W hW _ _ _ hbl x7
    have HKD:=Lib.hid hkd
    clear x7 x7' hkd
    go_wp2_with fail
    refine hold_beginS (Keep (fun b=>b≠bm') w1.drew) (by kernel_rfl) ?_
    have n0:Keep (fun b=>b≠bm') w1.drew w1.drew:=Keep.refl _ _
    refine take0 0 n0 ?_
    refine take0 1 n0 ?_
    refine take0 2 n0 ?_
    refine take0 3 n0 ?_
    refine take0 4 n0 ?_
    refine take0 5 n0 ?_
    refine take0 6 n0 ?_
    refine take0 7 n0 ?_
    refine take0 8 n0 ?_
    refine take0 9 n0 ?_
    refine take0 10 n0 ?_
    refine take0 11 n0 ?_
    refine take0 12 n0 ?_
    refine take0 13 n0 ?_
    refine take0 14 n0 ?_
    refine take0 15 n0 ?_
    refine take0 16 n0 ?_
    refine hold_step0 (i:=17) (by kernel_rfl) rfl rfl (fun K hK=>?_)
    go_simp
    refine (cloneN_nil w1.drew).mono ?_
    rintro e w2 ⟨rfl,rfl⟩
    have k2:=New.refl w1.drew
    go_wp2_with fail
    have n1:=Keep.new n0 k2
    refine hK.out _ _ n1 ?_
    clear hK K n0
    try simp only [Act.put,ly1,ly2,ly3,ly4,ly5,ly6]
    refine take0 18 n1 ?_
    refine hold_step0 (i:=19) (by kernel_rfl) rfl rfl (fun K hK=>?_)
    go_simp
    have h3:(w1.alloc (.cells #[.int .i64 x',.int .i64 it.n.kind,.int .i64 it.n.links,.int .i64 it.n.size,.int .u64 it.n.till,.bool it.n.shut,.slice A it.b.length cp,.map (none)] 221)).drew.heap[w1.heap.size]?=some (.cells #[.int .i64 x',.int .i64 it.n.kind,.int .i64 it.n.links,.int .i64 it.n.size,.int .u64 it.n.till,.bool it.n.shut,.slice A it.b.length cp,.map (none)] 221 (0,0)):=heap_alloc_new w1 (.cells #[.int .i64 x',.int .i64 it.n.kind,.int .i64 it.n.links,.int .i64 it.n.size,.int .u64 it.n.till,.bool it.n.shut,.slice A it.b.length cp,.map (none)] 221)
    have k3:New w1.drew (w1.alloc (.cells #[.int .i64 x',.int .i64 it.n.kind,.int .i64 it.n.links,.int .i64 it.n.size,.int .u64 it.n.till,.bool it.n.shut,.slice A it.b.length cp,.map (none)] 221)).drew:=Keep.alloc (New.refl w1.drew) _
    have z3:(w1.alloc (.cells #[.int .i64 x',.int .i64 it.n.kind,.int .i64 it.n.links,.int .i64 it.n.size,.int .u64 it.n.till,.bool it.n.shut,.slice A it.b.length cp,.map (none)] 221)).drew.heap.size=w1.heap.size+1:=by simp
    have n2:=Keep.new n1 k3
    refine hK.out _ _ n2 ?_
    clear hK K n1
    try simp only [Act.put,ly1,ly2,ly3,ly4,ly5,ly6]
    generalize (w1.alloc (.cells #[.int .i64 x',.int .i64 it.n.kind,.int .i64 it.n.links,.int .i64 it.n.size,.int .u64 it.n.till,.bool it.n.shut,.slice A it.b.length cp,.map (none)] 221)).drew=w3 at *
    have K13:New w1.drew w3:=k3
    obtain ⟨bi,hbi⟩:∃ b,b=w1.heap.size:=⟨_,rfl⟩
    obtain ⟨nb,hnb⟩:∃ b,b=w1.heap.size:=⟨_,rfl⟩
    rw [← hbi]
    have hLt:=H0.out.len_le HST.out.2.1.own.1 (P:=fun k => !left (.int .i64 k)) (fun k=>by rw [HHL.out.2.2.2.1 k];cases left (.int .i64 k) <;> rfl)
    have hLx:getK L x'=none:=by rw [HHL.out.2.2.2.1 x',HHL.out.2.2.1];rfl
    have m3:MapIs w3 bm' (fun (k:Int) (_:ItemP)=>.pointer (some ⟨if k=x' then bi else β k,0,none⟩)) L:=(HST.out.2.1.own.new (New.refl w1).drew |>.new K13).fn (fun k it hk=>by rw [if_neg (fun e=>by rw [e,hLx] at hk;cases hk)])
    obtain ⟨w4,hrun,m4,k4,z4⟩:=m3.store Tryz.underlying211 (by omega) (k:=x') hwx it
    replace hrun:(Instr.mapUpdate 211 (.map (some bm')) (.int .i64 x') (.pointer (some ⟨bi,0,none⟩))).run Tryz.prog w3=.ok () w4:=by have e:(if x'=x' then bi else β x')=bi:=if_pos rfl;rw [← e];exact hrun
    have HF:=Lib.hid (And.intro h3 (And.intro n2 (And.intro z3 (And.intro m4 (And.intro k4 (And.intro z4 (And.intro hbi hnb)))))))
    clear h3 k3 z3 m3 m4 z4 hbi hnb hLt hLx k2
    refine hold_step0 (i:=20) (by kernel_rfl) rfl rfl (fun K hK=>?_)
    go_simp
    have n3:=n2.trans k4
    refine hK.out _ _ n3 ?_
    clear hK K n2 n3 k4
    try simp only [Act.put,ly1,ly2,ly3,ly4,ly5,ly6]
    refine wpAnyH_done (by kernel_rfl) ?_ _
    go_wp2_with fail
    go_roundw
    case rel =>
     obtain ⟨h3,n2,z3,m4,k4,z4,hbi,hnb⟩:=HF.out
     obtain ⟨hX,hM1,hKw,hKr,hBb,hcp,hcm⟩:=HST.out
     obtain ⟨hle,hgt,hlk,hL,hCr,hZ⟩:=HHL.out
     obtain ⟨hrg1,hlt1,hrg,hz1⟩:=HRG.out
     obtain ⟨q1,q2,q3⟩:=HZ2.out
     have hit:=HIT.out
     have hLx:getK L x'=none:=by rw [hL x',hlk];rfl
     have k14:Keep (fun b=>b≠bm') w1 w4:=((Keep.refl _ w1).drew.trans n2).trans k4
     have k34:Keep (fun b=>b≠bm') w1.drew w4:=n2.trans k4
     have hz14:=k14.size
     have hg14:w1.grownBy w4 (some bm'):=⟨k14.os,k14.tape,k14.output,k14.size,fun j hj hne=>k14.block j hj (fun e=>hne (by rw [e]))⟩
     have hbil:w1.heap.size≤bi∧w.heap.size≤nb∧bi<w3.heap.size:=⟨by first|omega|(have:=hz1;have h9:w1.drew.heap.size=w1.heap.size:=rfl;omega),by omega,by omega⟩
     have hcc:∀ b,w1.heap.size≤b→(cc.on w1.heap.size fun _=>j) b=j:=fun b hb=>Col.on_new _ _ hb
     refine ⟨_,_,putK x' it L,fun z=>if z=x' then bi else β z,fun z=>if z=x' then nb else γ z,cc.on w1.heap.size fun _=>j,hrg1.kept hg14 (fun e=>by injection e with e;omega) (fun e=>by injection e with e;omega),fun kl hkl=>hle kl (by simp at hkl;exact hkl.1),hKw.trans2 k14 (fun b hb _=>by omega),hX.trans (Col.on_ext cc w1 _) hKw.size,by omega,(Col.on_old cc _ (by omega)).trans hCr,⟨(k14.block bt' (Array.getElem?_eq_some_iff.1 hM1.tree).1 (by omega)).trans hM1.tree,m4,fun k it' hg=>?_,⟨(Col.on_old cc _ (by omega)).trans hM1.col.1,(Col.on_old cc _ (by omega)).trans hM1.col.2⟩,fun k k' it1 it2 g1 g2 hne=>?_,fun k it' hg hd=>?_⟩,fun k=>?_⟩
     ·rw [getK_put] at hg
      by_cases e:k=x'
      ·rw [if_pos e] at hg
       injection hg with hg
       subst hg
       subst e
       rw [if_pos rfl,if_pos rfl]
       refine ⟨⟨hcc _ hbil.1,⟨A,cp,?_,hcp,hcm,(hBb.keep k14 (fun b _ hd=>by have:=hd.2;omega)).imp fun b hb hd=>by rw [(hX.trans (Col.on_ext cc w1 _) hKw.size) b hd.2];exact hd.1⟩,fun hd=>?_,hit.bare⟩,by omega,by omega⟩
       ·have h5:=(k4.block bi hbil.2.2 (by omega)).trans (hbi▸h3)
        rw [h5]
        rw [if_neg HKD.out]
       ·exact absurd hd HKD.out
      ·rw [if_neg e] at hg
       rw [if_neg e,if_neg e]
       obtain ⟨g1,g2,g3⟩:=hM1.item k it' hg
       exact ⟨g1.keepB k14 (Col.on_ext cc w1 _) (g1.notMap hM1.own) (fun hd=>hM1.far k it' hg hd) (fun b hb hc eb=>by rw [eb,hM1.col.2] at hc;exact hj hc),g2,g3⟩
     ·rw [getK_put] at g1 g2
      by_cases e1:k=x'
      ·have e2:¬ k'=x':=fun e=>hne (by rw [e1,e])
       rw [if_neg e2] at g2
       rw [if_pos e1,if_neg e2,if_pos e1,if_neg e2]
       have h5:=hM1.item k' it2 g2
       have h6:=h5.1.lt
       exact ⟨by omega,fun _ hd=>by have:=(h5.1.names hd).2.lt;omega⟩
      ·rw [if_neg e1] at g1
       by_cases e2:k'=x'
       ·rw [if_neg e1,if_pos e2,if_neg e1,if_pos e2]
        have h5:=hM1.item k it1 g1
        have h6:=h5.1.lt
        exact ⟨by omega,fun hd _=>by have:=(h5.1.names hd).2.lt;omega⟩
       ·rw [if_neg e2] at g2
        rw [if_neg e1,if_neg e2,if_neg e1,if_neg e2]
        exact hM1.inj k k' it1 it2 g1 g2 hne
     ·rw [getK_put] at hg
      by_cases e:k=x'
      ·rw [if_pos e];omega
      ·rw [if_neg e] at hg
       rw [if_neg e]
       exact hM1.far k it' hg hd
     ·rw [getK_put]
      by_cases e:k=x'
      ·subst e;simp [Lit.sameKey,hgt]
      ·rw [if_neg e,hL k]
       have:(Lit.int .i64 k).sameKey (.int .i64 x')=false:=by simp [Lit.sameKey,e]
       rw [this]
       simp
    case measure =>
     obtain ⟨h3,n2,z3,m4,k4,z4,hbi,hnb⟩:=HF.out
     obtain ⟨hrg1,hlt1,hrg,hz1⟩:=HRG.out
     obtain ⟨q1,q2,q3⟩:=HZ2.out
     have hZ:=HHL.out.2.2.2.2.2
     have k14:Keep (fun b=>b≠bm') w1 w4:=((Keep.refl _ w1).drew.trans n2).trans k4
     have hg14:w1.grownBy w4 (some bm'):=⟨k14.os,k14.tape,k14.output,k14.size,fun j hj hne=>k14.block j hj (fun e=>hne (by rw [e]))⟩
     rw [(hrg1.kept hg14 (fun e=>by injection e with e;omega) (fun e=>by injection e with e;omega)).left_eq,hrg.left_eq]
     exact hlt1
end
section
variable {w w':World}{c c':Col}{i j bt:Nat}{q q':TreeB}{T L:TreeP}{k:Int}{it it':ItemP}
theorem MapIs.put_same {κ α:Type} [KeyL κ] {bm:Nat}{f:κ→Value}{l:List (κ×α)}(h:MapIs w bm (fun k _=>f k) l){k:κ}{x y:α}(hg:getK l k=some x):MapIs w bm (fun k _=>f k) (putK k y l):=by
 obtain ⟨h0,E,h1,h2⟩:=h
 refine own_shows h1 (fun j=>?_) h0.put
 rw [getK_put]
 by_cases e:j=k
 ·subst e
  rw [if_pos rfl]
  exact ⟨fun h=>(by cases h),fun z _=>(h2 j).2 x hg⟩
 ·rw [if_neg e];exact h2 j
theorem TreeAt.keepOther (h:TreeAt w c i bt q T){F:Nat→Prop}(hk:Keep F w w'){k':Int}{it2:ItemP}(hg:getK T k'=some it2) (hb:F (q.β k')) (hn:it2.n.kind=2→F (q.γ k')) (h0:∀ b,b<w.heap.size→c b=0→F b):ItemAt w' c i (q.β k') (q.γ k') k' it2 :=
 (h.item k' it2 hg).keepB hk (Ext.refl _ _) hb hn h0
theorem TreeAt.setNames (h:TreeAt w c i bt q T) (hi:i≠0) (hg:getK T k=some it) (hd:it.n.kind=2){l:List (List UInt8×Int)}(hk:Keep (fun b=>b≠q.γ k) w w') (hn:NamesAt w' (q.γ k) l):TreeAt w' c i bt q (putK k { it with names:=l } T):=by
 have hc:=(h.item k it hg).names hd
 have h0:∀ b,b<w.heap.size→c b=0→b≠q.γ k:=fun b _ hb e=>by rw [e,hc.1] at hb;exact hi hb
 have nb:∀ k' it2,getK T k'=some it2→q.β k'≠q.γ k:=fun k' it2 hg2=>(h.item k' it2 hg2).notMap hc.2
 refine ⟨(hk.block bt h.ltT ?_).trans h.tree,(h.own.keep hk (Ne.symm (h.far k it hg hd))).put_same hg,fun k' it2 hg2=>?_,h.col,fun k1 k2 i1 i2 g1 g2 hne=>?_,fun k' it2 hg2 hd2=>?_⟩
 ·intro e
  obtain ⟨_,E,⟨es,clock,hm,_⟩,_⟩:=hc.2
  have:=h.tree
  rw [e,hm] at this
  injection this with this
  cases this
 ·rw [getK_put] at hg2
  by_cases e:k'=k
  ·rw [if_pos e] at hg2
   injection hg2 with hg2
   subst hg2
   subst e
   have hb:=h.item k' it hg
   obtain ⟨A,cp,h1,h2,h3,h4⟩:=hb.cells
   exact ⟨hb.col,⟨A,cp,(hk.block _ hb.lt (nb _ _ hg)).trans h1,h2,h3,h4.keep hk fun b hb2 hd=>h0 b hb2 hd⟩,fun _=>⟨hc.1,hn⟩,fun hn2=>absurd hd hn2⟩
  ·rw [if_neg e] at hg2
   exact h.keepOther hk hg2 (nb _ _ hg2) (fun hd2=>((h.inj k' k it2 it hg2 hg e).2 hd2 hd)) h0
 ·rw [getK_put] at g1 g2
  have key:∀ {k':Int} {it2:ItemP},(if k'=k then some { it with names:=l } else getK T k')=some it2→∃ it3,getK T k'=some it3∧it3.n=it2.n:=fun {k' it2} hh=>by
   by_cases e:k'=k
   ·rw [if_pos e] at hh
    injection hh with hh
    exact ⟨it,by rw [e];exact hg,by rw [← hh]⟩
   ·rw [if_neg e] at hh;exact ⟨it2,hh,rfl⟩
  obtain ⟨i3,g3,e3⟩:=key g1
  obtain ⟨i4,g4,e4⟩:=key g2
  have:=h.inj k1 k2 i3 i4 g3 g4 hne
  rw [e3,e4] at this
  exact this
 ·rw [getK_put] at hg2
  by_cases e:k'=k
  ·rw [e];exact h.far k it hg hd
  ·rw [if_neg e] at hg2;exact h.far k' it2 hg2 hd2
theorem TreeAt.del (h:TreeAt w c i bt q T) (hi:i≠0) (hk:Keep (fun b=>b≠q.bm) w w') (hm:MapIs w' q.bm (fun (k:Int) (_:ItemP)=>.pointer (some ⟨q.β k,0,none⟩)) (delK k T)):TreeAt w' c i bt q (delK k T):=by
 have sub:∀ {k':Int} {it2:ItemP},getK (delK k T) k'=some it2→getK T k'=some it2:=fun {k' it2} hh=>by
  rw [getK_del] at hh
  split at hh
  ·cases hh
  ·exact hh
 have h0:∀ b,b<w.heap.size→c b=0→b≠q.bm:=fun b _ hb e=>by rw [e,h.col.2] at hb;exact hi hb
 refine ⟨(hk.block bt h.ltT ?_).trans h.tree,hm,fun k' it2 hg2=>h.keepOther hk (sub hg2) ((h.item k' it2 (sub hg2)).notMap h.own) (fun hd=>h.far k' it2 (sub hg2) hd) h0,h.col,fun k1 k2 i1 i2 g1 g2 hne=>h.inj k1 k2 i1 i2 (sub g1) (sub g2) hne,fun k' it2 hg2 hd2=>h.far k' it2 (sub hg2) hd2⟩
 intro e
 obtain ⟨_,E,⟨es,clock,hm,_⟩,_⟩:=h.own
 have:=h.tree
 rw [e,hm] at this
 injection this with this
 cases this
end
theorem pair_uniq {β:Type}{es:List (Lit×β)}(h:es.Pairwise fun p q=>p.1≠q.1){p q:Lit×β}(hp:p∈es) (hq:q∈es) (e:p.1=q.1):p=q:=by
 induction es with
 | nil=>cases hp
 | cons a r ih =>
  have h1:=List.pairwise_cons.1 h
  rcases List.mem_cons.1 hp with hp'|hp'
  ·rcases List.mem_cons.1 hq with hq'|hq'
   ·rw [hp',hq']
   ·exact absurd (hp'▸e) (h1.1 _ hq')
  ·rcases List.mem_cons.1 hq with hq'|hq'
   ·exact absurd (hq'▸e).symm (h1.1 _ hp')
   ·exact ih h1.2 hp' hq'
section
variable {κ α:Type} [KeyL κ] {w w':World}{bm:Nat}{f:κ→α→Value}{l:List (κ×α)}{E:DataW Value}
theorem getK_none_of {k:κ}(h:∀ x,(k,x)∉l):getK l k=none:=by
 cases hg:getK l k with
 | none=>rfl
 | some x=>exact absurd (getK_mem hg) (h x)
theorem getK_filterP (hr:Rising l) (P:κ→α→Bool) (k:κ):getK (l.filter fun p=>P p.1 p.2) k=match getK l k with|none=>none|some x=>if P k x then some x else none:=by
 cases hg:getK l k with
 | none =>
  exact getK_none_of fun x hx=>by
   have:=hr.get ((List.mem_filter.1 hx).1)
   rw [hg] at this;cases this
 | some x =>
  dsimp only
  by_cases hp:P k x=true
  ·rw [if_pos hp]
   exact (hr.filter _).get (List.mem_filter.2 ⟨getK_mem hg,hp⟩)
  ·rw [if_neg hp]
   exact getK_none_of fun y hy=>by
    have h1:=hr.get ((List.mem_filter.1 hy).1)
    rw [hg] at h1
    injection h1 with h1
    subst h1
    exact hp (List.mem_filter.1 hy).2
theorem filterD_shows {n:Nat}(hown:w.ownsMap Tryz.prog (KeyL.kt κ) heldR bm n E) (hs:ShowsK E f l) (hr:Rising l){pd:Lit→DataW Value→Bool}{P:κ→α→Bool}(hp:∀ k x,getK l k=some x→pd (KeyL.lit k) (.held (f k x))=P k x):
  ShowsK (Lib.deleteFuncD pd E) f (l.filter fun p => !P p.1 p.2):=by
 obtain ⟨es,rfl,hpw,_⟩:=hown.entries KeyL.keyed
 have huniq:∀ {p q:Lit×DataW Value} {k:κ},p∈es→q∈es→p.1.sameKey (KeyL.lit k)=true→q.1.sameKey (KeyL.lit k)=true→p=q:=fun {p q k} h1 h2 h3 h4=>by
  have e:p.1=q.1:=(WideAt.sameKey_eq h3).trans (WideAt.sameKey_eq h4).symm
  exact pair_uniq hpw h1 h2 e
 show ShowsK (.map (es.filter fun p => !pd p.1 p.2)) f _
 intro k
 have hgf:=getK_filterP hr (fun k x => !P k x) k
 cases hg:getK l k with
 | none =>
  rw [hg] at hgf
  rw [hgf]
  refine ⟨fun _=>?_,fun x hx=>by cases hx⟩
  have h1:=(hs k).1 hg
  rw [Maps.has_eq,List.any_eq_false] at h1 ⊢
  exact fun p hp=>h1 p ((List.mem_filter.1 hp).1)
 | some x =>
  rw [hg] at hgf
  dsimp only at hgf
  obtain ⟨h1,h2⟩:=(hs k).2 x hg
  rw [Maps.has_eq,List.any_eq_true] at h1
  obtain ⟨p0,hm0,hk0⟩:=h1
  have hv0:p0.2=.held (f k x):=by
   have:=h2 .nil
   unfold DataW.atKey at this
   dsimp only at this
   split at this
   ·rename_i p1 hf1
    have:=huniq (k:=k) hm0 (List.mem_of_find?_eq_some hf1) hk0 (by simpa using List.find?_some hf1)
    rw [this];assumption
   ·rename_i hf1
    rw [List.find?_eq_none] at hf1
    exact absurd hk0 (hf1 p0 hm0)
  have hpd:pd p0.1 p0.2=P k x:=by rw [WideAt.sameKey_eq hk0,hv0];exact hp k x hg
  cases hP:P k x with
  | true =>
   rw [hP] at hgf hpd
   rw [hgf]
   refine ⟨fun _=>?_,fun y hy=>by cases hy⟩
   rw [Maps.has_eq,List.any_eq_false]
   intro p hpm hps
   have:=huniq (k:=k) ((List.mem_filter.1 hpm).1) hm0 hps hk0
   have h3:=(List.mem_filter.1 hpm).2
   rw [this,hpd] at h3
   cases h3
  | false =>
   rw [hP] at hgf hpd
   rw [hgf]
   refine ⟨fun h=>(by cases h),fun y hy=>?_⟩
   have hy:x=y:=by simpa using hy
   subst hy
   have hmf:p0∈es.filter fun p => !pd p.1 p.2:=List.mem_filter.2 ⟨hm0,by rw [hpd];rfl⟩
   refine ⟨by rw [Maps.has_eq,List.any_eq_true];exact ⟨p0,hmf,hk0⟩,fun zd=>?_⟩
   unfold DataW.atKey
   dsimp only
   split
   ·rename_i p1 hf1
    have:=huniq (k:=k) hm0 (List.mem_filter.1 (List.mem_of_find?_eq_some hf1)).1 hk0 (by simpa using List.find?_some hf1)
    rw [← this];exact hv0
   ·rename_i hf1
    rw [List.find?_eq_none] at hf1
    exact absurd hk0 (hf1 p0 hmf)
def intR (v:Value):Option (DataW Value×List MemPlace):=match v with|.int .i64 k=>some (.held (.int .i64 k),[])|_=>none
theorem intR_held {v:Value}{z:DataW Value×List MemPlace}(h:intR v=some z):heldR v=some z∧∃ k,v=.int .i64 k∧z=(.held (.int .i64 k),[]):=by
 unfold intR at h
 split at h
 ·rename_i k
  injection h with h
  subst h
  exact ⟨rfl,k,rfl,rfl⟩
 ·cases h
theorem own_int {n:Nat}{l:List (κ×Int)}(hown:w.ownsMap Tryz.prog (KeyL.kt κ) heldR bm n E) (hs:ShowsK E (fun _ id=>.int .i64 id) l) (_hr:Rising l):w.ownsMap Tryz.prog (KeyL.kt κ) intR bm n E:=by
 obtain ⟨es0,hE,hpw,_⟩:=hown.entries KeyL.keyed
 obtain ⟨es,clock,hb,hF,hn,hD⟩:=hown
 have hes:es0=(es.toList.map (WideElems.rg Tryz.prog (KeyL.kt κ) heldR)).foldr DataW.insert []:=by rw [hE] at hD;injection hD
 have hst:∀ x∈es.toList,∀ z,heldR x.val=some z→intR x.val=some z:=fun x hx z hz=>by
  obtain ⟨y,hy⟩:=hF.reads x hx
  obtain ⟨z',hz',hy2⟩:=WideElems.rd_val hy
  obtain rfl:z=z':=Option.some.inj (hz.symm.trans hz')
  have hmem:y∈es0:=by
   rw [hes,mem_sorted]
   exact List.mem_map.2 ⟨x,hx,WideElems.rg_of hy⟩
  obtain ⟨k,hk⟩:=KeyL.lits (WideElems.rd_key hy)
  have hsame:y.1.sameKey (KeyL.lit k)=true:=by rw [hk];exact KeyL.same k
  have hhas:Maps.has E (KeyL.lit k)=true:=by rw [hE,Maps.has_eq,List.any_eq_true];exact ⟨y,hmem,hsame⟩
  obtain ⟨id,hid⟩:∃ id,getK l k=some id:=by
   cases hg:getK l k with
   | none=>rw [(hs k).1 hg] at hhas;cases hhas
   | some id=>exact ⟨id,rfl⟩
  have hat:=((hs k).2 id hid).2 .nil
  rw [hE] at hat
  unfold DataW.atKey at hat
  dsimp only at hat
  have hv:y.2=.held (.int .i64 id):=by
   split at hat
   ·rename_i p1 hf1
    have h3:p1.1.sameKey (KeyL.lit k)=true:=by simpa using List.find?_some hf1
    have:=pair_uniq hpw hmem (List.mem_of_find?_eq_some hf1) (by rw [WideAt.sameKey_eq h3,hk])
    rw [this];exact hat
   ·cases hat
  have hz3:z=(.held x.val,[]):=Option.some.inj (hz.symm.trans (show heldR x.val=some (.held x.val,[]) from rfl))
  rw [hy2,hz3] at hv
  have hv:x.val=.int .i64 id:=DataW.held.inj hv
  rw [hz3,hv]
  rfl
 obtain ⟨F1,hmap,_⟩:=hF.stay hst
 exact ⟨es,clock,hb,F1,hn,by rw [hmap];exact hD⟩
theorem own_held {n:Nat}{k:TypeId}(h:w.ownsMap Tryz.prog k intR bm n E):w.ownsMap Tryz.prog k heldR bm n E:=by
 obtain ⟨es,clock,hb,hF,hn,hD⟩:=h
 obtain ⟨F1,hmap,_⟩:=hF.stay (R':=heldR) fun x _ z hz=>(intR_held hz).1
 exact ⟨es,clock,hb,F1,hn,by rw [hmap];exact hD⟩
end
theorem zero_item (w:World):(zeroValue 209).run Tryz.prog w=.ok (.pointer none) w:=by kernel_rfl
theorem zero_int (w:World):(zeroValue 3).run Tryz.prog w=.ok (.int .i64 0) w:=by kernel_rfl
def fileE (T:TreeP) (id:Int):Int:=match getK T id with|none=>20|some it=>if it.n.kind=2 then 22 else 0
section
variable {w w':World}{c c':Col}{i j bt:Nat}{q q':TreeB}{T L:TreeP}
theorem TreeAt.look (h:TreeAt w c i bt q T){id:Int}(h0 : -9223372036854775808≤id) (h1:id≤9223372036854775807):
  (Instr.lookup 211 (.map (some q.bm)) (.int .i64 id) true).run Tryz.prog w=.ok (.tuple #[(getK T id).elim (.pointer none) (fun _=>.pointer (some ⟨q.β id,0,none⟩)),.bool (getK T id).isSome]) w ∧
  (Instr.lookup 211 (.map (some q.bm)) (.int .i64 id) false).run Tryz.prog w=.ok ((getK T id).elim (.pointer none) (fun _=>.pointer (some ⟨q.β id,0,none⟩))) w :=
 h.own.look Tryz.underlying211 (zero_item w) (wf0 h0 h1)
theorem file_any (h:TreeAt w c i bt q T) (id:Int) (h0 : -9223372036854775808≤id) (h1:id≤9223372036854775807):
  Calls Tryz.prog 213 #[.pointer (some ⟨bt,0,none⟩),.int .i64 id] w fun e w'=>e=.returned (.tuple #[.pointer (if fileE T id=0 then some ⟨q.β id,0,none⟩ else none),.int .i64 (fileE T id)])∧w=w':=by
 have hlk:=(h.look h0 h1).1
 have c0:w.cell? ⟨bt,0,none⟩=some (.map (some q.bm)):=cellOf h.tree (k:=0) rfl
 have HT:=Lib.hid h
 unfold fileE
 cases hg:getK T id with
 | none =>
  rw [hg] at hlk
  simp only [Option.elim_none,Option.isSome_none] at hlk
  clear h hg
  go_enter Tryz.func213,Tryz.ntmps213
  go_wp2_with fail
  refine bodyPost_ret (v:=.tuple #[.pointer none,.int .i64 20]) (by simp [results,Tryz.results213,go_sem]) rfl ?_
  exact ⟨rfl,rfl⟩
 | some it =>
  rw [hg] at hlk
  simp only [Option.elim_some,Option.isSome_some] at hlk
  have hi:=h.item id it hg
  obtain ⟨A,cp,_,x1,_⟩:=node_cells hi
  clear h hg
  by_cases hk:it.n.kind=2
  ·rw [hk] at x1
   simp only [if_pos hk]
   clear hk
   go_enter Tryz.func213,Tryz.ntmps213
   go_wp2_with fail
   refine bodyPost_ret (v:=.tuple #[.pointer none,.int .i64 22]) (by simp [results,Tryz.results213,go_sem]) rfl ?_
   exact ⟨rfl,rfl⟩
  ·have hk2:(it.n.kind==2)=false:=beq_eq_false_iff_ne.2 hk
   simp only [if_neg hk]
   clear hk
   go_enter Tryz.func213,Tryz.ntmps213
   go_wp2_with fail
   refine bodyPost_ret (v:=.tuple #[.pointer (some ⟨q.β id,0,none⟩),.int .i64 0]) (by simp [results,Tryz.results213,go_sem]) rfl ?_
   exact ⟨rfl,rfl⟩
theorem drop_not (h:TreeAt w c i bt q T) (id:Int) (h0 : -9223372036854775808≤id) (h1:id≤9223372036854775807) (he:fileE T id≠0∨∃ it,getK T id=some it∧it.n.shut=true):
  Calls Tryz.prog 155 #[.pointer (some ⟨bt,0,none⟩),.int .i64 id] w fun e w'=>(∃ k,e=.returned (.int .i64 k))∧New w w':=by
 have k1:=(New.refl w).alloc (.cells #[.int .i64 id] 3)
 have x1:=heap_alloc_new w (.cells #[.int .i64 id] 3)
 have HT:=Lib.hid h
 have HF:=Lib.hid (file_any (h.new k1) id h0 h1)
 by_cases hf:fileE T id=0
 ·obtain ⟨it,hg,hs⟩:∃ it,getK T id=some it∧it.n.shut=true:=he.resolve_left (fun q=>q hf)
  rw [hf] at HF
  have hi:=(h.new k1).item id it hg
  obtain ⟨A,cp,_,_,_,_,_,x5,_⟩:=node_cells hi
  rw [hs] at x5
  have HK:=Lib.hid k1
  clear h hi k1 he
  go_enter Tryz.func155,Tryz.ntmps155
  go_upto_region 1 with fail
  generalize w.alloc (.cells #[.int .i64 id] 3)=w1 at *
  have c0:w1.cell? ⟨w.heap.size,0,none⟩=some (.int .i64 id):=cellOf x1 rfl
  clear x1
  go_wp2_with fail
  refine HF.out.mono ?_
  rintro e w2 ⟨rfl,rfl⟩
  go_wp2_with fail
  go_ret
  exact ⟨⟨_,rfl⟩,HK.out⟩
 ·rw [if_neg hf] at HF
  have hne:(fileE T id !=0)=true:=bne_iff_ne.2 hf
  have HK:=Lib.hid k1
  clear h k1 he hf
  go_enter Tryz.func155,Tryz.ntmps155
  go_upto_region 1 with fail
  generalize w.alloc (.cells #[.int .i64 id] 3)=w1 at *
  have c0:w1.cell? ⟨w.heap.size,0,none⟩=some (.int .i64 id):=cellOf x1 rfl
  clear x1
  go_wp2_with fail
  refine HF.out.mono ?_
  rintro e w2 ⟨rfl,rfl⟩
  go_wp2_with fail
  go_ret
  exact ⟨⟨_,rfl⟩,HK.out⟩
end
end Go.Proofs.YtdodbdednpnddaaGreatDoor
namespace Go.Proofs.YtdodbdednpnddaaGreatDoor
open Go.RowKit Go.Shelf
def cutNames (id:Int) (it:ItemP):ItemP:={ it with names:=it.names.filter fun p => !decide (p.2=id) }
def pdId (id:Int):Lit→DataW Value→Bool:=fun _ d=>match d with|.held (.int .i64 k)=>decide (k=id)|_=>false
section
variable {w w':World}{c c':Col}{i j bt nb B:Nat}{q q':TreeB}{T L:TreeP}
theorem drop1_any (nm:Value) (k id:Int) (h:w.cell? ⟨B,0,none⟩=some (.int .i64 id)):Calls Tryz.prog 215 #[nm,.int .i64 k,.pointer (some ⟨B,0,none⟩)] w fun e w'=>e=.returned (.bool (decide (k=id)))∧w=w':=by
 go_enter Tryz.func215,Tryz.ntmps215
 go_wp2_with fail
 go_ret
 refine ⟨?_,rfl⟩
 show Ending.returned (Value.bool (k==id))=_
 congr 2
theorem delN_any {l:List (List UInt8×Int)}(h:NamesAt w nb l) (id:Int) (hB:w.heap[B]?=some (.cells #[.int .i64 id] 3 (0,0))):
  Calls Tryz.prog 214 #[.map (some nb),.func (.func 215) #[] #[.pointer (some ⟨B,0,none⟩)]] w fun e w'=>e=.returned (.tuple #[])∧NamesAt w' nb (l.filter fun p => !decide (p.2=id))∧Keep (fun b=>b≠nb) w w':=by
 obtain ⟨h0,E,h1,h2⟩:=h
 have hBn:B≠nb:=by
  obtain ⟨es,clock,hm,_⟩:=h1
  intro e
  rw [e,hm] at hB
  injection hB with hB
  cases hB
 refine (AnyDf.maps_DeleteFunc delN keyS intR (pdId id) 215 #[.pointer (some ⟨B,0,none⟩)] nb l.length E w (enters_of Tryz.func215 (by kernel_rfl) rfl) (own_int h1 h2 h0) ?_).mono ?_
 ·intro W key val kl yd yp hg hkey hv
  have hc:W.cell? ⟨B,0,none⟩=some (.int .i64 id):=by
   have:=hg.block B (Array.getElem?_eq_some_iff.1 hB).1 (fun e=>hBn (by injection e))
   exact cellOf (this.trans hB) (k:=0) rfl
  obtain ⟨_,k,rfl,hz⟩:=intR_held hv
  obtain ⟨rfl,_⟩:yd=.held (.int .i64 k)∧yp=[]:=by simpa using hz
  refine (drop1_any key k id hc).mono ?_
  rintro e W' ⟨he,rfl⟩
  exact ⟨he,World.grownBy.refl _ _⟩
 ·rintro e w' ⟨he,ho,hg⟩
  refine ⟨he,own_shows (own_held ho) ?_ (h0.filter _),⟨hg.os,hg.tape,hg.output,hg.size,fun j hj hd=>hg.block j hj (fun e=>hd (by injection e))⟩⟩
  exact filterD_shows h1 h2 h0 (P:=fun _ x=>decide (x=id)) fun k x _=>rfl
def dropT (id:Int) (T:TreeP):TreeP:=delK id (T.map fun p=>(p.1,cutNames id p.2))
theorem getK_map {κ α β:Type} [Ord2 κ] (g:α→β):∀ (l:List (κ×α)) (k:κ),getK (l.map fun p=>(p.1,g p.2)) k=(getK l k).map g
 | [],_=>rfl
 | (a,x)::r,k=>by
  show (if a=k then some (g x) else getK (r.map fun p=>(p.1,g p.2)) k)=(if a=k then some x else getK r k).map g
  rw [getK_map g r k]
  split <;> rfl
theorem Rising.map {κ α β:Type} [Ord2 κ] {l:List (κ×α)}(h:Rising l) (g:α→β):Rising (l.map fun p=>(p.1,g p.2)):=List.pairwise_map.2 h
theorem delNil_any (fv:Value) (w:World):Calls Tryz.prog 214 #[.map none,fv] w fun e w'=>e=.returned (.tuple #[])∧New w w' :=
 (AnyDf.maps_DeleteFunc_nil delN fv w).mono fun e w' ⟨he,hw⟩=>⟨he,by rw [hw];exact (New.refl w).alloc _⟩
theorem drop_open (h:TreeAt w c i bt q T) (hi:i≠0){id:Int}(h0 : -9223372036854775808≤id) (h1:id≤9223372036854775807){it:ItemP}(hg:getK T id=some it) (hkd:it.n.kind≠2) (hs:it.n.shut=false):
  Calls Tryz.prog 155 #[.pointer (some ⟨bt,0,none⟩),.int .i64 id] w fun e w'=>e=.returned (.int .i64 0)∧Keep (fun b=>b<w.heap.size∧c b≠i) w w'∧∃ c',Ext w c c'∧TreeAt w' c' i bt q (dropT id T):=by
 obtain ⟨c1,hc1⟩:∃ c1,c1=c.on w.heap.size fun _=>i+1:=⟨_,rfl⟩
 have hx1:Ext w c c1:=by rw [hc1];exact Col.on_ext c w _
 have hcn:∀ b,w.heap.size≤b→c1 b=i+1:=fun b hb=>by rw [hc1];exact Col.on_new _ _ hb
 have k1:=(New.refl w).alloc (.cells #[.int .i64 id] 3)
 have x1:=heap_alloc_new w (.cells #[.int .i64 id] 3)
 have hf:fileE T id=0:=by unfold fileE;rw [hg];exact if_neg hkd
 have HF:=Lib.hid (file_any (h.new k1) id h0 h1)
 rw [hf] at HF
 have hT1:TreeAt (w.alloc (.cells #[.int .i64 id] 3)) c1 i bt q T:=h.keep k1 hx1 fun _ _ _=>trivial
 obtain ⟨A,cp,_,_,_,_,_,x5,_⟩:=node_cells (hT1.item id it hg)
 rw [hs] at x5
 have HC:=Lib.hid (And.intro hx1 hcn)
 have HK:=Lib.hid k1
 have HG:=Lib.hid (And.intro hg hkd)
 clear h k1 hf hc1 hx1 hcn hg hkd hs
 go_enter Tryz.func155,Tryz.ntmps155
 go_upto_region 1 with fail
 have z1:Hid ((w.alloc (.cells #[.int .i64 id] 3)).heap.size=w.heap.size+1):=Lib.hid (by simp)
 obtain ⟨B,hB⟩:∃ B,B=w.heap.size:=⟨_,rfl⟩
 rw [← hB] at x1 ⊢
 generalize w.alloc (.cells #[.int .i64 id] 3)=w1 at *
 have c0:w1.cell? ⟨B,0,none⟩=some (.int .i64 id):=cellOf x1 rfl
 have cT:w1.cell? ⟨bt,0,none⟩=some (.map (some q.bm)):=cellOf hT1.tree (k:=0) rfl
 obtain ⟨hr0,E,hown,hsh⟩:=hT1.own
 have HT1:=Lib.hid hT1
 have HS:=Lib.hid hsh
 have HR0:=Lib.hid hr0
 have HX1:=Lib.hid x1
 replace hB:=Lib.hid hB
 clear hT1 hsh hr0 x1
 go_wp2_with fail
 refine HF.out.mono ?_
 rintro e w2 ⟨rfl,rfl⟩
 go_wp2_with (first
  | (at_range;refine wpList_range_own _ rfl _ 211 rfl 3 209 keyI Tryz.underlying211 _ q.bm T.length _ rfl hown ?_;intro w0 hrg0 hg0 hs0)
  | fail)
 replace hs0:=Lib.hid hs0
 go_frame
 go_loopw [] (fun wr=>∃ (left:Lit→Bool) (cnt:Nat) (L:TreeP),wr.ranges Tryz.prog 3 heldR q.bm w1.heap.size T.length E left cnt∧(∀ kl,left kl=true→Maps.has E kl=true)∧Keep (fun b=>c1 b≠i∧b<w1.heap.size) w1 wr∧w1.heap.size<wr.heap.size∧TreeAt wr c1 i bt q L ∧
   ∀ k,getK L k=(getK T k).map fun it=>if left (.int .i64 k) then it else cutNames id it)
  (fun wr=>wr.rangeLeft q.bm w1.heap.size)
 case atStart =>
  have kk:=grown_new hg0 (fun k e=>by cases e)
  refine ⟨_,_,T,hrg0,fun _ h=>h,Keep.of_new kk,by have:=hs0.out;omega,HT1.out.new kk,fun k=>?_⟩
  cases hg:getK T k with
  | none=>rfl
  | some it2=>rw [Option.map_some,show Maps.has E (.int .i64 k)=true from ((HS.out k).2 it2 hg).1];rfl
 case round =>
  obtain ⟨left,cnt,L,hrg,hle,hK,hZ,hL,hget⟩:=hrel
  have HR:=Lib.hid (And.intro hK (And.intro hZ (And.intro hL hget)))
  have cT:wr.cell? ⟨bt,0,none⟩=some (.map (some q.bm)):=cellOf hL.tree (k:=0) rfl
  have c0:wr.cell? ⟨B,0,none⟩=some (.int .i64 id):=hK.cell_some c0 ⟨by rw [HC.out.2 B (by rw [hB.out];exact Nat.le_refl _)];omega,by have:=z1.out;have:=hB.out;show B<w1.heap.size;omega⟩
  go_wp2_with (first
   | (at_next;refine wpList_next_ranges _ rfl _ rfl 3 keyI heldR (Value.int .i64) (fun c:Value=>c) (fun key kl hkey=>by obtain ⟨x,rfl,_⟩:=Maps.keyOf_int_inv Tryz.underlying3 hkey;exact ⟨x,rfl⟩) (fun v y hv=>⟨v,rfl⟩) q.bm w1.heap.size T.length _ _ _ rfl hrg ?_ ?_)
   | fail)
  ·intro _ hl0
   have hm:=(hL.own.new ((New.refl wr).drew)).drop Tryz.underlying211 (wf0 h0 h1)
   obtain ⟨w9,hrun,m9,k9,z9⟩:=hm
   have hrun2:∀ ty,(Builtin.delete_ #[211,3] ty #[.map (some q.bm),.int .i64 id]).run Tryz.prog wr.drew=.ok (.tuple #[]) w9:=hrun
   have yT:∀ W,Keep (fun b=>b≠q.bm) wr.drew W→W.cell? ⟨bt,0,none⟩=some (.map (some q.bm)):=fun W hW=>((Keep.refl _ wr).drew.trans hW).cell_some cT (by
    intro e
    have e:bt=q.bm:=e
    obtain ⟨_,E,⟨es,clock,hm,_⟩,_⟩:=hL.own
    have:=hL.tree
    rw [e,hm] at this
    injection this with this
    cases this)
   have yB:∀ W,Keep (fun b=>b≠q.bm) wr.drew W→W.cell? ⟨B,0,none⟩=some (.int .i64 id):=fun W hW=>((Keep.refl _ wr).drew.trans hW).cell_some c0 (by
    intro e
    have e:B=q.bm:=e
    have h2:=hL.col.2
    rw [← e,HC.out.2 B (by rw [hB.out];exact Nat.le_refl _)] at h2
    omega)
   have HM9:=Lib.hid (And.intro m9 k9)
   have HL0:=Lib.hid hl0
   clear hrun m9 z9 hK hZ hL hget hrg hle cT c0
   go_wp2_with fail
   refine hold_beginS (Keep (fun b=>b≠q.bm) wr.drew) (by kernel_rfl) ?_
   have n0:Keep (fun b=>b≠q.bm) wr.drew wr.drew:=Keep.refl _ _
   refine take0 0 n0 ?_
   refine take0 1 n0 ?_
   refine take0 2 n0 ?_
   refine take0 3 n0 ?_
   refine take0 4 n0 ?_
   refine hold_step0 (i:=5) (by kernel_rfl) rfl rfl (fun K hK=>?_)
   go_simp
   refine hK.out _ _ k9 ?_
   clear hK K n0 k9
   try simp only [Act.put,ly1,ly2,ly3,ly4,ly5,ly6]
   refine wpAnyH_done (by kernel_rfl) ?_ _
   go_wp2_with fail
   go_ret
   obtain ⟨hK,hZ,hL,hget⟩:=HR.out
   obtain ⟨m9,k9⟩:=HM9.out
   obtain ⟨hx1,hcn⟩:=HC.out
   have hLT:L=T.map fun p=>(p.1,cutNames id p.2):=hL.own.1.ext (HR0.out.map _) fun k=>by
    rw [hget k,getK_map]
    congr 1
    funext it
    rw [HL0.out]
    rfl
   have hz1:=z1.out
   refine ⟨rfl,?_,c1,hx1,?_⟩
   ·refine ((Keep.of_new (D:=fun b=>b<w.heap.size∧c b≠i) HK.out).trans2 hK fun b hb hd=>?_).trans2 ((Keep.refl _ wr).drew.trans k9) fun b hb hd e=>?_
    ·have h1:c1 b=c b:=hx1 b hd.1
     exact ⟨by show c1 b≠i;rw [h1];exact hd.2,by show b<w1.heap.size;omega⟩
    ·have h1:c1 b=c b:=hx1 b hd.1
     rw [e,hL.col.2] at h1
     rw [e] at hd
     exact hd.2 h1.symm
   ·have:=TreeAt.del (hL.new (New.refl wr).drew) hi k9 m9
    rw [hLT] at this
    exact this
  ·intro x cv kl y ps w3 cnt1 hkey hlk hRv hat hrg1 hlt1 hg1 hs1 hen
   obtain ⟨x',ex,rfl,hwx⟩:=Maps.keyOf_int_inv Tryz.underlying3 hkey
   obtain rfl:x'=x:=by injection ex with _ e;exact e.symm
   have hy:y=.held cv:=by injection hRv with hRv;injection hRv with hRv;exact hRv.symm
   subst hy
   have hhas:=hle _ hlk
   obtain ⟨it2,hgt⟩:∃ it,getK T x'=some it:=by
    cases hg:getK T x' with
    | none=>have:=(HS.out x').1 hg;rw [show (KeyL.lit x':Lit)=.int .i64 x' from rfl] at this;rw [this] at hhas;cases hhas
    | some it=>exact ⟨it,rfl⟩
   have hcv:cv=.pointer (some ⟨q.β x',0,none⟩):=by
    have:=(hat .nil).symm.trans (((HS.out x').2 it2 hgt).2 .nil)
    injection this
   subst hcv
   have hgl:getK L x'=some it2:=by rw [hget x',hgt,Option.map_some,hlk];rfl
   have hrk:c1 w1.heap.size=i+1:=HC.out.2 _ (by have:=z1.out;omega)
   have hKr:Keep (fun b=>b≠w1.heap.size) wr w3:=⟨hg1.os,hg1.tape,hg1.output,hg1.size,fun j hj hd=>hg1.block j hj (fun e=>hd (by injection e))⟩
   have hz3:=hKr.size
   have hL3:TreeAt w3 c1 i bt q L:=hL.keep hKr (Ext.refl _ _) (fun b hb hc e=>by rw [e,hrk] at hc;omega)
   have hK3:Keep (fun b=>c1 b≠i∧b<w1.heap.size) w1 w3:=hK.trans2 hKr fun b hb hd=>by have:=hd.2;show b≠w1.heap.size;omega
   have hB3:w3.heap[B]?=some (.cells #[.int .i64 id] 3 (0,0)):=(hK3.block B (Array.getElem?_eq_some_iff.1 HX1.out).1 ⟨by rw [HC.out.2 B (by rw [hB.out];exact Nat.le_refl _)];omega,(Array.getElem?_eq_some_iff.1 HX1.out).1⟩).trans HX1.out
   obtain ⟨A2,cp2,_,_,_,_,_,_,_,x7,_⟩:=node_cells (hL3.item x' it2 hgl)
   have HST:=Lib.hid (And.intro hrg1 (And.intro hlt1 (And.intro hrg (And.intro hz3 (And.intro hL3 (And.intro hK3 (And.intro hB3 (And.intro hgl (And.intro hgt (And.intro hlk (And.intro hle (And.intro hget (And.intro hZ hrk)))))))))))))
   clear hrg1 hlt1 hg1 hs1 hat hkey hRv hhas hrg hle hK hZ hL hget hKr hz3 hL3 hK3 hB3 hgl hgt hlk hrk
   by_cases hkd2:it2.n.kind=2
   ·rw [if_pos hkd2] at x7
    have HKD:=Lib.hid hkd2
    clear hkd2
    go_wp2_with fail
    have HDE:=Lib.hid (delN_any ((HST.out.2.2.2.2.1.item x' it2 HST.out.2.2.2.2.2.2.2.1).names HKD.out).2 id HST.out.2.2.2.2.2.2.1)
    refine HDE.out.mono ?_
    rintro e w4 ⟨rfl,hn4,k4⟩
    have HF4:=Lib.hid (And.intro hn4 k4)
    clear hn4 k4 x7 hen HDE
    go_wp2_with fail
    go_roundw
    case rel =>
     obtain ⟨hrg1,hlt1,hrg,hz3,hL3,hK3,hB3,hgl,hgt,hlk,hle,hget,hZ,hrk⟩:=HST.out
     obtain ⟨hn4,k4⟩:=HF4.out
     have hgc:=((hL3.item x' it2 hgl).names HKD.out).1
     have hg34:w3.grownBy w4 (some (q.γ x')):=⟨k4.os,k4.tape,k4.output,k4.size,fun j hj hne=>k4.block j hj (fun e=>hne (by rw [e]))⟩
     have hz4:=k4.size
     refine ⟨_,_,putK x' { it2 with names:=it2.names.filter fun p => !decide (p.2=id) } L,hrg1.kept hg34 (fun e=>hL3.far x' it2 hgl HKD.out (by injection e with e;exact e.symm)) (fun e=>by injection e with e;rw [e,hgc] at hrk;omega),fun kl hkl=>hle kl (by simp at hkl;exact hkl.1),hK3.trans2 k4 (fun b hb hd e=>by rw [e] at hd;exact hd.1 hgc),by omega,hL3.setNames hi hgl HKD.out k4 hn4,fun k=>?_⟩
     rw [getK_put]
     by_cases e:k=x'
     ·subst e
      rw [if_pos rfl,hgt,Option.map_some]
      simp [Lit.sameKey,cutNames]
     ·rw [if_neg e,hget k]
      have:(Lit.int .i64 k).sameKey (.int .i64 x')=false:=by simp [Lit.sameKey,e]
      rw [this]
      simp
    case measure =>
     obtain ⟨hrg1,hlt1,hrg,hz3,hL3,hK3,hB3,hgl,hgt,hlk,hle,hget,hZ,hrk⟩:=HST.out
     obtain ⟨hn4,k4⟩:=HF4.out
     have hgc:=((hL3.item x' it2 hgl).names HKD.out).1
     have hg34:w3.grownBy w4 (some (q.γ x')):=⟨k4.os,k4.tape,k4.output,k4.size,fun j hj hne=>k4.block j hj (fun e=>hne (by rw [e]))⟩
     rw [(hrg1.kept hg34 (fun e=>hL3.far x' it2 hgl HKD.out (by injection e with e;exact e.symm)) (fun e=>by injection e with e;rw [e,hgc] at hrk;omega)).left_eq,hrg.left_eq]
     exact hlt1
   ·rw [if_neg hkd2] at x7
    have HKD:=Lib.hid hkd2
    clear hkd2
    go_wp2_with fail
    refine (delNil_any _ w3).mono ?_
    rintro e w4 ⟨rfl,k4⟩
    have HF4:=Lib.hid k4
    clear k4 x7 hen
    go_wp2_with fail
    go_roundw
    case rel =>
     obtain ⟨hrg1,hlt1,hrg,hz3,hL3,hK3,hB3,hgl,hgt,hlk,hle,hget,hZ,hrk⟩:=HST.out
     have k4:=HF4.out
     have hg34:w3.grownBy w4 none:=⟨k4.os,k4.tape,k4.output,k4.size,fun j hj hne=>k4.block j hj trivial⟩
     have hz4:=k4.size
     refine ⟨_,_,L,hrg1.kept hg34 (fun e=>by cases e) (fun e=>by cases e),fun kl hkl=>hle kl (by simp at hkl;exact hkl.1),hK3.new k4,by omega,hL3.new k4,fun k=>?_⟩
     rw [hget k]
     by_cases e:k=x'
     ·subst e
      have hb:=(hL3.item k it2 hgl).bare HKD.out
      rw [hgt,Option.map_some,Option.map_some,hlk]
      simp [Lit.sameKey,cutNames,hb]
      cases it2
      simp_all
     ·have:(Lit.int .i64 k).sameKey (.int .i64 x')=false:=by simp [Lit.sameKey,e]
      rw [this]
      simp
    case measure =>
     obtain ⟨hrg1,hlt1,hrg,hz3,hL3,hK3,hB3,hgl,hgt,hlk,hle,hget,hZ,hrk⟩:=HST.out
     have k4:=HF4.out
     have hg34:w3.grownBy w4 none:=⟨k4.os,k4.tape,k4.output,k4.size,fun j hj hne=>k4.block j hj trivial⟩
     rw [(hrg1.kept hg34 (fun e=>by cases e) (fun e=>by cases e)).left_eq,hrg.left_eq]
     exact hlt1
end
end Go.Proofs.YtdodbdednpnddaaGreatDoor
namespace Go.Proofs.YtdodbdednpnddaaGreatDoor
open Go.RowKit
def dropStep (T:TreeP) (id:Int):TreeP:=match getK T id with|some it=>if it.n.kind≠2∧it.n.shut=false then dropT id T else T|none=>T
def committedT (T:TreeP):TreeP:=(T.map (·.1)).foldl dropStep T
section
variable {w w':World}{c c':Col}{i j bt f:Nat}{q q':TreeB}{T L:TreeP}
theorem drop_any (h:TreeAt w c i bt q T) (hi:i≠0) (id:Int) (h0 : -9223372036854775808≤id) (h1:id≤9223372036854775807):
  Calls Tryz.prog 155 #[.pointer (some ⟨bt,0,none⟩),.int .i64 id] w fun e w'=>(∃ k,e=.returned (.int .i64 k))∧Keep (fun b=>b<w.heap.size∧c b≠i) w w'∧∃ c',Ext w c c'∧TreeAt w' c' i bt q (dropStep T id):=by
 unfold dropStep
 cases hg:getK T id with
 | none =>
  refine (drop_not h id h0 h1 (.inl (by unfold fileE;rw [hg];decide))).mono ?_
  rintro e w' ⟨he,hk⟩
  exact ⟨he,Keep.of_new hk,c,Ext.refl _ _,h.new hk⟩
 | some it =>
  dsimp only
  by_cases hk:it.n.kind≠2∧it.n.shut=false
  ·rw [if_pos hk]
   refine (drop_open h hi h0 h1 hg hk.1 hk.2).mono ?_
   rintro e w' ⟨he,hh⟩
   exact ⟨⟨_,he⟩,hh⟩
  ·rw [if_neg hk]
   refine (drop_not h id h0 h1 ?_).mono ?_
   ·by_cases h2:it.n.kind=2
    ·left;unfold fileE;rw [hg];show (if it.n.kind=2 then (22:Int) else 0)≠0;rw [if_pos h2];decide
    ·right;exact ⟨it,hg,by cases hs:it.n.shut with|true=>rfl|false=>exact absurd ⟨h2,hs⟩ hk⟩
   ·rintro e w' ⟨he,hk⟩
    exact ⟨he,Keep.of_new hk,c,Ext.refl _ _,h.new hk⟩
theorem fresh_col (c:Col) (n:Nat):∃ f,f≠0∧∀ b,b<n→c b≠f:=by
 induction n with
 | zero=>exact ⟨1,by decide,fun b hb=>absurd hb (Nat.not_lt_zero b)⟩
 | succ n ih =>
  have:∀ n:Nat,∃ m,∀ b,b<n→c b<m:=fun n=>by
   induction n with
   | zero=>exact ⟨0,fun b hb=>absurd hb (Nat.not_lt_zero b)⟩
   | succ n ih =>
    obtain ⟨m,hm⟩:=ih
    refine ⟨max m (c n+1),fun b hb=>?_⟩
    by_cases e:b=n
    ·subst e;omega
    ·have:=hm b (by omega);omega
  obtain ⟨m,hm⟩:=this (n+1)
  exact ⟨m+1,by omega,fun b hb=>by have:=hm b hb;omega⟩
theorem ItemAt.recolor {bi nb:Nat}{id:Int}{it:ItemP}(h:ItemAt w c f bi nb id it) (hf:f≠0) (j:Nat):ItemAt w (fun b=>if c b=f then j else c b) j bi nb id it:=by
 obtain ⟨A,cp,h1,h2,h3,h4⟩:=h.cells
 exact ⟨if_pos h.col,⟨A,cp,h1,h2,h3,h4.imp fun b _ hb=>by show (if c b=f then j else c b)=0;rw [if_neg (by rw [hb];exact hf.symm)];exact hb⟩,fun hd=>⟨if_pos (h.names hd).1,(h.names hd).2⟩,h.bare⟩
theorem TreeAt.recolor (h:TreeAt w c f bt q T) (hf:f≠0) (j:Nat):TreeAt w (fun b=>if c b=f then j else c b) j bt q T :=
 ⟨h.tree,h.own,fun k it hg=>(h.item k it hg).recolor hf j,⟨if_pos h.col.1,if_pos h.col.2⟩,h.inj,h.far⟩
theorem foldl_take {α β:Type}(g:β→α→β) (x:β) (l:List α) (n:Nat) (h:n<l.length):(l.take (n+1)).foldl g x=g ((l.take n).foldl g x) l[n]:=by
 rw [List.take_succ_eq_append_getElem h,List.foldl_append];rfl
def TreeRet (w:World) (c:Col) (j:Nat) (T:TreeP) (e:Ending) (w':World):Prop:=∃ (bt':Nat) (q':TreeB) (c':Col),e=.returned (.pointer (some ⟨bt',0,none⟩))∧New w w'∧w.heap.size≤bt'∧Ext w c c'∧TreeAt w' c' j bt' q' T
theorem committed_any (h:TreeAt w c i bt q T) (hn:T.length≤100000) (hk:∀ p∈T,-9223372036854775808≤p.1∧p.1≤9223372036854775807) (j:Nat):
  Calls Tryz.prog 120 #[.pointer (some ⟨bt,0,none⟩)] w (TreeRet w c j (committedT T)):=by
 obtain ⟨f,hf,hfr⟩:=fresh_col c w.heap.size
 have HC:=Lib.hid (tcopy_any h hn f hf)
 have HFR:=Lib.hid hfr
 have HKB:=Lib.hid hk
 clear h hfr hk
 go_enter Tryz.func120,Tryz.ntmps120
 go_wp2_with fail
 refine HC.out.mono ?_
 rintro e w1 ⟨bt',q',c1,rfl,k1,hb1,hx1,hT1⟩
 have HI:=Lib.hid (ids_any hT1 (by omega))
 have HT1:=Lib.hid hT1
 have HK1:=Lib.hid (And.intro k1 (And.intro hb1 hx1))
 clear hT1 k1 hb1 hx1 HC
 go_wp2_with fail
 refine HI.out.mono ?_
 rintro e w2 ⟨⟨A,cp,rfl,ho⟩,k2⟩
 have HO:=Lib.hid ho
 have HK2:=Lib.hid k2
 clear ho k2 HI
 go_wp2_with fail
 obtain ⟨c2,hc2⟩:∃ c2,c2=c1.on w1.heap.size fun _=>f+1:=⟨_,rfl⟩
 have HC2:Hid (Ext w1 c1 c2∧∀ b,w1.heap.size≤b→c2 b≠f):=Lib.hid ⟨by rw [hc2];exact Col.on_ext c1 w1 _,fun b hb=>by rw [hc2,Col.on_new _ _ hb];omega⟩
 have HT2:Hid (TreeAt w2 c2 f bt' q' T):=Lib.hid (HT1.out.keep HK2.out HC2.out.1 fun _ _ _=>trivial)
 clear hc2
 go_loopw [12] (fun s12 wx=>∃ (n:Nat) (cc:Col),s12=.int .i64 (n:Int)∧n≤T.length∧Keep (fun b=>b<w2.heap.size∧c2 b≠f) w2 wx∧Ext w2 c2 cc∧TreeAt wx cc f bt' q' (((T.map (·.1)).take n).foldl dropStep T)) (fun s12 _=>T.length-(intOf s12).toNat)
 case atStart=>exact ⟨0,c2,rfl,Nat.zero_le _,Keep.refl _ _,Ext.refl _ _,HT2.out⟩
 case round =>
  obtain ⟨n,cc,rfl,hnl,hK,hX,hT⟩:=hrel
  by_cases hlt:n<T.length
  ·have hl2:(n:Int)<(T.length:Int):=by omega
   obtain ⟨hb0,hb1⟩:=HKB.out T[n] (List.getElem_mem hlt)
   have hrow:=(Row.of_own HO.out)
   obtain ⟨g,off,hA,hgb,hgl,hcell⟩:=hrow.2 (by omega)
   subst hA
   have cn:wr.cell? ⟨g,off+n,none⟩=some (.int .i64 T[n].1):=hK.cell_some (hcell n _ (by rw [List.getElem?_map,List.getElem?_eq_getElem hlt];rfl)) ⟨hgl,HC2.out.2 g hgb⟩
   have HD:=Lib.hid (drop_any hT hf T[n].1 hb0 hb1)
   have HF:=Lib.hid (And.intro hK (And.intro hX hT))
   clear hK hX hT hrow hcell
   go_wp2_with fail
   refine HD.out.mono ?_
   rintro e w4 ⟨⟨k,rfl⟩,k4,c4,hx4,hT4⟩
   have HF4:=Lib.hid (And.intro k4 (And.intro hx4 hT4))
   clear k4 hx4 hT4 HD cn
   go_wp2_with fail
   go_roundw
   case rel =>
    obtain ⟨hK,hX,hT⟩:=HF.out
    obtain ⟨k4,hx4,hT4⟩:=HF4.out
    refine ⟨n+1,c4,by go_num,hlt,hK.trans2 k4 (fun b hb hd=>⟨Nat.lt_of_lt_of_le hb hK.size,by show cc b≠f;rw [hX b hb];exact hd.2⟩),hX.trans hx4 hK.size,?_⟩
    rw [foldl_take dropStep T _ n (by rw [List.length_map];exact hlt)]
    simpa using hT4
   case measure=>simp [intOf];omega
  ·have hl2:¬ (n:Int)<(T.length:Int):=by omega
   have HF:=Lib.hid (And.intro hK (And.intro hX hT))
   clear hK hX hT
   go_wp2_with fail
   go_ret
   obtain ⟨hK,hX,hT⟩:=HF.out
   obtain ⟨k1,hb1,hx1⟩:=HK1.out
   rw [List.take_of_length_le (by rw [List.length_map];omega)] at hT
   have hxx:Ext w c cc:=hx1.trans (HC2.out.1.trans (hX) HK2.out.size) k1.size
   refine ⟨bt',q',fun b=>if cc b=f then j else cc b,rfl,?_,hb1,fun b hb=>?_,hT.recolor hf j⟩
   ·refine Keep.toNew (D:=fun b=>b<w.heap.size) ((Keep.of_new (k1.new HK2.out)).trans2 hK fun b hb _=>⟨Nat.lt_of_lt_of_le hb (Nat.le_trans k1.size HK2.out.size),?_⟩) fun b hb=>hb
    show c2 b≠f
    rw [HC2.out.1 b (Nat.lt_of_lt_of_le hb k1.size),hx1 b hb]
    exact HFR.out b hb
   ·show (if cc b=f then j else cc b)=c b
    rw [hxx b hb,if_neg (HFR.out b hb)]
end
def NodeP.val (id:Int) (n:NodeP):Value:=.agg #[.int .i64 id,.int .i64 n.kind,.int .i64 n.links,.int .i64 n.size,.int .u64 n.till,.bool n.shut]
structure NodeOk (id:Int) (n:NodeP):Prop where
 id:0≤id∧id≤65535
 links:0≤n.links∧n.links≤65535
 till:0≤n.till∧n.till≤1099511627776
 kind:(n.kind=1∧0≤n.size∧n.size≤4096)∨(n.kind=2∧n.size=0∧n.till=0∧n.shut=true)
def flagByte (b:Bool):List UInt8:=beI 1 (if b then 1 else 0)
def nodeBytes (id:Int) (n:NodeP):List UInt8:=beI 2 id++beI 1 n.kind++beI 2 n.links++beI 2 n.size++beI 8 n.till++flagByte n.shut
theorem nright_any {id:Int}{n:NodeP}(h:NodeOk id n) (w:World):
  Calls Tryz.prog 216 #[.agg #[.int .i64 id,.int .i64 n.kind,.int .i64 n.links,.int .i64 n.size,.int .u64 n.till,.bool n.shut]] w fun e w'=>e=.returned (.bool true)∧New w w':=by
 obtain ⟨⟨i0,i1⟩,⟨l0,l1⟩,⟨t0,t1⟩,hk⟩:=h
 obtain ⟨k,l,s,t,b⟩:=n
 dsimp only at *
 have d1:decide (id<0)=false:=decide_eq_false (by omega)
 have d2:decide (65535<id)=false:=decide_eq_false (by omega)
 have d3:decide (l<0)=false:=decide_eq_false (by omega)
 have d4:decide (65535<l)=false:=decide_eq_false (by omega)
 rcases hk with ⟨rfl,s0,s1⟩|⟨rfl,rfl,rfl,rfl⟩
 ·have d5:decide (0≤s)=true:=decide_eq_true s0
  have d6:decide (s≤4096)=true:=decide_eq_true s1
  have d7:decide (t≤1099511627776)=true:=decide_eq_true t1
  clear i0 i1 l0 l1 t0 t1 s0 s1
  go_enter Tryz.func216,Tryz.ntmps216
  go_wp2_with fail
  go_ret
  exact ⟨by simp [*],(New.refl w).alloc _⟩
 ·clear i0 i1 l0 l1 t0 t1
  go_enter Tryz.func216,Tryz.ntmps216
  go_wp2_with fail
  go_ret
  exact ⟨by simp [*],(New.refl w).alloc _⟩
theorem wflag_any (base p:Nat) (bs:List UInt8) (b:Bool) (w:World) (hW:Wr w base p bs) (hn:bs.length≤1099511627776):
  Calls Tryz.prog 50 #[.pointer (some ⟨p,0,none⟩),.bool b] w fun e w'=>e=.returned (.tuple #[])∧Wr w' base p (bs++flagByte b)∧Keep (fun b=>b<base) w w':=by
 cases b
 ·have HB:=Lib.hid (wbyte_any base p bs 0 w hW hn)
  clear hW
  go_enter Tryz.func50,Tryz.ntmps50
  go_wp2_with fail
  refine HB.out.mono ?_
  rintro e w' ⟨rfl,h1,h2⟩
  go_wp2_with fail
  go_end0
  exact ⟨rfl,h1,h2⟩
 ·have HB:=Lib.hid (wbyte_any base p bs 1 w hW hn)
  clear hW
  go_enter Tryz.func50,Tryz.ntmps50
  go_wp2_with fail
  refine HB.out.mono ?_
  rintro e w' ⟨rfl,h1,h2⟩
  go_wp2_with fail
  first|go_end0|refine bodyPost_ret (results_none rfl _ _ _) rfl ?_
  exact ⟨rfl,h1,h2⟩
theorem nodeBytes_length (id:Int) (n:NodeP):(nodeBytes id n).length=16:=by unfold nodeBytes flagByte;simp [beI_length]
theorem nencode_any {id:Int}{n:NodeP}(h:NodeOk id n) (w:World):
  Calls Tryz.prog 156 #[.agg #[.int .i64 id,.int .i64 n.kind,.int .i64 n.links,.int .i64 n.size,.int .u64 n.till,.bool n.shut]] w fun e w'=>(∃ A' c',e=.returned (.tuple #[.slice A' 16 c',.int .i64 0])∧OwnB w' w.heap.size 5 A' 16 c' (nodeBytes id n))∧New w w':=by
 have k1:=(New.refl w).alloc (.cells #[.int .i64 id,.int .i64 n.kind,.int .i64 n.links,.int .i64 n.size,.int .u64 n.till,.bool n.shut] 28)
 have x1:=heap_alloc_new w (.cells #[.int .i64 id,.int .i64 n.kind,.int .i64 n.links,.int .i64 n.size,.int .u64 n.till,.bool n.shut] 28)
 have HR:=Lib.hid (fun W=>nright_any h W)
 have ht:=h.till
 go_enter Tryz.func156,Tryz.ntmps156
 go_upto_region 1 with fail
 generalize w.alloc (.cells #[.int .i64 id,.int .i64 n.kind,.int .i64 n.links,.int .i64 n.size,.int .u64 n.till,.bool n.shut] 28)=w1 at *
 have c0:w1.cell? ⟨w.heap.size,0,none⟩=some (.int .i64 id):=cellOf x1 rfl
 have c1:w1.cell? ⟨w.heap.size,1,none⟩=some (.int .i64 n.kind):=cellOf x1 rfl
 have c2:w1.cell? ⟨w.heap.size,2,none⟩=some (.int .i64 n.links):=cellOf x1 rfl
 have c3:w1.cell? ⟨w.heap.size,3,none⟩=some (.int .i64 n.size):=cellOf x1 rfl
 have c4:w1.cell? ⟨w.heap.size,4,none⟩=some (.int .u64 n.till):=cellOf x1 rfl
 have c5:w1.cell? ⟨w.heap.size,5,none⟩=some (.bool n.shut):=cellOf x1 rfl
 go_wp2_with fail
 refine (HR.out _).mono ?_
 rintro e w2 ⟨rfl,k2⟩
 replace c0:w2.cell? ⟨w.heap.size,0,none⟩=some (.int .i64 id):=k2.cell_some c0 trivial
 replace c1:w2.cell? ⟨w.heap.size,1,none⟩=some (.int .i64 n.kind):=k2.cell_some c1 trivial
 replace c2:w2.cell? ⟨w.heap.size,2,none⟩=some (.int .i64 n.links):=k2.cell_some c2 trivial
 replace c3:w2.cell? ⟨w.heap.size,3,none⟩=some (.int .i64 n.size):=k2.cell_some c3 trivial
 replace c4:w2.cell? ⟨w.heap.size,4,none⟩=some (.int .u64 n.till):=k2.cell_some c4 trivial
 replace c5:w2.cell? ⟨w.heap.size,5,none⟩=some (.bool n.shut):=k2.cell_some c5 trivial
 have K2:=Lib.hid (k1.new k2)
 clear k2 x1 k1 HR
 go_wp2_with fail
 refine (newWriter_any w2).mono ?_
 rintro e w3 ⟨⟨p,rfl,hW3⟩,k3⟩
 have hwz:w.heap.size<w2.heap.size:=World.block_lt_of_cell? w2 ⟨w.heap.size,0,none⟩ c0
 replace c0:w3.cell? ⟨w.heap.size,0,none⟩=some (.int .i64 id):=k3.cell_some c0 trivial
 replace c1:w3.cell? ⟨w.heap.size,1,none⟩=some (.int .i64 n.kind):=k3.cell_some c1 trivial
 replace c2:w3.cell? ⟨w.heap.size,2,none⟩=some (.int .i64 n.links):=k3.cell_some c2 trivial
 replace c3:w3.cell? ⟨w.heap.size,3,none⟩=some (.int .i64 n.size):=k3.cell_some c3 trivial
 replace c4:w3.cell? ⟨w.heap.size,4,none⟩=some (.int .u64 n.till):=k3.cell_some c4 trivial
 replace c5:w3.cell? ⟨w.heap.size,5,none⟩=some (.bool n.shut):=k3.cell_some c5 trivial
 have HB:=Lib.hid (Keep.of_new (D:=fun b=>b<w2.heap.size) k3)
 have HW:=Lib.hid hW3
 clear k3 hW3
 go_wp2_with fail
 refine (wshort_any _ _ _ id w3 HW.out (by simp )).mono ?_
 rintro e w4 ⟨rfl,hW,hk⟩
 replace c1:w4.cell? ⟨w.heap.size,1,none⟩=some (.int .i64 n.kind):=hk.cell_some c1 hwz
 replace c2:w4.cell? ⟨w.heap.size,2,none⟩=some (.int .i64 n.links):=hk.cell_some c2 hwz
 replace c3:w4.cell? ⟨w.heap.size,3,none⟩=some (.int .i64 n.size):=hk.cell_some c3 hwz
 replace c4:w4.cell? ⟨w.heap.size,4,none⟩=some (.int .u64 n.till):=hk.cell_some c4 hwz
 replace c5:w4.cell? ⟨w.heap.size,5,none⟩=some (.bool n.shut):=hk.cell_some c5 hwz
 replace HB:=Lib.hid (HB.out.trans hk)
 replace HW:=Lib.hid hW
 clear hW hk
 go_wp2_with fail
 refine (wbyte_any _ _ _ n.kind w4 HW.out (by simp [beI_length])).mono ?_
 rintro e w5 ⟨rfl,hW,hk⟩
 replace c2:w5.cell? ⟨w.heap.size,2,none⟩=some (.int .i64 n.links):=hk.cell_some c2 hwz
 replace c3:w5.cell? ⟨w.heap.size,3,none⟩=some (.int .i64 n.size):=hk.cell_some c3 hwz
 replace c4:w5.cell? ⟨w.heap.size,4,none⟩=some (.int .u64 n.till):=hk.cell_some c4 hwz
 replace c5:w5.cell? ⟨w.heap.size,5,none⟩=some (.bool n.shut):=hk.cell_some c5 hwz
 replace HB:=Lib.hid (HB.out.trans hk)
 replace HW:=Lib.hid hW
 clear hW hk
 go_wp2_with fail
 refine (wshort_any _ _ _ n.links w5 HW.out (by simp [beI_length])).mono ?_
 rintro e w6 ⟨rfl,hW,hk⟩
 replace c3:w6.cell? ⟨w.heap.size,3,none⟩=some (.int .i64 n.size):=hk.cell_some c3 hwz
 replace c4:w6.cell? ⟨w.heap.size,4,none⟩=some (.int .u64 n.till):=hk.cell_some c4 hwz
 replace c5:w6.cell? ⟨w.heap.size,5,none⟩=some (.bool n.shut):=hk.cell_some c5 hwz
 replace HB:=Lib.hid (HB.out.trans hk)
 replace HW:=Lib.hid hW
 clear hW hk
 go_wp2_with fail
 refine (wshort_any _ _ _ n.size w6 HW.out (by simp [beI_length])).mono ?_
 rintro e w7 ⟨rfl,hW,hk⟩
 replace c4:w7.cell? ⟨w.heap.size,4,none⟩=some (.int .u64 n.till):=hk.cell_some c4 hwz
 replace c5:w7.cell? ⟨w.heap.size,5,none⟩=some (.bool n.shut):=hk.cell_some c5 hwz
 replace HB:=Lib.hid (HB.out.trans hk)
 replace HW:=Lib.hid hW
 clear hW hk
 go_wp2_with fail
 refine (wlong_any _ _ _ n.till w7 HW.out (by omega) (by omega) (by simp [beI_length])).mono ?_
 rintro e w8 ⟨rfl,hW,hk⟩
 replace c5:w8.cell? ⟨w.heap.size,5,none⟩=some (.bool n.shut):=hk.cell_some c5 hwz
 replace HB:=Lib.hid (HB.out.trans hk)
 replace HW:=Lib.hid hW
 clear hW hk
 go_wp2_with fail
 refine (wflag_any _ _ _ n.shut w8 HW.out (by simp [beI_length])).mono ?_
 rintro e w9 ⟨rfl,hW,hk⟩
 replace HB:=Lib.hid (HB.out.trans hk)
 replace HW:=Lib.hid hW
 clear hW hk
 go_wp2_with fail
 refine (done_any _ _ _ w9 HW.out (by simp [beI_length,flagByte])).mono ?_
 rintro e w10 ⟨⟨A',c',rfl,ho⟩,k10⟩
 have HF:=Lib.hid (And.intro ho k10)
 clear ho k10
 have hbs:[]++beI 2 id++beI 1 n.kind++beI 2 n.links++beI 2 n.size++beI 8 n.till++flagByte n.shut=nodeBytes id n:=by unfold nodeBytes;simp
 rw [hbs,nodeBytes_length] at HF ⊢
 go_wp2_with fail
 refine bodyPost_ret (v:=.tuple #[.slice A' 16 c',.int .i64 0]) (by simp [results,Tryz.results156,go_sem]) rfl ?_
 obtain ⟨ho,k10⟩:=HF.out
 exact ⟨⟨A',c',rfl,ownsRow_base_a ho (by have:=HB.out.size;have:=K2.out.size;omega)⟩,K2.out.new ((HB.out.new k10).toNew fun b hb=>hb)⟩
end Go.Proofs.YtdodbdednpnddaaGreatDoor
namespace Go.Proofs.YtdodbdednpnddaaGreatDoor
open Go.RowKit Go.Maps Go.Sort Go.Shelf
def nameBytes (p:List UInt8×Int):List UInt8:=lenBytes p.1++beI 2 p.2
def itemBytes (p:Int×ItemP):List UInt8:=lenBytes (nodeBytes p.1 p.2.n)++lenBytes p.2.b++beI 2 p.2.names.length++(p.2.names.map nameBytes).flatten
def treeBytes (T:TreeP):List UInt8:=beI 2 T.length++(T.map itemBytes).flatten
structure TreeOk (T:TreeP):Prop where
 few:T.length≤1000
 node:∀ p∈T,NodeOk p.1 p.2.n
 names:∀ p∈T,p.2.names.length≤10000
 short:∀ p∈T,∀ x∈p.2.names,x.1.length≤16
theorem lenBytes_le (b:List UInt8):(lenBytes b).length≤65537:=by
 unfold lenBytes
 rw [List.length_append,beI_length,List.length_take]
 omega
theorem flatten_le {α:Type}(f:α→List UInt8) (m:Nat):∀ (l:List α),(∀ x∈l,(f x).length≤m)→((l.map f).flatten).length≤l.length*m
 | [],_=>by simp
 | x::r,h=>by
  rw [List.map_cons,List.flatten_cons,List.length_append,List.length_cons,Nat.succ_mul]
  have h1:=h x (List.mem_cons_self ..)
  have h2:=flatten_le f m r fun y hy=>h y (List.mem_cons_of_mem _ hy)
  omega
theorem itemBytes_le {p:Int×ItemP}(h:p.2.names.length≤10000):(itemBytes p).length≤700000000:=by
 unfold itemBytes
 have h1:=lenBytes_le (nodeBytes p.1 p.2.n)
 have h2:=lenBytes_le p.2.b
 have h3:=flatten_le nameBytes 65539 p.2.names fun x _=>by unfold nameBytes;rw [List.length_append,beI_length];have:=lenBytes_le x.1;omega
 rw [List.length_append,List.length_append,List.length_append,beI_length]
 have:p.2.names.length*65539≤10000*65539:=Nat.mul_le_mul_right _ h
 omega
theorem treeBytes_le {T:TreeP}(h:TreeOk T):(treeBytes T).length≤700000000002:=by
 unfold treeBytes
 have h1:=flatten_le itemBytes 700000000 T fun p hp=>itemBytes_le (h.names p hp)
 rw [List.length_append,beI_length]
 have:T.length*700000000≤1000*700000000:=Nat.mul_le_mul_right _ h.few
 omega
section
variable {w w':World}{nb bm:Nat}{c:Col}{i bt:Nat}{q:TreeB}{T:TreeP}
theorem conv_name (nm:List UInt8) (w:World):∃ (cp:Nat) (w':World),(convert 9 24 (.string (strOf nm))).run Tryz.prog w=.ok (.slice (some ⟨w.heap.size,0,none⟩) nm.length cp) w'∧nm.length≤cp∧New w w'∧Bs w' (fun b=>w.heap.size≤b) (some ⟨w.heap.size,0,none⟩) nm.length nm:=by
 have h:=run_bytes_of_string (P:=Tryz.prog) w 9 24 5 (strOf nm) Tryz.underlying9 Tryz.underlying24 Tryz.underlying5
 have hs:(strOf nm).size=nm.length:=by show nm.toArray.size=_;rw [List.size_toArray]
 rw [hs] at h
 refine ⟨_,_,h,?_,(New.refl w).drew.alloc _,by rw [List.length_map,Nat.mul_one],fun hn=>⟨w.heap.size,0,rfl,Nat.le_refl _,?_,fun k u hu=>?_⟩⟩
 ·exact grownCap_ge _ _ _ _
 ·show w.heap.size<(w.heap.push _).size;simp
 ·have hk:k<nm.length:=by have:=(List.getElem?_eq_some_iff.1 hu).1;rwa [List.length_map] at this
  have hd:(strOf nm).data=nm.toArray:=rfl
  have h3:=bytesRow_at (strOf nm) (grownCap w nm.length 0 5) k (by rw [hd,List.size_toArray];exact hk)
  have h2:(w.drew.alloc (.cells (bytesRow (strOf nm) (grownCap w nm.length 0 5)) 5 ((bytesRow (strOf nm) (grownCap w nm.length 0 5)).size,(bytesRow (strOf nm) (grownCap w nm.length 0 5)).size+1))).heap[w.heap.size]?=some (.cells (bytesRow (strOf nm) (grownCap w nm.length 0 5)) 5 ((bytesRow (strOf nm) (grownCap w nm.length 0 5)).size,(bytesRow (strOf nm) (grownCap w nm.length 0 5)).size+1)):=by
   show (w.heap.push _)[w.heap.size]?=_
   simp
  rw [Nat.zero_add,cell_of_row _ _ _ _ _ _ h2,h3,← hu,List.getElem?_map,List.getElem?_eq_getElem hk]
  rfl
theorem sortedN_nil (B1:Nat) (h1:w.heap[B1]?=some (.cells #[.map none] 219 (0,0))):
  Calls Tryz.prog 157 #[.func (.func 219) #[] #[.pointer (some ⟨B1,0,none⟩)]] w fun e w'=>e=.returned (.slice none 0 0)∧New w w':=by
 have hseq:SeqGives Fence.wide 2 Tryz.prog 219 #[.pointer (some ⟨B1,0,none⟩)] encStr (fun ss:List (List UInt8)=>ss=[]) 0 w :=
  AnyZ.keys_gives_nil (ρ:=keysN_ren) { keysN with } Fence.wide _ trivial rfl B1 w (Array.getElem?_eq_some_iff.1 h1).1 (cellOf h1 (k:=0) rfl)
 have cS:=AnyZ.sorted_in sortedN Fence.wide 5 trivial trivial trivial trivial rfl (by omega) (sortsN _) (enters_of Tryz.func218 (by kernel_rfl) rfl) 219 #[.pointer (some ⟨B1,0,none⟩)] trivial (enters_of Tryz.func219 (by kernel_rfl) rfl) _ 0 (Nat.zero_le _) (by omega) _ hseq
 change CallsIn _ _ Tryz.prog 157 _ _ _ at cS
 refine (callsIn_wide.1 cS).mono ?_
 rintro e w' ⟨v,ss,rfl,hp,hrow,hn,hb⟩
 exact ⟨by rw [hn.2 hp],new_of_below hb⟩
theorem keysNil_any (w:World):Calls Tryz.prog 158 #[.map none] w fun e w'=>e=.returned (.func (.func 219) #[] #[.pointer (some ⟨w.heap.size,0,none⟩)])∧w'=w.alloc (.cells #[.map none] 219):=by
 go_enter Tryz.func158,Tryz.ntmps158
 go_wp2_with fail
 go_ret
 exact ⟨rfl,rfl⟩
end
end Go.Proofs.YtdodbdednpnddaaGreatDoor
namespace Go.Proofs.YtdodbdednpnddaaGreatDoor
def LinksFew (T:TreeP):Prop:=∀ k it,getK T k=some it→it.n.links≤64
theorem ents_le {T:TreeP}:∀ (ks:List Int),(∀ e∈entsT T,e.2.2∈ks)→(∀ k∈ks,countT T k≤64)→(entsT T).length≤ks.length*64:=by
 unfold countT
 generalize entsT T=l
 intro ks
 induction ks generalizing l with
 | nil =>
  intro h _
  cases l with
  | nil=>simp
  | cons e r=>exact absurd (h e (List.mem_cons_self ..)) (by simp)
 | cons k r ih =>
  intro h hc
  have h1:=ih (l.filter fun e => !decide (e.2.2=k)) (fun e he=>by
   obtain ⟨h2,h3⟩:=List.mem_filter.1 he
   rcases List.mem_cons.1 (h e h2) with h4|h4
   ·simp [h4] at h3
   ·exact h4) (fun j hj=>Nat.le_trans (by
    rw [List.countP_filter]
    exact List.countP_mono_left fun x _ hx=>by simp at hx ⊢;exact hx.1) (hc j (List.mem_cons_of_mem _ hj)))
  have h2:=hc k (List.mem_cons_self ..)
  have h3:l.length=(l.countP fun e=>decide (e.2.2=k))+(l.filter fun e => !decide (e.2.2=k)).length:=by
   rw [← List.countP_eq_length_filter]
   have:=List.length_eq_countP_add_countP (fun e:Int×List UInt8×Int=>decide (e.2.2=k)) (l:=l)
   rw [this]
   congr 1
   exact List.countP_congr fun x _=>by simp
  rw [List.length_cons]
  omega
theorem names_le {T:TreeP}(h:TreeInv T) (hf:LinksFew T){p:Int×ItemP}(hp:p∈T):p.2.names.length≤4096:=by
 have h1:p.2.names.length≤(entsT T).length:=by
  unfold entsT
  obtain ⟨a,b,rfl⟩:=List.append_of_mem hp
  rw [List.flatMap_append,List.flatMap_cons,List.length_append,List.length_append,List.length_map]
  omega
 have h2:=ents_le (T:=T) (T.map (·.1)) (fun e he=>by
  unfold entsT at he
  obtain ⟨q,hq,he⟩:=List.mem_flatMap.1 he
  obtain ⟨x,hx,rfl⟩:=List.mem_map.1 he
  have g1:=h.rising.get (k:=q.1) (x:=q.2) hq
  have g2:=(h.names q.1 q.2 g1).get (k:=x.1) (x:=x.2) hx
  have:=(h.leads q.1 q.2 x.1 x.2 g1 g2).2.2
  obtain ⟨y,hy⟩:=Option.isSome_iff_exists.1 this
  exact List.mem_map.2 ⟨_,getK_mem hy,rfl⟩) (fun k hk=>by
  obtain ⟨q,hq,rfl⟩:=List.mem_map.1 hk
  have g1:=h.rising.get (k:=q.1) (x:=q.2) hq
  by_cases e:q.1=0
  ·have:countT T q.1=0:=by
    unfold countT
    rw [List.countP_eq_zero]
    intro x hx hz
    unfold entsT at hx
    obtain ⟨q',hq',hx⟩:=List.mem_flatMap.1 hx
    obtain ⟨y,hy,rfl⟩:=List.mem_map.1 hx
    have g1':=h.rising.get (k:=q'.1) (x:=q'.2) hq'
    have g2':=(h.names q'.1 q'.2 g1').get (k:=y.1) (x:=y.2) hy
    have:=(h.leads q'.1 q'.2 y.1 y.2 g1' g2').1
    simp at hz
    omega
   omega
  ·have h3:=h.count q.1 q.2 g1 e
   have h4:=hf q.1 q.2 g1
   omega)
 rw [List.length_map] at h2
 have:=h.few
 omega
theorem planRight_bounds {s p g:Int}(h:planRight s p g=true):64≤s∧s≤4096∧16≤p∧p≤1024∧0≤g∧g≤512∧1+2*p+8*g≤s:=by
 have:=planRight_iff.1 h
 omega
theorem point21_any {s p g i:Int}(h:planRight s p g=true) (hi:i=0∨i=1) (w:World):
  Calls Tryz.prog 115 #[.agg #[.int .i64 s,.int .i64 p,.int .i64 g],.int .i64 i] w fun e w'=>e=.returned (.tuple #[.int .i64 (1+i*p),.int .i64 0])∧New w w':=by
 have hb:=heap_alloc_new w (.cells #[.int .i64 s,.int .i64 p,.int .i64 g] 33)
 have kA:New w (w.alloc (.cells #[.int .i64 s,.int .i64 p,.int .i64 g] 33)):=(New.refl w).alloc _
 obtain ⟨hs0,hs1,hp0,hp1,_,_,_⟩:=planRight_bounds h
 have HR:=fun W=>Lib.hid (right21_any s p g (by omega) W)
 rw [h] at HR
 have d0:decide (i<0)=false:=decide_eq_false (by omega)
 have d1:decide (2≤i)=false:=decide_eq_false (by omega)
 have e0:0≤i*p∧i*p≤1024:=by rcases hi with rfl|rfl <;> omega
 have q0:IntKind.i64.wrap (i*p)=i*p:=IntWalk.i64_in _ (by omega)
 have q1:IntKind.i64.wrap (1+i*p)=1+i*p:=IntWalk.i64_in _ (by omega)
 clear h hi hs0 hs1 hp0 hp1
 go_enter Tryz.func115,Tryz.ntmps115
 go_upto_region 1 with fail
 generalize w.alloc _=w1 at *
 obtain ⟨y0,y1,y2⟩:=cs3 hb
 have HBB:=Lib.hid hb
 clear hb
 go_wp2_with fail
 refine (HR _).out.mono ?_
 rintro e w' ⟨rfl,k1⟩
 have c1:=cellOf (k1.blockAt HBB.out trivial) (k:=1) rfl
 have HK:=Lib.hid (kA.new k1)
 clear k1 kA HR
 go_wp2_with fail
 refine bodyPost_ret (v:=.tuple #[.int .i64 (1+i*p),.int .i64 0]) (by simp [results,Tryz.results115,go_sem]) rfl ?_
 exact ⟨rfl,HK.out⟩
theorem proom_any {s p g:Int}(h:planRight s p g=true) (w:World):
  Calls Tryz.prog 149 #[.agg #[.int .i64 s,.int .i64 p,.int .i64 g]] w fun e w'=>e=.returned (.int .i64 (128*p-94))∧New w w':=by
 have hb:=heap_alloc_new w (.cells #[.int .i64 s,.int .i64 p,.int .i64 g] 33)
 have kA:New w (w.alloc (.cells #[.int .i64 s,.int .i64 p,.int .i64 g] 33)):=(New.refl w).alloc _
 obtain ⟨hs0,hs1,hp0,hp1,_,_,_⟩:=planRight_bounds h
 have HR:=fun W=>Lib.hid (right21_any s p g (by omega) W)
 rw [h] at HR
 have q0:IntKind.i64.wrap (128*p)=128*p:=IntWalk.i64_in _ (by omega)
 have q1:IntKind.i64.wrap (128*p-94)=128*p-94:=IntWalk.i64_in _ (by omega)
 have q2:0≤128*p-94:=by omega
 clear h hs0 hs1 hp1
 go_enter Tryz.func149,Tryz.ntmps149
 go_upto_region 1 with fail
 generalize w.alloc _=w1 at *
 obtain ⟨y0,y1,y2⟩:=cs3 hb
 have HBB:=Lib.hid hb
 clear hb
 go_wp2_with fail
 refine (HR _).out.mono ?_
 rintro e w' ⟨rfl,k1⟩
 have c1:=cellOf (k1.blockAt HBB.out trivial) (k:=1) rfl
 have HK:=Lib.hid (kA.new k1)
 clear k1 kA HR
 go_wp2_with fail
 go_ret
 exact ⟨by simp [Int.max_eq_right q2],HK.out⟩
structure MarkP where
 gen:Int
 seq:Int
 segs:Int
 head:List UInt8
 data:List UInt8
structure MarkOk (p g:Int) (m:MarkP):Prop where
 gen:1≤m.gen∧m.gen≤1099511627776
 seq:0≤m.seq∧m.seq≤1099511627776
 segs:0≤m.segs∧m.segs≤g
 head:m.head.length=32
theorem pright_any {s p g:Int}{m:MarkP}(hm:MarkOk p g m) (A B:Option Addr) (n c n2 c2:Nat) (hn:n=32) (w:World):
  Calls Tryz.prog 148 #[.agg #[.int .i64 s,.int .i64 p,.int .i64 g],.agg #[.int .u64 m.gen,.int .u64 m.seq,.int .i64 m.segs,.slice A n c,.slice B n2 c2]] w fun e w'=>e=.returned (.bool true)∧New w w':=by
 obtain ⟨⟨i0,i1⟩,⟨l0,l1⟩,⟨t0,t1⟩,_⟩:=hm
 obtain ⟨ge,se,sg,hd,da⟩:=m
 dsimp only at *
 subst hn
 have d1:decide (1≤ge)=true:=decide_eq_true i0
 have d2:decide (ge≤1099511627776)=true:=decide_eq_true i1
 have d3:decide (se≤1099511627776)=true:=decide_eq_true l1
 have d4:decide (0≤sg)=true:=decide_eq_true t0
 have d5:decide (sg≤g)=true:=decide_eq_true t1
 clear i0 i1 l0 l1 t0 t1
 go_enter Tryz.func148,Tryz.ntmps148
 go_wp2_with fail
 go_ret
 exact ⟨by simp [*],((New.refl w).alloc _).alloc _⟩
end Go.Proofs.YtdodbdednpnddaaGreatDoor
namespace Go.Proofs.YtdodbdednpnddaaGreatDoor
open Go.RowKit Go.Shelf
open Go.Maps (Keyed)
attribute [local go_sem] Oper.semAt_some
def dirtPre (M:Dirt) (first:Nat) (b:List UInt8) {m:Nat} (pre:List { x:Nat // x<m }):Dirt:=fun k=>if (first:Int)≤k∧k<first+pre.length then (pre[(k-first).toNat]?).map fun x=>chunkOf b x.1 else M k
def dirtRows (M:Dirt) (first m:Nat) (b:List UInt8):Dirt:=fun k=>if (first:Int)≤k∧k<first+m then some (chunkOf b (k-first).toNat) else M k
theorem dirtPre_nil (M:Dirt) (first:Nat) (b:List UInt8) (m:Nat):dirtPre M first b (m:=m) []=M:=by
 funext k
 unfold dirtPre
 rw [if_neg (by simp)]
theorem dirtPre_snoc (M:Dirt) (first:Nat) (b:List UInt8){m:Nat}(pre:List { x:Nat // x<m }) (x:{ x:Nat // x<m }):dirtPre M first b (pre++[x])=(dirtPre M first b pre).put ((first+pre.length:Nat):Int) (chunkOf b x.1):=by
 funext k
 unfold dirtPre Dirt.put
 by_cases e:k=((first+pre.length:Nat):Int)
 ·rw [if_pos e,if_pos (by rw [List.length_append,List.length_singleton];omega),show (k-first).toNat=pre.length from by omega,List.getElem?_append_right (Nat.le_refl _)]
  simp
 ·rw [if_neg e]
  dsimp only
  by_cases h:(first:Int)≤k∧k<first+pre.length
  ·rw [if_pos h,if_pos (by rw [List.length_append,List.length_singleton];omega),List.getElem?_append_left (by omega)]
  ·rw [if_neg h,if_neg (by rw [List.length_append,List.length_singleton];omega)]
theorem uptoN_get {m:Nat}:∀ {k:Nat},k≤m→∀ j (_h:j<k) (h2:j<m),(uptoN m k)[j]?=some ⟨j,h2⟩
 | 0,_,j,h,_=>absurd h (Nat.not_lt_zero j)
 | k+1,hk,j,h,h2=>by
  have hl:=uptoN_length (m:=m) (k:=k) (by omega)
  rw [uptoN_succ hk]
  by_cases e:j=k
  ·subst e
   rw [List.getElem?_append_right (by omega),hl,Nat.sub_self]
   rfl
  ·rw [List.getElem?_append_left (by omega)]
   exact uptoN_get (by omega) j (by omega) h2
theorem dirtPre_all (M:Dirt) (first m:Nat) (b:List UInt8):dirtPre M first b (uptoN m m)=dirtRows M first m b:=by
 funext k
 unfold dirtPre dirtRows
 rw [uptoN_length (Nat.le_refl _)]
 by_cases h:(first:Int)≤k∧k<first+m
 ·rw [if_pos h,if_pos h,uptoN_get (Nat.le_refl _) _ (by omega) (by omega)]
  rfl
 ·rw [if_neg h,if_neg h]
theorem DiskAt.swap2 {w:World}{D F:Nat→Prop}{q:DiskB}{S:List UInt8}{M:Dirt}{n:Nat}{wr:Int}(h:DiskAt w D q S M n wr) (hI:∀ b,b<w.heap.size→D b→F b) (hF:∀ b,b=q.bd∨b=q.bs∨b=q.bm→¬ F b):DiskAt w F q S M n wr :=
 ⟨h.disk,h.safe,h.dirty.imp hI,h.size,hF⟩
theorem mlay_any {w:World}{D:Nat→Prop}{q:DiskB}{S:List UInt8}{M:Dirt}{n:Nat}{wr:Int}{k first m:Nat}(h:DiskAt w D q S M n wr) (hk:S.length=k*128) (hD:∀ b,w.heap.size≤b→D b) (hfit:first+m≤k) (hn:n+m<1000000) (hm0:0<m) (hm1:m≤1000)
  {D2:Nat→Prop} (A:Option Addr) (cap:Nat) (b:List UInt8) (hB:Bs w D2 A (m*128) b) (hcap:m*128≤cap) (hcm:cap≤9223372036854775807) (hD2:∀ j,D2 j→j≠q.bd∧j≠q.bm):
  Calls Tryz.prog 90 #[.pointer (some ⟨q.bd,0,none⟩),.int .i64 first,.slice A (m*128) cap] w fun e w'=>e=.returned (.tuple #[])∧Keep (fun j=>j≠q.bd∧j≠q.bm) w w' ∧
   ∃ wr',DiskAt w' D q S (dirtRows M first m b) (n+m) wr':=by
 have hbl:=hB.len
 have hk4:k≤4096:=by obtain ⟨k',e,-,h2⟩:=h.size;omega
 obtain ⟨bb,off,hae,hb2,hblt,hbc⟩:=hB.2 (by omega)
 subst hae
 have HH:=Lib.hid (And.intro h (And.intro hk (And.intro hD (And.intro hB (And.intro hD2 (And.intro hbl (And.intro hfit (And.intro hn hk4))))))))
 have x0:=((New.refl (w.alloc (.cells #[.pointer (some ⟨q.bd,0,none⟩)] 102))).alloc (.cells #[.int .i64 first] 3)).blockAt (heap_alloc_new w (.cells #[.pointer (some ⟨q.bd,0,none⟩)] 102)) trivial
 have xF:=heap_alloc_new (w.alloc (.cells #[.pointer (some ⟨q.bd,0,none⟩)] 102)) (.cells #[.int .i64 first] 3)
 rw [show (w.alloc (.cells #[.pointer (some ⟨q.bd,0,none⟩)] 102)).heap.size=w.heap.size+1 from by simp] at xF
 have k0:New w ((w.alloc (.cells #[.pointer (some ⟨q.bd,0,none⟩)] 102)).alloc (.cells #[.int .i64 first] 3)):=((New.refl w).alloc _).alloc _
 have zF:((w.alloc (.cells #[.pointer (some ⟨q.bd,0,none⟩)] 102)).alloc (.cells #[.int .i64 first] 3)).heap.size=w.heap.size+1+1:=by simp
 clear h hk hD hB hD2 hbl hfit hn hk4 hbc hb2
 refine (callsIn_wide (n:=6)).1 ?_
 refine callsIn_of_wp_marks Tryz.func90 rfl trivial ?_ rfl
 simp only [Tryz.ntmps90,List.size_toArray,List.length_cons,List.length_nil,Nat.reduceAdd,Nat.reduceSub,Array.replicate_succ,Array.replicate_zero,List.push_toArray,List.append_toArray,List.nil_append,List.cons_append]
 gi_wp2
 refine ⟨trivial,(callsIn_wide.2 (chunk_any _ _ _ _)).mono ?_⟩
 rintro e w2 ⟨rfl,hw2⟩
 obtain ⟨gF,hgF⟩:∃ g,g=w.heap.size+1:=⟨_,rfl⟩
 rw [← hgF] at xF zF
 generalize (w.alloc (.cells #[.pointer (some ⟨q.bd,0,none⟩)] 102)).alloc (.cells #[.int .i64 first] 3)=wF at *
 have kC:New wF w2:=by rw [hw2];exact ((New.refl wF).alloc _).alloc _
 have y1:w2.heap[gF+1]?=some (.cells #[.slice (some ⟨bb,off,none⟩) (m*128) cap] 24 (0,0)):=by rw [hw2,← zF];exact (Keep.alloc (New.refl _) _).blockAt (heap_alloc_new wF _) trivial
 have y2:w2.heap[gF+1+1]?=some (.cells #[.int .i64 128] 3 (0,0)):=by rw [hw2,← zF,show wF.heap.size+1=(wF.alloc (.cells #[.slice (some ⟨bb,off,none⟩) (m*128) cap] 24)).heap.size from by simp];exact heap_alloc_new _ _
 have z2:w2.heap.size=gF+1+1+1:=by rw [hw2];simp [zF]
 have xF2:=kC.blockAt xF trivial
 have x2:=kC.blockAt x0 trivial
 have K2:=k0.new kC
 rw [zF,← hgF]
 have HgF:=Lib.hid hgF
 have Hz2:=Lib.hid z2
 clear hw2 kC k0 xF x0 zF hgF z2
 gi_wp2
 have h1c:w2.cell? ⟨gF+1,0,none⟩=some (.slice (some ⟨bb,off,none⟩) (m*128) cap):=cellOf y1 rfl
 have h2c:w2.cell? ⟨gF+1+1,0,none⟩=some (.int .i64 128):=cellOf y2 rfl
 have hseq:SeqStopsK Fence.wide (6-1) Tryz.prog 145 #[.pointer (some ⟨gF+1,0,none⟩),.pointer (some ⟨gF+1+1,0,none⟩)] (fun x:{ x:Nat // x<m }=>#[Value.slice (some ⟨bb,off+x.1*128,none⟩) 128 128])
   (fun X Y=>Keep (fun j=>j=gF+1∨j=gF+1+1) X Y) (fun xs=>xs=uptoN m m) (fun _=>True) m w2:=fun l J Jx W hW hJ _ hY hJ0=>by
  have hk:Keep (fun j=>j=gF+1∨j=gF+1+1) w2 W:=(Keep.below hW).imp fun j hj _=>hj
  exact chunk1_in (6-1) (by decide) l (gF+1) (gF+1+1) bb off m cap hm1 hcap hcm J Jx _ hJ hY W (hk.cell_some h1c (.inl rfl)) (hk.cell_some h2c (.inr rfl)) hJ0
 obtain ⟨hDk,hk,hD,hB,hD2,hbl,hfit,hn,hk4⟩:=HH.out
 have hne:=hDk.ne
 have hlt:=hDk.lt
 have hout:∀ j,j=q.bd∨j=q.bs∨j=q.bm→¬ (D j∧j<w.heap.size∨w2.heap.size≤j):=fun j hj hd=>by
  have h1:=hlt j hj
  have h2:=K2.size
  rcases hd with ⟨hd,_⟩|hd
  ·exact hDk.out j hj hd
  ·omega
 have d2:=(hDk.swap2 (F:=fun j=>D j∧j<w.heap.size∨w2.heap.size≤j) (fun j hj hd=>.inl ⟨hd,hj⟩) hout).new K2
 rw [← dirtPre_nil M first b m] at d2
 have hzz:=K2.size
 have hB2:=(hB.imp (E:=fun j=>D2 j∧j<w.heap.size) fun j hj hd=>⟨hd,hj⟩).new K2
 refine wpIn_rangeFunc_ownG (α:={ x:Nat // x<m }) rfl (by decide) (gf:=145) (lb:=#[.pointer (some ⟨gF+1,0,none⟩),.pointer (some ⟨gF+1+1,0,none⟩)]) rfl trivial (enters_of Tryz.func145 (by kernel_rfl) rfl)
  hseq (fun h1 h2=>h1.trans h2) (fun W l o o' hl ho _ _=>⟨rfl,rfl,rfl,by simp,fun j _ hj=>World.putObj_heap_other (by have:=HgF.out;have:=Hz2.out;omega)⟩) (Below.refl _ _) (fun _=>rfl)
  (fun pre W=>(∃ wr',DiskAt W (fun j=>D j∧j<w.heap.size∨w2.heap.size≤j) q S (dirtPre M first b pre) (n+pre.length) wr')∧W.heap[gF]?=some (.cells #[.int .i64 ((first+pre.length:Nat):Int)] 3 (0,0))∧Keep (fun j=>j<w2.heap.size∧j≠q.bd∧j≠q.bm∧j≠gF) w2 W)
  (fun _ _ _=>False) ?hI (fun _ _ _ _ _ hs _ _=>hs) ⟨⟨_,d2⟩,xF2,Keep.refl _ _⟩
  (fun x=>{ tmps:=#[.pointer (some ⟨q.bd,0,none⟩),.int .i64 first,.slice (some ⟨bb,off,none⟩) (m*128) cap,.pointer (some ⟨w.heap.size,0,none⟩),.pointer (some ⟨gF,0,none⟩),undef,.slice (some ⟨bb,off+x.1*128,none⟩) 128 128,.slice (some ⟨bb,off,none⟩) (m*128) cap,.func (.func 145) #[] #[.pointer (some ⟨gF+1,0,none⟩),.pointer (some ⟨gF+1+1,0,none⟩)],.slice (some ⟨bb,off+x.1*128,none⟩) 128 128,undef,undef,undef,undef,undef,undef],defers:=[] }) ?assign ?body ?done ?stop
 case hI =>
  rintro pre A C row ⟨⟨wr',hd⟩,hf,hkk⟩ hg hr
  have hgF:=HgF.out
  have z2:=Hz2.out
  refine ⟨⟨wr',hd.other hg w2.heap.size (fun j hj=>Nat.lt_of_lt_of_le (hlt j hj) hzz) hr⟩,(hg.block gF (Array.getElem?_eq_some_iff.1 hf).1 (fun e=>by have:=(hr gF e.symm).1;omega)).trans hf,hkk.trans ⟨hg.os,hg.tape,hg.output,hg.size,fun j hjl hj=>hg.block j hjl (fun e=>by have:=(hr j e.symm).1;omega)⟩⟩
 case assign =>
  intro l x W K hK
  gi_wp2
  exact hK
 case body =>
  rintro l pre x W ⟨⟨wr',hd⟩,hf,hkk⟩ hpre
  have hgF:=HgF.out
  have z2:=Hz2.out
  have hx8:=x.2
  have c4:W.cell? ⟨w.heap.size,0,none⟩=some (.pointer (some ⟨q.bd,0,none⟩)):=cellOf ((hkk.block w.heap.size (by omega) ⟨by omega,fun e=>by have:=hlt q.bd (.inl rfl);omega,fun e=>by have:=hlt q.bm (.inr (.inr rfl));omega,by omega⟩).trans x2) rfl
  have c8:W.cell? ⟨gF,0,none⟩=some (.int .i64 ((first+pre.length:Nat):Int)):=cellOf hf rfl
  have hWs:=hkk.size
  have hBx:=(row_part hB2 (x:=x.1*128) (m:=128) (by omega)).keep hkk (fun j hj hd=>⟨hj,(hD2 j hd.1).1,(hD2 j hd.1).2,by omega⟩)
  have HW:=Lib.hid (dwrite_any hd hk (fun j hj=>.inr (by omega)) (by omega) (first+pre.length) (by omega) _ 128 _ hBx)
  have HR:=Lib.hid (And.intro hd (And.intro hf hkk))
  clear hBx hd hf hkk hgF z2
  obtain ⟨z,hz⟩:∃ z,z=first+pre.length:=⟨_,rfl⟩
  rw [← hz] at HW c8
  replace hz:=Lib.hid hz
  gi_wp2
  refine ⟨trivial,(CallsIn.inRound l (callsIn_wide.2 HW.out)).mono ?_⟩
  rintro e W1 ⟨rfl,hkW,wr2,hd2⟩
  obtain ⟨hd,hf,hkk⟩:=HR.out
  have hgF:=HgF.out
  have z2:=Hz2.out
  have hf1:=(hkW.block gF (Array.getElem?_eq_some_iff.1 hf).1 ⟨fun e=>by have:=hlt q.bd (.inl rfl);omega,fun e=>by have:=hlt q.bm (.inr (.inr rfl));omega⟩).trans hf
  rw [← hz.out] at hf1
  have c8:W1.cell? ⟨gF,0,none⟩=some (.int .i64 (z:Int)):=cellOf hf1 rfl
  have z8:=frozenOf hf1 0
  have HR2:=Lib.hid (And.intro hkW (And.intro hd2 hf1))
  have hzb:z≤5000:=by have:=hz.out;omega
  clear hkW hd2 hf1 hd hf hkk hgF z2
  gi_wp2
  have hgF:=HgF.out
  have z2:=Hz2.out
  obtain ⟨hd,hf,hkk⟩:=HR.out
  obtain ⟨hkW,hd2,hf1⟩:=HR2.out
  have hz0:=hz.out
  have hkS:Keep (fun j=>j≠gF) W1 (W1.setCell ⟨gF,0,none⟩ (.int .i64 ((z:Int)+1))):=(Keep.refl _ W1).setCell (fun hd=>absurd rfl hd) _
  have e1:=hlt q.bd (.inl rfl)
  have e2:=hlt q.bm (.inr (.inr rfl))
  have e3:=hlt q.bs (.inr (.inl rfl))
  have hkT:Keep (fun j=>j≠q.bd∧j≠q.bm∧j≠gF) W (W1.setCell ⟨gF,0,none⟩ (.int .i64 ((z:Int)+1))):=(hkW.imp (E:=fun j=>j≠q.bd∧j≠q.bm∧j≠gF) fun _ _ hj=>⟨hj.1,hj.2.1⟩).trans2 hkS fun _ _ hj=>hj.2.2
  refine ⟨⟨hkT.size,fun j o hj ho _=>(hkT.block j (Array.getElem?_eq_some_iff.1 ho).1 ⟨by omega,by omega,by omega⟩).trans ho⟩,hkT.imp (fun j _ hj=>by omega),⟨wr2,?_⟩,?_,?_⟩
  ·have hd3:=hd2.keep hkS (fun j hj=>by rcases hj with rfl|rfl|rfl <;> omega) (fun j hj hDj e=>by subst e;omega)
   rw [dirtPre_snoc,List.length_append,List.length_singleton,← hz0,← Nat.add_assoc];exact hd3
  ·have hv:((z:Int)+1)=((first+(pre++[x]).length:Nat):Int):=by rw [List.length_append,List.length_singleton];omega
   rw [setCell_block hf1 0,hv]
   rfl
  ·exact hkk.trans2 hkT fun j _ hj=>hj.2
 case done =>
  rintro Db xs W hDb rfl ⟨⟨wr',hd⟩,hf,hkk⟩ hKd
  rw [dirtPre_all,uptoN_length (Nat.le_refl _)] at hd
  have HR:=Lib.hid (And.intro hkk (And.intro hKd hd))
  clear hd hf hkk hKd
  gi_wp2
  obtain ⟨hkk,hKd,hd1⟩:=HR.out
  have hgF:=HgF.out
  have z2:=Hz2.out
  have e1:=hlt q.bd (.inl rfl)
  have e2:=hlt q.bm (.inr (.inr rfl))
  have e3:=hlt q.bs (.inr (.inl rfl))
  refine ⟨by simp,.inl ⟨_,_,rfl,run_takeDeferred hKd,?_⟩⟩
  have hg:=grownBy_putObj' W Db (.deferred none)
  have q1:Keep (fun j=>j≠q.bd∧j≠q.bm) w W:=(Keep.of_new K2).trans2 hkk (fun j hj hd=>⟨by omega,hd.1,hd.2,by omega⟩)
  refine ⟨_,results_none rfl _ _ _,rfl,q1.grown hg (fun j e hd=>by injection e with e;omega),wr',(hd1.other hg w2.heap.size (fun j hj=>Nat.lt_of_lt_of_le (hlt j hj) hzz) (fun r e=>by injection e with e;subst e;exact ⟨hDb,_,hKd,rfl⟩)).swap2 (fun j _ hj=>?_) hDk.out⟩
  rcases hj with hj|hj
  ·exact hj.1
  ·exact hD j (by omega)
 case stop =>
  rintro D c pre W _ _ h _
  exact h.elim
end Go.Proofs.YtdodbdednpnddaaGreatDoor
namespace Go.Proofs.YtdodbdednpnddaaGreatDoor
open Go.RowKit
theorem be4_two (c:BitVec 32):beI 2 (wv (c >>> 16))++beI 2 (wv c)=be4 c:=by
 have h:∀ (x y:BitVec 32) (z:Int),z=wv y→UInt8.ofNat (z%256).toNat=lowb y:=fun _ y z h=>by
  subst h
  unfold lowb wv
  congr 1
 have h2:c >>> 16 >>> 8=c >>> 24:=by rw [← BitVec.shiftRight_add]
 unfold be4
 simp only [beI,List.range_succ,List.range_zero,List.nil_append,List.map_cons,List.map_nil,List.cons_append]
 rw [h c (c >>> 24) _ (by rw [← h2];exact wv_div (c >>> 16) 8),h c (c >>> 16) _ (by simp),h c (c >>> 8) (wv c/2^(8*(2-1-0))) (wv_div c 8),h c c (wv c/2^(8*(2-1-1))) (by simp)]
theorem worm_conv (w:World):∃ w0,(convert 24 24 (.slice (some ⟨w.heap.size,0,none⟩) 4 4)).run Tryz.prog (w.alloc (.cells #[.int .u8 87,.int .u8 79,.int .u8 82,.int .u8 77] 5))=.ok (.slice (some ⟨w.heap.size,0,none⟩) 4 4) w0∧Bs w0 (fun b=>w.heap.size≤b) (some ⟨w.heap.size,0,none⟩) 4 [87,79,82,77]∧New w w0:=by
 obtain ⟨w0,e0,k0,l0⟩:=conv_mark 4 4 (heap_alloc_new w (.cells #[.int .u8 87,.int .u8 79,.int .u8 82,.int .u8 77] 5))
 have b0:Bs (w.alloc (.cells #[.int .u8 87,.int .u8 79,.int .u8 82,.int .u8 77] 5)) (fun g=>w.heap.size≤g) (some ⟨w.heap.size,0,none⟩) 4 [87,79,82,77]:=bs_b4 w 87 79 82 77
 have b1:Bs w0 (fun b=>w.heap.size≤b) (some ⟨w.heap.size,0,none⟩) 4 [87,79,82,77]:=by
  obtain ⟨h1,h2⟩:=Row.like b0 l0
  refine ⟨h1,fun hn=>?_⟩
  obtain ⟨b,off,e,_,hl,hc⟩:=h2 hn
  injection e with e
  injection e with e e'
  subst e e'
  exact ⟨_,_,rfl,Nat.le_refl _,hl,hc⟩
 have n00:New w w0:=(Keep.trans2 (D:=fun b=>b<w.heap.size) (Keep.of_new ((New.refl w).alloc (.cells #[.int .u8 87,.int .u8 79,.int .u8 82,.int .u8 77] 5))) k0 (fun i _ hi e=>by subst e;exact absurd hi (Nat.lt_irrefl _))).toNew (fun i hi=>hi)
 exact ⟨w0,e0,b1,n00⟩
def sup24 (n:Int) (id:List UInt8):List UInt8:=[87,79,82,77]++beI 2 1++beI 2 n++id
def superBytes (n:Int) (id:List UInt8):List UInt8:=sup24 n id++be4 (crcSum (sup24 n id))++List.replicate 100 0
theorem sup24_length {n:Int}{id:List UInt8}(h:id.length=16):(sup24 n id).length=24:=by unfold sup24;simp [beI_length,h]
theorem superBytes_length {n:Int}{id:List UInt8}(h:id.length=16):(superBytes n id).length=128:=by unfold superBytes;rw [List.length_append,List.length_append,sup24_length h,List.length_replicate];rfl
theorem super_bad {n:Int}{A:Option Addr}{m c:Nat}(hn:n<64∨4096<n∨m≠16) (hr : -9223372036854775808≤n∧n≤9223372036854775807) (w:World):
  Calls Tryz.prog 87 #[.int .i64 n,.slice A m c] w fun e w'=>e=.returned (.tuple #[.slice none 0 0,.int .i64 1])∧New w w':=by
 have HO:=Lib.hid (of21_any n hr w)
 by_cases h1:64≤n∧n≤4096
 ·have hm:m≠16:=by omega
  have hd:((m:Int)==16)=false:=by simp;omega
  have e:=planOf_mid h1.1 h1.2
  rw [e] at HO
  dsimp only at HO
  generalize n/4=p at *
  generalize (n-1-2*p)/8=g at *
  clear e h1 hn
  go_enter Tryz.func87,Tryz.ntmps87
  go_wp2_with fail
  refine HO.out.mono ?_
  rintro e w' ⟨rfl,k1⟩
  go_wp2_with fail
  refine bodyPost_ret (v:=.tuple #[.slice none 0 0,.int .i64 1]) (by simp [results,Tryz.results87,go_sem]) rfl ?_
  exact ⟨rfl,k1.alloc _⟩
 ·have e:planOf n=(0,0,0,1):=by unfold planOf;rw [if_pos (by omega)]
  rw [e] at HO
  dsimp only at HO
  clear e h1 hn
  go_enter Tryz.func87,Tryz.ntmps87
  go_wp2_with fail
  refine HO.out.mono ?_
  rintro e w' ⟨rfl,k1⟩
  go_wp2_with fail
  refine bodyPost_ret (v:=.tuple #[.slice none 0 0,.int .i64 1]) (by simp [results,Tryz.results87,go_sem]) rfl ?_
  exact ⟨rfl,k1.alloc _⟩
theorem super_any {n:Int}(h0:64≤n) (h1:n≤4096){D:Nat→Prop}{A:Option Addr}{c:Nat}{id:List UInt8}{w:World}(hB:Bs w D A 16 id):
  Calls Tryz.prog 87 #[.int .i64 n,.slice A 16 c] w fun e w'=>(∃ A' c',e=.returned (.tuple #[.slice A' 128 c',.int .i64 0])∧OwnB w' w.heap.size 5 A' 128 c' (superBytes n id))∧New w w':=by
 have HO:=Lib.hid (of21_any n (by omega) w)
 rw [planOf_mid h0 h1] at HO
 dsimp only at HO
 generalize n/4=p at *
 generalize (n-1-2*p)/8=g at *
 have hil:=hB.len
 have HBB:=Lib.hid hB
 clear hB h0 h1
 go_enter Tryz.func87,Tryz.ntmps87
 go_wp2_with fail
 refine HO.out.mono ?_
 rintro e w1 ⟨rfl,k1⟩
 go_upto_region 2 with fail
 have k2:=k1.alloc (.cells #[.int .i64 n,.int .i64 p,.int .i64 g] 33)
 generalize w1.alloc (.cells #[.int .i64 n,.int .i64 p,.int .i64 g] 33)=w2 at *
 have HK2:=Lib.hid k2
 clear k1 k2 HO
 go_wp2_with fail
 refine (newWriter_any w2).mono ?_
 rintro e w3 ⟨⟨q,rfl,hW3⟩,k3⟩
 have HB:=Lib.hid (Keep.of_new (D:=fun b=>b<w2.heap.size) k3)
 have HLT:=Lib.hid HK2.out.size
 have HW:=Lib.hid hW3
 clear k3 hW3
 go_upto_region 5 with fail
 obtain ⟨w3a,e0,hlit,n00⟩:=worm_conv w3
 have HWa:=Lib.hid (HW.out.keep n00 fun _ _=>trivial)
 have HBa:=Lib.hid (HB.out.new n00)
 clear HW HB n00
 go_wp2_with fail
 refine (raw_any _ _ _ _ 4 4 _ _ _ HWa.out hlit (by decide)).mono ?_
 rintro e w4 ⟨rfl,hW,hk⟩
 have HB:=Lib.hid (HBa.out.trans hk)
 have HW:=Lib.hid hW
 clear hW hk hlit HWa HBa
 go_wp2_with fail
 refine (wshort_any _ _ _ 1 w4 HW.out (by decide)).mono ?_
 rintro e w5 ⟨rfl,hW,hk⟩
 replace HB:=Lib.hid (HB.out.trans hk)
 replace HW:=Lib.hid hW
 clear hW hk
 go_wp2_with fail
 refine (wshort_any _ _ _ n w5 HW.out (by simp [beI_length])).mono ?_
 rintro e w6 ⟨rfl,hW,hk⟩
 replace HB:=Lib.hid (HB.out.trans hk)
 replace HW:=Lib.hid hW
 clear hW hk
 go_wp2_with fail
 refine (raw_any _ _ _ A 16 c _ id w6 HW.out (((HBB.out.new HK2.out).imp (E:=fun b=>b<w2.heap.size) fun b hb _=>hb).keep HB.out fun b _ hb=>hb) (by simp [beI_length])).mono ?_
 rintro e w7 ⟨rfl,hW,hk⟩
 replace HB:=Lib.hid (HB.out.trans hk)
 have hsup:[]++[87,79,82,77]++beI 2 1++beI 2 n++id=sup24 n id:=by unfold sup24;simp
 rw [hsup] at hW
 have hsl:=sup24_length (n:=n) hil
 have HS:Hid (superBytes n id=sup24 n id++be4 (crcSum (sup24 n id))++List.replicate 100 0):=Lib.hid rfl
 generalize hbs:sup24 n id=bs at hW hsl HS
 have HBS:=Lib.hid hbs
 replace HW:=Lib.hid hW
 clear hW hk hsup hbs
 go_wp2_with fail
 refine (done_any _ _ _ w7 HW.out (by rw [hsl];decide)).mono ?_
 rintro e w8 ⟨⟨A8,c8,rfl,o8⟩,k8⟩
 replace HB:=Lib.hid (HB.out.new k8)
 replace HW:=Lib.hid (HW.out.keep k8 fun _ _=>trivial)
 rw [hsl] at o8
 have O8:=Lib.hid o8
 clear k8 o8
 rw [hsl]
 go_wp2_with fail
 refine (crc_sum _ A8 24 c8 bs w8 (Row.of_own O8.out) (by decide)).mono ?_
 rintro e w9 ⟨rfl,rfl⟩
 generalize crcSum bs=cs at *
 have q1:IntKind.i64.wrap (wv (cs >>> 16))=wv (cs >>> 16):=IntWalk.i64_in _ (by have:=wv_bd (cs >>> 16);omega)
 have q2:IntKind.i64.wrap (wv cs)=wv cs:=IntWalk.i64_in _ (by have:=wv_bd cs;omega)
 clear O8
 go_wp2_with fail
 refine (wshort_any _ _ _ (wv (cs >>> 16)) w8 HW.out (by rw [hsl];decide)).mono ?_
 rintro e w9 ⟨rfl,hW,hk⟩
 replace HB:=Lib.hid (HB.out.trans hk)
 replace HW:=Lib.hid hW
 clear hW hk
 go_wp2_with fail
 refine (wshort_any _ _ _ (wv cs) w9 HW.out (by rw [List.length_append,hsl,beI_length];decide)).mono ?_
 rintro e w10 ⟨rfl,hW,hk⟩
 replace HB:=Lib.hid (HB.out.trans hk)
 rw [List.append_assoc,be4_two] at hW
 have hsl2:(bs++be4 cs).length=28:=by rw [List.length_append,hsl];rfl
 generalize hbs:bs++be4 cs=bs2 at hW hsl2
 have HBS2:=Lib.hid hbs
 replace HW:=Lib.hid hW
 clear hW hk hbs q1 q2
 go_wp2_with fail
 refine (done_any _ _ _ w10 HW.out (by rw [hsl2];decide)).mono ?_
 rintro e w11 ⟨⟨A11,c11,rfl,o11⟩,k11⟩
 replace HB:=Lib.hid (HB.out.new k11)
 replace HW:=Lib.hid (HW.out.keep k11 fun _ _=>trivial)
 clear k11 o11
 rw [hsl2]
 obtain ⟨Zc,hZc⟩:∃ Z,Z=((List.replicate 100 (0:UInt8)).map byteVal).toArray:=⟨_,rfl⟩
 have hmk:∀ W,(Instr.makeSlice 24 (.int .i64 100) (.int .i64 100)).run Tryz.prog W=.ok (.slice (some ⟨W.heap.size,0,none⟩) 100 100) (W.alloc (.cells Zc 5)):=fun W=>by rw [hZc];exact make_noughts 100 (by decide) W
 have HZC:Hid (Zc.toList=(List.replicate 100 (0:UInt8)).map byteVal∧Zc.size=100):=Lib.hid ⟨by rw [hZc],by rw [hZc];rfl⟩
 clear hZc
 go_wp2_with fail
 have hz:=Row.made w11 5 Zc 100 1 (by rw [HZC.out.2])
 rw [HZC.out.1] at hz
 replace HB:=Lib.hid (HB.out.new ((New.refl w11).alloc (.cells Zc 5)))
 replace HW:=Lib.hid (HW.out.keep ((New.refl w11).alloc (.cells Zc 5)) fun _ _=>trivial)
 refine (raw_any _ _ _ _ 100 100 _ _ _ HW.out hz (by rw [hsl2];decide)).mono ?_
 rintro e w12 ⟨rfl,hW,hk⟩
 replace HB:=Lib.hid (HB.out.trans hk)
 rw [← HBS2.out,← HS.out] at hW
 replace HW:=Lib.hid hW
 have hsl3:=superBytes_length (n:=n) hil
 clear hW hk hz
 go_wp2_with fail
 refine (done_any _ _ _ w12 HW.out (by rw [hsl3];decide)).mono ?_
 rintro e w13 ⟨⟨A13,c13,rfl,o13⟩,k13⟩
 have HF:=Lib.hid (And.intro o13 k13)
 clear o13 k13
 rw [hsl3] at HF ⊢
 go_wp2_with fail
 refine bodyPost_ret (v:=.tuple #[.slice A13 128 c13,.int .i64 0]) (by simp [results,Tryz.results87,go_sem]) rfl ?_
 obtain ⟨ho,k13⟩:=HF.out
 exact ⟨⟨A13,c13,rfl,ownsRow_base_a ho (by have:=HB.out.size;have:=HLT.out;omega)⟩,HK2.out.new ((HB.out.new k13).toNew fun b hb=>hb)⟩
def pointHead (m:MarkP):List UInt8:=beI 8 m.gen++beI 8 m.seq++beI 2 m.segs++m.head++beI 8 m.data.length
def pointBytes (p:Int) (m:MarkP):List UInt8:=pointHead m++be4 (crcSum (pointHead m))++shaSum m.data++m.data++List.replicate ((128*p).toNat-94-m.data.length) 0
theorem pointHead_length {m:MarkP}(h:m.head.length=32):(pointHead m).length=58:=by unfold pointHead;simp [beI_length,h]
theorem pencode_any {s p g:Int}{m:MarkP}(hr:planRight s p g=true) (hm:MarkOk p g m){A B:Option Addr}{c1 c2:Nat}{D E:Nat→Prop}{w:World}(hA:Bs w D A 32 m.head) (hB:Bs w E B m.data.length m.data) (hc2:m.data.length≤c2) (hfit:(m.data.length:Int)≤128*p-94):
  Calls Tryz.prog 114 #[.agg #[.int .i64 s,.int .i64 p,.int .i64 g],.agg #[.int .u64 m.gen,.int .u64 m.seq,.int .i64 m.segs,.slice A 32 c1,.slice B m.data.length c2]] w fun e w'=>(∃ A' c',e=.returned (.tuple #[.slice A' (pointBytes p m).length c',.int .i64 0])∧OwnB w' w.heap.size 5 A' (pointBytes p m).length c' (pointBytes p m))∧New w w':=by
 obtain ⟨dn,hdn⟩:∃ dn,dn=m.data.length:=⟨_,rfl⟩
 rw [← hdn] at hB hc2 hfit ⊢
 have HR:=fun W=>Lib.hid (right21_any s p g (by have:=planRight_bounds hr;omega) W)
 rw [hr] at HR
 have HM:=fun W=>Lib.hid (pright_any (s:=s) hm A B 32 c1 dn c2 rfl W)
 have HO:=fun W=>Lib.hid (proom_any hr W)
 obtain ⟨-,-,hp0,hp1,-,-,-⟩:=planRight_bounds hr
 have hdl:dn≤1000000:=by omega
 have hgen:=hm.gen
 have hseq:=hm.seq
 have hhd:=hm.head
 obtain ⟨k,hk⟩:∃ k,k=(128*p).toNat-94-dn:=⟨_,rfl⟩
 have hPB:Hid (pointBytes p m=pointHead m++be4 (crcSum (pointHead m))++shaSum m.data++m.data++List.replicate k 0):=Lib.hid (by rw [hk,hdn];rfl)
 have hsub:128*p-94-(dn:Int)=(k:Int):=by omega
 have hkb:k≤1000000:=by omega
 have hgt:decide (128*p-94<(dn:Int))=false:=decide_eq_false (by omega)
 generalize 128*p-94=RM at HO hsub hgt
 have HHL:=Lib.hid (pointHead_length hhd)
 have HPH:Hid (pointHead m=[]++beI 8 m.gen++beI 8 m.seq++beI 2 m.segs++m.head++beI 8 dn):=Lib.hid (by unfold pointHead;rw [hdn];simp)
 obtain ⟨ge,se,sg,hd,da⟩:=m
 dsimp only at *
 replace hdn:=Lib.hid hdn
 clear hr hm hp0 hp1 hk hfit
 have kA:=((New.refl w).alloc (.cells #[.int .i64 s,.int .i64 p,.int .i64 g] 33)).alloc (.cells #[.int .u64 ge,.int .u64 se,.int .i64 sg,.slice A 32 c1,.slice B dn c2] 142)
 have x1:=((New.refl (w.alloc (.cells #[.int .i64 s,.int .i64 p,.int .i64 g] 33))).alloc (.cells #[.int .u64 ge,.int .u64 se,.int .i64 sg,.slice A 32 c1,.slice B dn c2] 142)).blockAt (heap_alloc_new w (.cells #[.int .i64 s,.int .i64 p,.int .i64 g] 33)) trivial
 have x2:=heap_alloc_new (w.alloc (.cells #[.int .i64 s,.int .i64 p,.int .i64 g] 33)) (.cells #[.int .u64 ge,.int .u64 se,.int .i64 sg,.slice A 32 c1,.slice B dn c2] 142)
 rw [show (w.alloc (.cells #[.int .i64 s,.int .i64 p,.int .i64 g] 33)).heap.size=w.heap.size+1 from by simp] at x2
 go_enter Tryz.func114,Tryz.ntmps114
 go_upto_region 1 with fail
 generalize hgp:w.heap.size=gp at *
 generalize (w.alloc (.cells #[.int .i64 s,.int .i64 p,.int .i64 g] 33)).alloc (.cells #[.int .u64 ge,.int .u64 se,.int .i64 sg,.slice A 32 c1,.slice B dn c2] 142)=w1 at *
 have HG:=Lib.hid hgp
 clear hgp
 obtain ⟨p0,p1,p2⟩:=cs3 x1
 obtain ⟨m0,m1,m2,m3,m4⟩:=cs5 x2
 have HX:=Lib.hid (And.intro x1 x2)
 have HKA:=Lib.hid kA
 clear x1 x2 kA
 go_wp2_with fail
 refine (HR _).out.mono ?_
 rintro e w2 ⟨rfl,k2⟩
 replace HX:=Lib.hid (And.intro (k2.blockAt HX.out.1 trivial) (k2.blockAt HX.out.2 trivial))
 replace HKA:=Lib.hid (HKA.out.new k2)
 clear p0 p1 p2 m0 m1 m2 m3 m4 k2 HR
 obtain ⟨p0,p1,p2⟩:=cs3 HX.out.1
 obtain ⟨m0,m1,m2,m3,m4⟩:=cs5 HX.out.2
 go_wp2_with fail
 refine (HM _).out.mono ?_
 rintro e w3 ⟨rfl,k3⟩
 replace HX:=Lib.hid (And.intro (k3.blockAt HX.out.1 trivial) (k3.blockAt HX.out.2 trivial))
 replace HKA:=Lib.hid (HKA.out.new k3)
 clear p0 p1 p2 m0 m1 m2 m3 m4 k3 HM
 go_upto_region 5 with fail
 have r0:∀ W,New w3 W→W.cell? ⟨gp,0,none⟩=some (.int .i64 s):=fun W hW=>hW.cell_some (cellOf HX.out.1 (k:=0) rfl) trivial
 have r1:∀ W,New w3 W→W.cell? ⟨gp,1,none⟩=some (.int .i64 p):=fun W hW=>hW.cell_some (cellOf HX.out.1 (k:=1) rfl) trivial
 have r2:∀ W,New w3 W→W.cell? ⟨gp,2,none⟩=some (.int .i64 g):=fun W hW=>hW.cell_some (cellOf HX.out.1 (k:=2) rfl) trivial
 have r4:∀ W,New w3 W→W.cell? ⟨gp+1,4,none⟩=some (.slice B dn c2):=fun W hW=>hW.cell_some (cellOf HX.out.2 (k:=4) rfl) trivial
 refine hold_begin (by kernel_rfl) ?_
 have n0:New w3 w3.drew:=(New.refl w3).drew
 replace r0:=fun W (hW:New w3.drew W)=>r0 W (Keep.new n0 hW)
 replace r1:=fun W (hW:New w3.drew W)=>r1 W (Keep.new n0 hW)
 replace r2:=fun W (hW:New w3.drew W)=>r2 W (Keep.new n0 hW)
 replace r4:=fun W (hW:New w3.drew W)=>r4 W (Keep.new n0 hW)
 refine take1 0 ?_
 refine take1 1 ?_
 refine take1 2 ?_
 refine take1 3 ?_
 refine hold_step (i:=4) (by kernel_rfl) rfl rfl (fun K hK=>?_)
 go_simp
 refine (HO _).out.mono ?_
 rintro e w4 ⟨rfl,k4⟩
 go_wp2_with fail
 refine hK.out _ _ k4 ?_
 clear hK K
 try simp only [Act.put,ly1,ly2,ly3,ly4,ly5,ly6]
 replace n0:=Keep.new n0 k4
 replace r0:=fun W (hW:New w4 W)=>r0 W (Keep.new k4 hW)
 replace r1:=fun W (hW:New w4 W)=>r1 W (Keep.new k4 hW)
 replace r2:=fun W (hW:New w4 W)=>r2 W (Keep.new k4 hW)
 replace r4:=fun W (hW:New w4 W)=>r4 W (Keep.new k4 hW)
 refine take1 5 ?_
 refine take1 6 ?_
 refine wpAnyH_done (by kernel_rfl) ?_ _
 have k34:New w3 w4:=n0
 replace HX:=Lib.hid (And.intro (k34.blockAt HX.out.1 trivial) (k34.blockAt HX.out.2 trivial))
 replace HKA:=Lib.hid (HKA.out.new k34)
 clear r0 r1 r2 r4 n0 k34
 go_wp2_with fail
 refine (newWriter_any w4).mono ?_
 rintro e w5 ⟨⟨q,rfl,hW5⟩,k5⟩
 have hx1:=HX.out.1
 have hgl:gp<w4.heap.size∧gp+1<w4.heap.size:=⟨World.block_lt_of_cell? w4 ⟨gp,0,none⟩ (cellOf HX.out.1 (k:=0) rfl),World.block_lt_of_cell? w4 ⟨gp+1,0,none⟩ (cellOf HX.out.2 (k:=0) rfl)⟩
 clear hx1
 have HXK:Hid (∀ W,Keep (Lo w4.heap.size) w4 W→W.cell? ⟨gp,0,none⟩=some (.int .i64 s)∧W.cell? ⟨gp,1,none⟩=some (.int .i64 p)∧W.cell? ⟨gp,2,none⟩=some (.int .i64 g)∧W.cell? ⟨gp+1,0,none⟩=some (.int .u64 ge)∧W.cell? ⟨gp+1,1,none⟩=some (.int .u64 se)∧W.cell? ⟨gp+1,2,none⟩=some (.int .i64 sg)∧W.cell? ⟨gp+1,3,none⟩=some (.slice A 32 c1)∧W.cell? ⟨gp+1,4,none⟩=some (.slice B dn c2)) :=
  Lib.hid fun W hW=>⟨hW.cell_some (cellOf HX.out.1 (k:=0) rfl) hgl.1,hW.cell_some (cellOf HX.out.1 (k:=1) rfl) hgl.1,hW.cell_some (cellOf HX.out.1 (k:=2) rfl) hgl.1,hW.cell_some (cellOf HX.out.2 (k:=0) rfl) hgl.2,hW.cell_some (cellOf HX.out.2 (k:=1) rfl) hgl.2,hW.cell_some (cellOf HX.out.2 (k:=2) rfl) hgl.2,hW.cell_some (cellOf HX.out.2 (k:=3) rfl) hgl.2,hW.cell_some (cellOf HX.out.2 (k:=4) rfl) hgl.2⟩
 have HA4:Hid (∀ W,Keep (Lo w4.heap.size) w4 W→Bs W (Lo w4.heap.size) A 32 hd):=Lib.hid fun W hW=>((hA.new HKA.out).imp (E:=Lo w4.heap.size) fun b hb _=>hb).keep hW fun b _ hb=>hb
 have HB4:Hid (∀ W,Keep (Lo w4.heap.size) w4 W→Bs W (Lo w4.heap.size) B dn da):=Lib.hid fun W hW=>((hB.new HKA.out).imp (E:=Lo w4.heap.size) fun b hb _=>hb).keep hW fun b _ hb=>hb
 generalize hbs:w4.heap.size=base at *
 have HBASE:=Lib.hid hbs
 have HB:=Lib.hid (Keep.of_new (D:=Lo base) k5)
 have HW:=Lib.hid hW5
 clear k5 hW5 HX hA hB hbs hgl
 obtain ⟨p0,p1,p2,m0,m1,m2,m3,m4⟩:=HXK.out _ HB.out
 go_wp2_with fail
 refine (wlong_any _ _ _ ge w5 HW.out (by omega) (by omega) (by decide)).mono ?_
 rintro e w6 ⟨rfl,hW,hk⟩
 replace HB:=Lib.hid (HB.out.trans hk)
 replace HW:=Lib.hid hW
 clear hW hk p0 p1 p2 m0 m1 m2 m3 m4
 obtain ⟨p0,p1,p2,m0,m1,m2,m3,m4⟩:=HXK.out _ HB.out
 go_wp2_with fail
 refine (wlong_any _ _ _ se w6 HW.out (by omega) (by omega) (by simp [beI_length])).mono ?_
 rintro e w7 ⟨rfl,hW,hk⟩
 replace HB:=Lib.hid (HB.out.trans hk)
 replace HW:=Lib.hid hW
 clear hW hk p0 p1 p2 m0 m1 m2 m3 m4
 obtain ⟨p0,p1,p2,m0,m1,m2,m3,m4⟩:=HXK.out _ HB.out
 go_wp2_with fail
 refine (wshort_any _ _ _ sg w7 HW.out (by simp [beI_length])).mono ?_
 rintro e w8 ⟨rfl,hW,hk⟩
 replace HB:=Lib.hid (HB.out.trans hk)
 replace HW:=Lib.hid hW
 clear hW hk p0 p1 p2 m0 m1 m2 m3 m4
 obtain ⟨p0,p1,p2,m0,m1,m2,m3,m4⟩:=HXK.out _ HB.out
 go_wp2_with fail
 refine (raw_any _ _ _ A 32 c1 _ hd w8 HW.out (HA4.out _ HB.out) (by simp [beI_length])).mono ?_
 rintro e w9 ⟨rfl,hW,hk⟩
 replace HB:=Lib.hid (HB.out.trans hk)
 replace HW:=Lib.hid hW
 clear hW hk p0 p1 p2 m0 m1 m2 m3 m4
 obtain ⟨p0,p1,p2,m0,m1,m2,m3,m4⟩:=HXK.out _ HB.out
 go_wp2_with fail
 refine (wlong_any _ _ _ (dn:Int) w9 HW.out (by omega) (by omega) (by simp [beI_length,hhd])).mono ?_
 rintro e w10 ⟨rfl,hW,hk⟩
 replace HB:=Lib.hid (HB.out.trans hk)
 rw [← HPH.out] at hW
 have hsl:=HHL.out
 generalize pointHead { gen:=ge,seq:=se,segs:=sg,head:=hd,data:=da }=bs at hW hsl hPB
 replace HW:=Lib.hid hW
 clear hW hk p0 p1 p2 m0 m1 m2 m3 m4 HHL HPH
 go_wp2_with fail
 refine (done_any _ _ _ w10 HW.out (by rw [hsl];decide)).mono ?_
 rintro e w11 ⟨⟨A8,c8,rfl,o8⟩,k8⟩
 replace HB:=Lib.hid (HB.out.new k8)
 replace HW:=Lib.hid (HW.out.keep k8 fun _ _=>trivial)
 rw [hsl] at o8
 have O8:=Lib.hid o8
 clear k8 o8
 rw [hsl]
 go_wp2_with fail
 refine (crc_sum _ A8 58 c8 bs w11 (Row.of_own O8.out) (by decide)).mono ?_
 rintro e w12 ⟨rfl,rfl⟩
 generalize crcSum bs=cs at *
 have q1:IntKind.i64.wrap (wv (cs >>> 16))=wv (cs >>> 16):=IntWalk.i64_in _ (by have:=wv_bd (cs >>> 16);omega)
 have q2:IntKind.i64.wrap (wv cs)=wv cs:=IntWalk.i64_in _ (by have:=wv_bd cs;omega)
 clear O8
 go_wp2_with fail
 refine (wshort_any _ _ _ (wv (cs >>> 16)) w11 HW.out (by rw [hsl];decide)).mono ?_
 rintro e w12 ⟨rfl,hW,hk⟩
 replace HB:=Lib.hid (HB.out.trans hk)
 replace HW:=Lib.hid hW
 clear hW hk
 go_wp2_with fail
 refine (wshort_any _ _ _ (wv cs) w12 HW.out (by rw [List.length_append,hsl,beI_length];decide)).mono ?_
 rintro e w13 ⟨rfl,hW,hk⟩
 replace HB:=Lib.hid (HB.out.trans hk)
 rw [List.append_assoc,be4_two] at hW
 have hsl2:(bs++be4 cs).length=62:=by rw [List.length_append,hsl];rfl
 generalize hbs:bs++be4 cs=bs2 at hW hsl2
 have HBS2:=Lib.hid hbs
 replace HW:=Lib.hid hW
 clear hW hk hbs q1 q2
 obtain ⟨p0,p1,p2,m0,m1,m2,m3,m4⟩:=HXK.out _ HB.out
 go_wp2_with fail
 refine (shaSum_any _ B dn c2 da w13 (HB4.out _ HB.out) hc2 (by omega)).mono ?_
 rintro e w14 ⟨⟨A9,c9,rfl,o9⟩,k9⟩
 replace HB:=Lib.hid (HB.out.new k9)
 replace HW:=Lib.hid (HW.out.keep k9 fun _ _=>trivial)
 have O9:=Lib.hid o9
 clear k9 o9 p0 p1 p2 m0 m1 m2 m3 m4
 go_wp2_with fail
 refine (raw_any _ _ _ A9 32 c9 _ _ w14 HW.out (Row.of_own O9.out) (by rw [hsl2];decide)).mono ?_
 rintro e w15 ⟨rfl,hW,hk⟩
 replace HB:=Lib.hid (HB.out.trans hk)
 have hsl3:(bs2++shaSum da).length=94:=by rw [List.length_append,hsl2,shaSum_length]
 generalize hbs:bs2++shaSum da=bs3 at hW hsl3
 have HBS3:=Lib.hid hbs
 replace HW:=Lib.hid hW
 clear hW hk hbs O9
 obtain ⟨p0,p1,p2,m0,m1,m2,m3,m4⟩:=HXK.out _ HB.out
 go_wp2_with fail
 refine (raw_any _ _ _ B dn c2 _ da w15 HW.out (HB4.out _ HB.out) (by rw [hsl3];omega)).mono ?_
 rintro e w16 ⟨rfl,hW,hk⟩
 replace HB:=Lib.hid (HB.out.trans hk)
 have hsl4:(bs3++da).length=94+dn:=by rw [List.length_append,hsl3,hdn.out]
 generalize hbs:bs3++da=bs4 at hW hsl4
 have HBS4:=Lib.hid hbs
 replace HW:=Lib.hid hW
 clear hW hk hbs p0 p1 p2 m0 m1 m2 m3 m4
 go_upto_region 18 with fail
 obtain ⟨Zc,hZc⟩:∃ Z,Z=((List.replicate k (0:UInt8)).map byteVal).toArray:=⟨_,rfl⟩
 have hmk:∀ W,(Instr.makeSlice 24 (.int .i64 (k:Int)) (.int .i64 (k:Int))).run Tryz.prog W=.ok (.slice (some ⟨W.heap.size,0,none⟩) k k) (W.alloc (.cells Zc 5)):=fun W=>by rw [hZc];exact make_noughts k hkb W
 have HZC:Hid (Zc.toList=(List.replicate k (0:UInt8)).map byteVal∧Zc.size=k):=Lib.hid ⟨by rw [hZc],by rw [hZc];simp⟩
 clear hZc
 have r0:∀ W,Keep (Lo base) w16.drew W→W.cell? ⟨gp,0,none⟩=some (.int .i64 s):=fun W hW=>(HXK.out W (HB.out.drew.trans hW)).1
 have r1:∀ W,Keep (Lo base) w16.drew W→W.cell? ⟨gp,1,none⟩=some (.int .i64 p):=fun W hW=>(HXK.out W (HB.out.drew.trans hW)).2.1
 have r2:∀ W,Keep (Lo base) w16.drew W→W.cell? ⟨gp,2,none⟩=some (.int .i64 g):=fun W hW=>(HXK.out W (HB.out.drew.trans hW)).2.2.1
 have r4:∀ W,Keep (Lo base) w16.drew W→W.cell? ⟨gp+1,4,none⟩=some (.slice B dn c2):=fun W hW=>(HXK.out W (HB.out.drew.trans hW)).2.2.2.2.2.2.2
 have q4:IntKind.i64.wrap (k:Int)=k:=IntWalk.i64_in _ (by omega)
 have q3:IntKind.i64.wrap (RM-(dn:Int))=RM-(dn:Int):=IntWalk.i64_in _ (by omega)
 refine hold_beginS (Keep (Lo base) w16.drew) (by kernel_rfl) ?_
 have n0:Keep (Lo base) w16.drew w16.drew:=Keep.refl _ _
 refine take0 0 n0 ?_
 refine take0 1 n0 ?_
 refine take0 3 n0 ?_
 refine take0 4 n0 ?_
 refine take0 5 n0 ?_
 refine hold_step0 (i:=2) (by kernel_rfl) rfl rfl (fun K hK=>?_)
 go_simp
 refine (HO _).out.mono ?_
 rintro e w17 ⟨rfl,k17⟩
 go_wp2_with fail
 have n1:=Keep.new n0 k17
 refine hK.out _ _ n1 ?_
 clear hK K
 try simp only [Act.put,ly1,ly2,ly3,ly4,ly5,ly6]
 replace n0:=n1
 clear n1
 refine take0 6 n0 ?_
 have kz:=(New.refl w17).alloc (.cells Zc 5)
 have hz:=Row.made w17 5 Zc k 1 (by rw [HZC.out.2,Nat.mul_one])
 rw [HZC.out.1] at hz
 refine hold_step0 (i:=7) (by kernel_rfl) rfl rfl (fun K hK=>?_)
 go_simp
 go_wp2_with fail
 have n1:=Keep.new n0 kz
 refine hK.out _ _ n1 ?_
 clear hK K
 try simp only [Act.put,ly1,ly2,ly3,ly4,ly5,ly6]
 replace n0:=n1
 clear n1
 have HW17:=Lib.hid (((HW.out.keep (D:=fun _=>True) (Keep.drew (New.refl w16)) fun _ _=>trivial).keep k17 fun _ _=>trivial).keep kz fun _ _=>trivial)
 refine hold_step0 (i:=8) (by kernel_rfl) rfl rfl (fun K hK=>?_)
 (go_simp;refine (raw_any _ _ _ _ k k _ _ _ HW17.out hz (by rw [hsl4];omega)).mono ?_)
 (rintro e w18 ⟨rfl,hW,hk⟩;go_wp2_with fail)
 have n1:=n0.trans hk
 refine hK.out _ _ n1 ?_
 clear hK K
 try simp only [Act.put,ly1,ly2,ly3,ly4,ly5,ly6]
 replace n0:=n1
 clear n1
 refine wpAnyH_done (by kernel_rfl) ?_ _
 replace HB:=Lib.hid (HB.out.drew.trans n0)
 have HSS:Hid (pointBytes p { gen:=ge,seq:=se,segs:=sg,head:=hd,data:=da }=bs4++List.replicate k 0):=Lib.hid (by rw [hPB.out,← HBS4.out,← HBS3.out,← HBS2.out])
 rw [← HSS.out] at hW
 have hsl5:(pointBytes p { gen:=ge,seq:=se,segs:=sg,head:=hd,data:=da }).length≤3000000:=by rw [HSS.out,List.length_append,hsl4,List.length_replicate];omega
 obtain ⟨bs5,hb5⟩:∃ b,b=pointBytes p { gen:=ge,seq:=se,segs:=sg,head:=hd,data:=da }:=⟨_,rfl⟩
 rw [← hb5] at hW hsl5
 have HB5:=Lib.hid hb5
 clear hb5
 replace HW:=Lib.hid hW
 clear hW hk hz r0 r1 r2 r4 n0 hmk kz k17 HW17
 go_wp2_with fail
 refine (done_any _ _ _ w18 HW.out (by omega)).mono ?_
 rintro e w19 ⟨⟨A13,c13,rfl,o13⟩,k13⟩
 have HF:=Lib.hid (And.intro o13 k13)
 clear o13 k13
 go_wp2_with fail
 refine bodyPost_ret (v:=.tuple #[.slice A13 bs5.length c13,.int .i64 0]) (by simp [results,Tryz.results114,go_sem]) rfl ?_
 obtain ⟨ho,k13⟩:=HF.out
 rw [← HB5.out]
 exact ⟨⟨A13,c13,rfl,ownsRow_base_a ho (by have:=HB.out.size;have:=HKA.out.size;have:=HBASE.out;have:=HG.out;omega)⟩,HKA.out.new ((HB.out.new k13).toNew fun b hb=>by have:=HBASE.out;show b<base;omega)⟩
theorem pointBytes_length {p:Nat}{m:MarkP}(h:m.head.length=32) (hf:(m.data.length:Int)≤128*(p:Int)-94):(pointBytes (p:Int) m).length=p*128:=by
 unfold pointBytes
 have hs:=shaSum_length m.data
 rw [List.length_append,List.length_append,List.length_append,List.length_append,pointHead_length h,hs,List.length_replicate]
 have:(be4 (crcSum (pointHead m))).length=4:=rfl
 omega
theorem msave_any {w:World}{D:Nat→Prop}{q:DiskB}{S:List UInt8}{M:Dirt}{n:Nat}{wr:Int}{k p g:Nat}{m:MarkP}(h:DiskAt w D q S M n wr) (hk:S.length=k*128) (hD:∀ b,w.heap.size≤b→D b) (hn:n+p<1000000) (hp1:p≤1000) (hr:planRight k p g=true) (hm:MarkOk p g m)
  {A B:Option Addr} {c1 c2:Nat} {D1 D2:Nat→Prop} (hA:Bs w D1 A 32 m.head) (hB:Bs w D2 B m.data.length m.data) (hc2:m.data.length≤c2) (hfit:(m.data.length:Int)≤128*(p:Int)-94):
  Calls Tryz.prog 91 #[.pointer (some ⟨q.bd,0,none⟩),.agg #[.int .i64 k,.int .i64 p,.int .i64 g],.agg #[.int .u64 m.gen,.int .u64 m.seq,.int .i64 m.segs,.slice A 32 c1,.slice B m.data.length c2]] w fun e w'=>e=.returned (.int .i64 0)∧Keep (fun j=>j≠q.bd∧j≠q.bm) w w' ∧
   ∃ wr',DiskAt w' D q S (dirtRows M (1+(m.gen%2).toNat*p) p (pointBytes p m)) (n+p) wr':=by
 have hlen:=pointBytes_length (p:=p) hm.head hfit
 obtain ⟨b1,b2,b3,b4,b5,b6,b7⟩:=planRight_bounds hr
 obtain ⟨r,hr2⟩:∃ r:Nat,m.gen%2=(r:Int)∧r≤1:=⟨(m.gen%2).toNat,by omega,by omega⟩
 have hHEN:=fun W (hW:New w W)=>Lib.hid (pencode_any (c1:=c1) hr hm (hA.new hW) (hB.new hW) hc2 hfit)
 rw [hlen] at hHEN
 have hHPT:=fun W=>Lib.hid (point21_any (i:=(r:Int)) hr (by omega) W)
 have hgen:=hm.gen
 have htm:m.gen.tmod 2=(r:Int):=by rw [Int.tmod_eq_emod_of_nonneg (by omega)];exact hr2.1
 have hem:m.gen%2=(r:Int):=hr2.1
 have htn:(m.gen%2).toNat=r:=by omega
 rw [htn]
 have hrw:IntKind.i64.wrap (r:Int)=r:=IntWalk.i64_in _ (by omega)
 have hrp:r*p≤p:=by have:=Nat.mul_le_mul_right p hr2.2;omega
 have hcast:(1+(r:Int)*(p:Int))=((1+r*p:Nat):Int):=by push_cast;rfl
 rw [hcast] at hHPT
 have HH:=Lib.hid (And.intro h (And.intro hk (And.intro hD hlen)))
 have HDK:Hid (∀ j,j=q.bd∨j=q.bs∨j=q.bm→j<w.heap.size):=Lib.hid h.lt
 obtain ⟨first,hfi⟩:∃ first,first=1+r*p:=⟨_,rfl⟩
 rw [← hfi] at hHPT ⊢
 have HFI:Hid (first+p≤k):=Lib.hid (by omega)
 obtain ⟨pb,hpb⟩:∃ pb,pb=pointBytes (p:Int) m:=⟨_,rfl⟩
 have HPB:=Lib.hid hpb
 rw [← hpb] at hHEN HH ⊢
 obtain ⟨ge,se,sg,hd,da⟩:=m
 dsimp only at *
 have HP:=Lib.hid (And.intro hp1 (And.intro hn b3))
 clear h hk hD hlen hA hB hm hr hfit hfi hpb hcast htn b1 b2 b3 b4 b5 b6 b7 hp1 hn hc2
 have kA:=((New.refl w).alloc (.cells #[.int .i64 k,.int .i64 p,.int .i64 g] 33)).alloc (.cells #[.int .u64 ge,.int .u64 se,.int .i64 sg,.slice A 32 c1,.slice B da.length c2] 142)
 have x1:=((New.refl (w.alloc (.cells #[.int .i64 k,.int .i64 p,.int .i64 g] 33))).alloc (.cells #[.int .u64 ge,.int .u64 se,.int .i64 sg,.slice A 32 c1,.slice B da.length c2] 142)).blockAt (heap_alloc_new w (.cells #[.int .i64 k,.int .i64 p,.int .i64 g] 33)) trivial
 have x2:=heap_alloc_new (w.alloc (.cells #[.int .i64 k,.int .i64 p,.int .i64 g] 33)) (.cells #[.int .u64 ge,.int .u64 se,.int .i64 sg,.slice A 32 c1,.slice B da.length c2] 142)
 rw [show (w.alloc (.cells #[.int .i64 k,.int .i64 p,.int .i64 g] 33)).heap.size=w.heap.size+1 from by simp] at x2
 obtain ⟨dn,hdn⟩:∃ dn,dn=da.length:=⟨_,rfl⟩
 rw [← hdn] at hHEN x1 x2 kA ⊢
 replace hdn:=Lib.hid hdn
 go_enter Tryz.func91,Tryz.ntmps91
 go_upto_region 1 with fail
 generalize hgp:w.heap.size=gp at *
 generalize (w.alloc (.cells #[.int .i64 k,.int .i64 p,.int .i64 g] 33)).alloc (.cells #[.int .u64 ge,.int .u64 se,.int .i64 sg,.slice A 32 c1,.slice B dn c2] 142)=w1 at *
 have HG:=Lib.hid hgp
 clear hgp
 obtain ⟨p0,p1,p2⟩:=cs3 x1
 obtain ⟨m0,m1,m2,m3,m4⟩:=cs5 x2
 have HX:=Lib.hid (And.intro x1 x2)
 have HKA:=Lib.hid kA
 clear x1 x2 kA
 go_wp2_with fail
 refine (hHEN _ HKA.out).out.mono ?_
 rintro e w2 ⟨⟨A',c',rfl,ob⟩,k2⟩
 replace HX:=Lib.hid (And.intro (k2.blockAt HX.out.1 trivial) (k2.blockAt HX.out.2 trivial))
 have HKB:=Lib.hid k2
 have HOB:=Lib.hid ob
 clear p0 p1 p2 m0 m1 m2 m3 m4 k2 hHEN ob
 obtain ⟨p0,p1,p2⟩:=cs3 HX.out.1
 have m0:=cellOf HX.out.2 (k:=0) rfl
 go_wp2_with fail
 refine (hHPT _).out.mono ?_
 rintro e w3 ⟨rfl,k3⟩
 have HK3:=Lib.hid (HKB.out.new k3)
 have HK33:=Lib.hid k3
 clear p0 p1 p2 m0 k3 hHPT HX
 obtain ⟨hd,hk,hDD,hlen⟩:=HH.out
 have hl:=HDK.out
 have hg0:=HG.out
 have hz:=HKA.out.size
 have HML:=Lib.hid (mlay_any ((hd.new HKA.out).new HK3.out) hk (fun b hb=>hDD b (by have:=HK3.out.size;omega)) HFI.out HP.out.2.1 (by have:=HP.out.2.2;omega) HP.out.1 A' c' pb ((Row.of_own HOB.out).new HK33.out) (own_cap HOB.out) (own_capMax HOB.out) (fun j hj=>⟨fun e=>by have:=hl q.bd (.inl rfl);omega,fun e=>by have:=hl q.bm (.inr (.inr rfl));omega⟩))
 clear hd hk hDD hlen hl hg0 hz
 go_wp2_with fail
 refine HML.out.mono ?_
 rintro e w4 ⟨rfl,k4,hd4⟩
 have HF:=Lib.hid (And.intro k4 hd4)
 clear k4 hd4 HML
 go_wp2_with fail
 go_ret
 obtain ⟨k4,wr4,hd4⟩:=HF.out
 exact ⟨rfl,(Keep.of_new (HKA.out.new HK3.out)).trans k4,wr4,hd4⟩
theorem num_at (k:Nat) (n:Int) (rest:List UInt8) (h0:0≤n) (h1:n<256^k):∃ m:Nat,RdS.num ⟨beI k n++rest,0⟩ k=(m,⟨rest,0⟩)∧(m:Int)=n :=
 ⟨beNat (beI k n),RdS.num_cut _ _ _ (beI_length k n).symm,beNat_beI k n h0 h1⟩
theorem lowb_nat (x:BitVec 32):(lowb x).toNat=x.toNat%256:=by
 unfold lowb
 rw [UInt8.toNat_ofNat']
 omega
theorem be4_nums (c:BitVec 32) (rest:List UInt8):∃ a b:Nat,∃ r:List UInt8,RdS.num ⟨be4 c++rest,0⟩ 2=(a,⟨r,0⟩)∧RdS.num ⟨r,0⟩ 2=(b,⟨rest,0⟩)∧(a:Int)=wv (c >>> 16)∧(b:Int)=wv (c &&& 65535#32):=by
 refine ⟨beNat [lowb (c >>> 24),lowb (c >>> 16)],beNat [lowb (c >>> 8),lowb c],[lowb (c >>> 8),lowb c]++rest,?_,RdS.num_cut _ _ _ rfl,?_,?_⟩
 ·rw [show be4 c++rest=[lowb (c >>> 24),lowb (c >>> 16)]++([lowb (c >>> 8),lowb c]++rest) from rfl]
  exact RdS.num_cut _ _ _ rfl
 ·have hc:=c.isLt
  simp only [beNat,List.foldl_cons,List.foldl_nil,lowb_nat,wv,BitVec.toNat_ushiftRight,Nat.shiftRight_eq_div_pow]
  omega
 ·have hc:=c.isLt
  have e:(c &&& 65535#32).toNat=c.toNat%65536:=by
   rw [BitVec.toNat_and]
   exact Nat.and_two_pow_sub_one_eq_mod c.toNat 16
  simp only [beNat,List.foldl_cons,List.foldl_nil,lowb_nat,wv,BitVec.toNat_ushiftRight,Nat.shiftRight_eq_div_pow,e]
  omega
theorem word_halves (c:BitVec 32):(c >>> 16) <<< 16 ||| (c &&& 65535#32)=c:=by
 apply BitVec.eq_of_toNat_eq
 have hc:=c.isLt
 have e:(c &&& 65535#32).toNat=c.toNat%65536:=by
  rw [BitVec.toNat_and]
  exact Nat.and_two_pow_sub_one_eq_mod c.toNat 16
 rw [BitVec.toNat_or,e,BitVec.toNat_shiftLeft,BitVec.toNat_ushiftRight,Nat.shiftRight_eq_div_pow,Nat.shiftLeft_eq]
 have h1:c.toNat/2^16*2^16%2^32=c.toNat/2^16*2^16:=by omega
 rw [h1,← Nat.shiftLeft_eq,← Nat.shiftLeft_add_eq_or_of_lt (show c.toNat%65536<2^16 by omega),Nat.shiftLeft_eq]
 omega
structure MarkParts (bs:List UInt8) (m:MarkP) (g q s a b:Nat) (r1 r2 r3 r4 r5 r6 r7 r8 r9:List UInt8) (z:Nat):Prop where
 e1:RdS.num ⟨bs,0⟩ 8=(g,⟨r1,0⟩)
 e2:RdS.num ⟨r1,0⟩ 8=(q,⟨r2,0⟩)
 e3:RdS.num ⟨r2,0⟩ 2=(s,⟨r3,0⟩)
 e4:RdS.raw ⟨r3,0⟩ 32=(m.head,⟨r4,0⟩)
 e5:RdS.num ⟨r4,0⟩ 8=(m.data.length,⟨r5,0⟩)
 e6:RdS.num ⟨r5,0⟩ 2=(a,⟨r6,0⟩)
 e7:RdS.num ⟨r6,0⟩ 2=(b,⟨r7,0⟩)
 e8:RdS.raw ⟨r7,0⟩ 32=(shaSum m.data,⟨r8,0⟩)
 e9:RdS.raw ⟨r8,0⟩ m.data.length=(m.data,⟨r9,0⟩)
 hg:(g:Int)=m.gen
 hq:(q:Int)=m.seq
 hs:(s:Int)=m.segs
 ha:(a:Int)=wv (crcSum (bs.take 58) >>> 16)
 hb:(b:Int)=wv (crcSum (bs.take 58) &&& 65535#32)
 tail:bs.drop (94+m.data.length)=List.replicate z 0
 sum4:(bs.drop 58).take 4=be4 (crcSum (bs.take 58))
 hash:(bs.drop 62).take 32=shaSum m.data
 body:(bs.drop 94).take m.data.length=m.data
 r9z:r9=List.replicate z 0
theorem point_parts {p g:Int}{m:MarkP}(hm:MarkOk p g m) (hp:g≤512) (hf:m.data.length≤1000000):
  ∃ g q s a b:Nat,∃ r1 r2 r3 r4 r5 r6 r7 r8 r9:List UInt8,MarkParts (pointBytes p m) m g q s a b r1 r2 r3 r4 r5 r6 r7 r8 r9 ((128*p).toNat-94-m.data.length):=by
 obtain ⟨z,hz⟩:∃ z,z=(128*p).toNat-94-m.data.length:=⟨_,rfl⟩
 rw [← hz]
 have hpl:=pointHead_length hm.head
 obtain ⟨g1,g2⟩:=hm.gen
 obtain ⟨q1,q2⟩:=hm.seq
 obtain ⟨s1,s2⟩:=hm.segs
 have hw:pointBytes p m=beI 8 m.gen++(beI 8 m.seq++(beI 2 m.segs++(m.head++(beI 8 m.data.length++(be4 (crcSum (pointHead m))++(shaSum m.data++(m.data++List.replicate z 0))))))):=by
  rw [hz]
  simp [pointBytes,pointHead]
 have hw2:pointBytes p m=pointHead m++(be4 (crcSum (pointHead m))++(shaSum m.data++(m.data++List.replicate z 0))):=by rw [hz];simp [pointBytes]
 have ht:(pointBytes p m).take 58=pointHead m:=by rw [hw2,List.take_append_of_le_length (by omega),List.take_of_length_le (by omega)]
 have hd58:(pointBytes p m).drop 58=be4 (crcSum (pointHead m))++(shaSum m.data++(m.data++List.replicate z 0)):=by rw [hw2,List.drop_append_of_le_length (by omega),List.drop_eq_nil_of_le (by omega),List.nil_append]
 have hd62:(pointBytes p m).drop 62=shaSum m.data++(m.data++List.replicate z 0):=by
  rw [show 62=58+4 from rfl,← List.drop_drop,hd58,List.drop_append_of_le_length (by rw [be4_length];omega),List.drop_eq_nil_of_le (by rw [be4_length];omega),List.nil_append]
 have hd94:(pointBytes p m).drop 94=m.data++List.replicate z 0:=by
  rw [show 94=62+32 from rfl,← List.drop_drop,hd62,List.drop_append_of_le_length (by rw [shaSum_length];omega),List.drop_eq_nil_of_le (by rw [shaSum_length];omega),List.nil_append]
 obtain ⟨g',e1,hg⟩:=num_at 8 m.gen (beI 8 m.seq++(beI 2 m.segs++(m.head++(beI 8 m.data.length++(be4 (crcSum (pointHead m))++(shaSum m.data++(m.data++List.replicate z 0))))))) (by omega) (by omega)
 obtain ⟨q',e2,hq⟩:=num_at 8 m.seq (beI 2 m.segs++(m.head++(beI 8 m.data.length++(be4 (crcSum (pointHead m))++(shaSum m.data++(m.data++List.replicate z 0)))))) (by omega) (by omega)
 obtain ⟨s',e3,hs⟩:=num_at 2 m.segs (m.head++(beI 8 m.data.length++(be4 (crcSum (pointHead m))++(shaSum m.data++(m.data++List.replicate z 0))))) (by omega) (by omega)
 obtain ⟨n',e5,hn⟩:=num_at 8 m.data.length (be4 (crcSum (pointHead m))++(shaSum m.data++(m.data++List.replicate z 0))) (by omega) (by omega)
 obtain ⟨a,b,r6,e6,e7,ha,hb⟩:=be4_nums (crcSum (pointHead m)) (shaSum m.data++(m.data++List.replicate z 0))
 have hn':n'=m.data.length:=by omega
 rw [hn'] at e5
 refine ⟨g',q',s',a,b,_,_,_,_,_,r6,_,_,_,⟨by rw [hw];exact e1,e2,e3,RdS.raw_zero _ _ _ (by rw [hm.head];rfl),e5,e6,e7,RdS.raw_zero _ _ _ (by rw [shaSum_length];rfl),RdS.raw_zero _ _ _ rfl,hg,hq,hs,by rw [ht];exact ha,by rw [ht];exact hb,?_,?_,?_,?_,rfl⟩⟩
 ·rw [← List.drop_drop,hd94,List.drop_append_of_le_length (Nat.le_refl _),List.drop_eq_nil_of_le (Nat.le_refl _),List.nil_append]
 ·rw [hd58,ht,List.take_append_of_le_length (by rw [be4_length];omega),List.take_of_length_le (by rw [be4_length];omega)]
 ·rw [hd62,List.take_append_of_le_length (by rw [shaSum_length];omega),List.take_of_length_le (by rw [shaSum_length];omega)]
 ·rw [hd94,List.take_append_of_le_length (Nat.le_refl _),List.take_of_length_le (Nat.le_refl _)]
end Go.Proofs.YtdodbdednpnddaaGreatDoor
