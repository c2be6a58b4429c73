/-
  PROVED HERE: what permafrostref24.Make answers; condition: at most 100000 images.
-/
import Derived.Test.YtfegdgaanmcecaaGreatDoorPkN41
namespace Go.Proofs.YtfegdgaanmcecaaGreatDoor
open Go.RowKit
theorem refs_grown {w w' w0 : World} {base : Nat} {D : Nat → Prop} {A A3 : Option Addr} {n c : Nat} {hs : List HeadP} (hlt : ∀ k, blk A = some k → k < w0.heap.size) (h : OwnHeadsR w base D A n c hs) {A2 : Option Addr} {n2 c2 : Nat} {ls : List RecP} (h2 : OwnRefs w w0.heap.size (fun b => w0.heap.size ≤ b) A2 n2 c2 ls) (hg : w.grownBy w' (blk A)) (hbk : blk A3 = blk A ∨ blk A3 = some w.heap.size) :
  OwnRefs w' w0.heap.size (fun b => w0.heap.size ≤ b ∧ some b ≠ blk A3) A2 n2 c2 ls := by
 obtain ⟨_, h1, _⟩ := h
 exact refs_beside h1 (by decide) (h2.imp fun b hd => ⟨hd, fun e => by have := hlt b e.symm; omega⟩) hg hbk
/-! ### heads and rows of records that a call makes -/
structure DuoR (w : World) (base : Nat) (A : Option Addr) (n c : Nat) (hs : List HeadP) (A' : Option Addr) (n' c' : Nat) (rss : List (List RecP)) : Prop where
 heads : OwnHeadsR w base (fun b => base ≤ b ∧ some b ≠ blk A') A n c hs
 recs : OwnSl 25 (slElt recElt) w base (fun b => base ≤ b ∧ some b ≠ blk A) A' n' c' rss
section
variable {w w' : World} {base : Nat} {A A' : Option Addr} {n c n' c' : Nat} {hs : List HeadP} {rss : List (List RecP)}
theorem DuoR.nil (w : World) (base : Nat) : DuoR w base none 0 0 [] none 0 0 [] := ⟨OwnHeadsR.nil _ _ _, OwnSl.nil _ _ _ _ _⟩
theorem DuoR.new (h : DuoR w base A n c hs A' n' c' rss) (hk : New w w') : DuoR w' base A n c hs A' n' c' rss := ⟨h.heads.new hk, h.recs.new hk⟩
theorem DuoR.head (h : DuoR w base A n c hs A' n' c' rss) {A3 : Option Addr} {n3 c3 : Nat} {hs3 : List HeadP} (h3 : OwnHeadsR w' base (fun b => base ≤ b ∧ some b ≠ blk A') A3 n3 c3 hs3) (hg : w.grownBy w' (blk A)) (hbk : blk A3 = blk A ∨ blk A3 = some w.heap.size) : DuoR w' base A3 n3 c3 hs3 A' n' c' rss := by
 refine ⟨h3, ?_⟩
 obtain ⟨_, h1⟩ := (ownHeadsR_sl.1 h.heads).own
 exact h.recs.beside h1 (by decide) hg hbk
theorem DuoR.more (h : DuoR w base A n c hs A' n' c' rss) {A3 : Option Addr} {n3 c3 : Nat} {rs3 : List (List RecP)} (h3 : OwnSl 25 (slElt recElt) w' base (fun b => base ≤ b ∧ some b ≠ blk A) A3 n3 c3 rs3) (hg : w.grownBy w' (blk A')) (hbk : blk A3 = blk A' ∨ blk A3 = some w.heap.size) : DuoR w' base A n c hs A3 n3 c3 rs3 := by
 refine ⟨?_, h3⟩
 obtain ⟨_, h1⟩ := h.recs.own
 exact ownHeadsR_sl.2 ((ownHeadsR_sl.1 h.heads).beside h1 (by decide) hg hbk)
end
theorem info_refs : (Tryz.prog.info? 25).map (fun i => (i.zero, i.size, i.bytes)) = some (some (.slice none 0 0), 1, 24) := by kernel_rfl
theorem app_refss {ops : Array Oper} {rest : List Oper} {o : Oper} {a : Act} {Q : Exit → Act → World → Prop} (w : World) (hgd : o.guard = none) (s x : Operand)
  (ho : o.op = .call { callee := .builtin .append, args := #[s, x], argTypes := #[99, 99] })
  (base : Nat) (D : Nat → Prop) (A : Option Addr) (n c : Nat) (ls : List (List RecP)) (hs : a.eval s = .slice A n c) (hown : OwnSl 25 (slElt recElt) w base D A n c ls)
  (D2 : Nat → Prop) (A2 : Option Addr) (c2 : Nat) (A' : Option Addr) (m c' : Nat) (y : List RecP) (hx : a.eval x = .slice A2 1 c2) (hr : Row w D2 A2 1 1 [.slice A' m c']) (hy : Sl recElt w (fun b => D b ∧ some b ≠ blk A) A' m y) (hmc : m ≤ c') (hc9 : c' ≤ 9223372036854775807)
  (h63 : n + 1 ≤ 1099511627776) (hbase : base ≤ w.heap.size)
  (h : ∀ A3 c3 w3, OwnSl 25 (slElt recElt) w3 base D A3 (n + 1) c3 (ls ++ [y]) → w.grownBy w3 (blk A) → (blk A3 = blk A ∨ blk A3 = some w.heap.size) → wpList Tryz.prog ops Q rest (a.put o.dst (.slice A3 (n + 1) c3)) w3) : wpList Tryz.prog ops Q (o :: rest) a w := by
 obtain ⟨i, hi, hz0, hz1, hz2⟩ := info_parts info_refs
 have hl := hy.len
 subst hl
 exact app_sl (E := slElt recElt) w hgd s x 99 25 ho i (.slice none 0 0) 24 Tryz.underlying99 hi hz0 hz1 hz2 rfl base D A n c ls hs hown D2 A2 c2 [.slice A' y.length c'] y hx hr ⟨A', c', rfl, hmc, hc9, hy⟩ (by omega) (by omega) hbase h
theorem OwnRefs.sl {w : World} {base : Nat} {D E : Nat → Prop} {A : Option Addr} {n c : Nat} {rs : List RecP} (h : OwnRefs w base D A n c rs) (hb : ∀ r ∈ rs, recRight r = true) (h1 : ∀ b, blk A = some b → E b) (h2 : ∀ b, D b → E b) : Sl recElt w E A n rs := by
 obtain ⟨vs, g1, g2, g3⟩ := h
 refine ⟨vs, (row_own g1).imp fun b _ hd => h1 b hd, g2, fun k hk => ?_⟩
 have hbr : rs[k].body.length ≤ 9223372036854770000 := by
  have h4 := hb rs[k] (List.getElem_mem hk)
  rw [recRight_def, decide_eq_true_eq] at h4
  omega
 obtain ⟨A', c', e1, e2, e3, hc, hB, h5, h6, h7⟩ := g3 k hk
 exact ⟨A', c', e1, e2, e3, hc, hB.imp (fun b _ hd => h2 b hd.1), h5, h6, hbr, h7⟩
theorem headsR_refs_apart {w : World} {b1 b2 : Nat} {D D2 : Nat → Prop} {A A' : Option Addr} {n c n' c' : Nat} {hs : List HeadP} {rs : List RecP} (h : OwnHeadsR w b1 D A n c hs) (h' : OwnRefs w b2 D2 A' n' c' rs) : ∀ k, blk A' = some k → some k ≠ blk A := by
 obtain ⟨_, h1, _⟩ := h
 obtain ⟨_, h2, _⟩ := h'
 exact own_apart6 h1 h2 (by decide)
set_option maxRecDepth 100000 in
theorem slice_headsR {b off k c j : Nat} {AL : Addr} (W : World) (hj : j + 1 ≤ k) (h : (if c = j + 1 then some (Addr.mk b off none) else Option.map (fun y => y.add ((j + 1) * 6)) (some (Addr.mk b off none))) = some AL) :
  (Instr.sliceAt 24 (.slice (some (Addr.mk b off none)) k c) (some (.int .i64 ((j : Int) + 1))) none none).run Tryz.prog W = .ok (.slice (some AL) (k - (j + 1)) (c - (j + 1))) W := by
 obtain ⟨i, hi, _, hz1, _⟩ := info_parts info_headR
 have hs : (sizeOf 40).run Tryz.prog W = .ok 6 W := by simp [sizeOf, typeInfo, hi, hz1]
 have e : ((j : Int) + 1).toNat = j + 1 := by omega
 have h0 : (0 : Int) ≤ (j : Int) + 1 := by omega
 have h1 : (j : Int) + 1 ≤ (k : Int) := by omega
 rw [run_sliceAt_slice _ _ _ _ _ _ Tryz.underlying24, run_slice_l _ _ _ _ _ Tryz.underlying24 _ _ h0 h1, e]
 show ((sizeOf 40).run Tryz.prog W).andThen _ = _
 rw [hs]
 show Result.ok (Value.slice _ _ _) W = _
 rw [h]
theorem findIdx_here {rs : List RecP} {s : Int} {q : Nat} (h0 : ∀ x (h : x < rs.length), x < q → rs[x].seq ≠ s) (hq : q < rs.length) (he : rs[q].seq = s) : rs.findIdx? (fun r => r.seq == s) = some q := by
 rw [List.findIdx?_eq_some_iff_getElem]
 exact ⟨hq, by simpa using he, fun j hj => by simpa using h0 j (by omega) hj⟩
theorem findIdx_off {rs : List RecP} {s : Int} (h0 : ∀ x (h : x < rs.length), x < rs.length → rs[x].seq ≠ s) : rs.findIdx? (fun r => r.seq == s) = none := by
 rw [List.findIdx?_eq_none_iff]
 intro r hr
 obtain ⟨i, hi, rfl⟩ := List.mem_iff_getElem.1 hr
 simpa using h0 i hi hi
set_option maxRecDepth 100000 in
set_option maxHeartbeats 4000000 in
theorem make24_any (D : Nat → Prop) (A : Option Addr) (n c : Nat) (ls : List (List UInt8)) (s : Int) (w : World) (hI : Imgs w D A n ls) (hn : n ≤ 100000) :
  Calls Tryz.prog 20 #[.slice A n c, .int .u64 s] w (DecRet (makeOf ls s) w) := by
 have HL := Lib.hid hI.len
 have kB : New w (w.alloc (.cells #[.int .i64 0, .int .u64 0, .int .i64 0, .int .i64 0, .slice none 0 0, .slice none 0 0, .int .i64 0, .slice none 0 0, .slice none 0 0, .slice none 0 0] 50)) := (New.refl w).alloc _
 have hG := heap_alloc_new w (.cells #[.int .i64 0, .int .u64 0, .int .i64 0, .int .i64 0, .slice none 0 0, .slice none 0 0, .int .i64 0, .slice none 0 0, .slice none 0 0, .slice none 0 0] 50)
 have HI := Lib.hid (hI.new kB)
 have HSZ : Hid ((w.alloc (.cells #[.int .i64 0, .int .u64 0, .int .i64 0, .int .i64 0, .slice none 0 0, .slice none 0 0, .int .i64 0, .slice none 0 0, .slice none 0 0, .slice none 0 0] 50)).heap.size = w.heap.size + 1) := Lib.hid (by simp)
 have HKB := Lib.hid kB
 have HG := Lib.hid hG
 clear hI kB hG
 go_enter Tryz.func20, Tryz.ntmps20
 go_wp2_with fail
 generalize w.alloc (.cells #[.int .i64 0, .int .u64 0, .int .i64 0, .int .i64 0, .slice none 0 0, .slice none 0 0, .int .i64 0, .slice none 0 0, .slice none 0 0, .slice none 0 0] 50) = w0 at *
 generalize hgb : w.heap.size = gb at *
 go_loopw [6, 7, 8] (fun s6 s7 i wx => ∃ (k : Nat) (A' A'' : Option Addr) (c' c'' : Nat) (hs : List HeadP) (rss : List (List RecP)), k ≤ n ∧ i = .int .i64 (k : Int) ∧ s6 = .slice A' k c' ∧ s7 = .slice A'' k c'' ∧ DuoR wx w0.heap.size A' k c' hs A'' k c'' rss ∧ New w0 wx ∧ (∀ rs ∈ rss, (leavesOf rs).flatten.length ≤ 942 ∧ rs.length ≤ 942) ∧
  gather none ls = (gather hs.getLast? (ls.drop k)).map fun q => (hs ++ q.1, rss ++ q.2)) (fun _ _ i _ => n - (intOf i).toNat)
 case atStart => exact ⟨0, none, none, 0, 0, [], [], Nat.zero_le _, rfl, rfl, rfl, DuoR.nil _ _, New.refl _, (fun _ h => absurd h (by simp)), by rw [List.drop_zero]; cases h : gather none ls <;> simp [h]⟩
 case round =>
  obtain ⟨k, A', A'', c', c'', hs, rss, hk, rfl, rfl, rfl, hpr, hK, hsm0, hgo⟩ := hrel
  have HP := Lib.hid hpr
  have HGA := Lib.hid hgo
  have HK := Lib.hid hK
  have HSM := Lib.hid hsm0
  clear hpr hgo hK hsm0
  by_cases hlt : k < n
  ·have hkl : k < ls.length := by have := HL.out; omega
   obtain ⟨b, off, J, ci, rfl, _, u0, hci, hci9, hbs⟩ := (HI.out.new HK.out).at_ hkl
   have HW := Lib.hid (gather_more hkl HGA.out)
   have HRD := Lib.hid (read17_any D J ls[k].length ci ls[k] wr hbs hci hci9)
   have hsm := segRead_small ls[k]
   have hfi := read_first ls[k]
   clear hbs
   generalize segRead ls[k] = d at *
   obtain ⟨h, rr, why⟩ := d
   dsimp only at hsm hfi HW
   generalize ls[k].length = il at *
   go_wp2_with fail
   refine HRD.out.mono ?_
   rintro e w2 ⟨⟨P1, p1, P2, p2, A3, c3, rfl, hp1, hp2, hb1, hb2, ho3⟩, hK2⟩
   dsimp only at hp1 hp2 hb1 hb2 ho3
   have kA := (New.refl w2).alloc (.cells #[.int .i64 h.index, .int .u64 h.first, .int .i64 h.count, .int .i64 h.bytes, .slice P1 h.prev.length p1, .slice P2 h.root.length p2] 40)
   have hH := heap_alloc_new w2 (.cells #[.int .i64 h.index, .int .u64 h.first, .int .i64 h.count, .int .i64 h.bytes, .slice P1 h.prev.length p1, .slice P2 h.root.length p2] 40)
   have HB1 := Lib.hid (hb1.new kA)
   have HB2 := Lib.hid (hb2.new kA)
   have HO3 := Lib.hid (ho3.new kA)
   have HK2 := Lib.hid (hK2.new kA)
   have HH := Lib.hid hH
   have HF := Lib.hid hfi
   have HS3 := Lib.hid hsm
   clear hb1 hb2 ho3 hK2 kA hH hfi hsm HRD
   go_upto_region 7 with fail
   generalize w2.alloc (.cells #[.int .i64 h.index, .int .u64 h.first, .int .i64 h.count, .int .i64 h.bytes, .slice P1 h.prev.length p1, .slice P2 h.root.length p2] 40) = w3 at *
   generalize w2.heap.size = g3 at *
   by_cases hy : why = 0
   ·subst hy
    by_cases hk0 : k = 0
    ·have hk0' : ¬ (0 : Int) < (k : Int) := by omega
     have hnil : hs = [] := List.eq_nil_of_length_eq_zero (by have := HP.out.heads.len; omega)
     have HM1 := Lib.hid (HW.out.2 ⟨rfl, by rw [hnil]; rfl⟩)
     have hk1 : ¬ 0 < k := by omega
     clear HW HGA hnil hk0
     refine hold_begin (by kernel_rfl) ?_
     have n0 : New w3 w3.drew := (New.refl w3).drew
     refine take1 0 ?_
     refine take1 1 ?_
     refine take1 2 ?_
     refine take1 3 ?_
     refine take1 4 ?_
     refine take1 5 ?_
     refine skip1 6 ?_
     refine skip1 7 ?_
     refine skip1 8 ?_
     refine skip1 9 ?_
     refine skip1 10 ?_
     refine skip1 11 ?_
     refine skip1 12 ?_
     refine skip1 13 ?_
     refine take1 14 ?_
     refine take1 15 ?_
     refine wpAnyH_done (by kernel_rfl) ?_ _
     have k5 : New w3 w3.drew := n0
     have HH5 := k5.blockAt HH.out trivial
     have hKK := (HK.out.new HK2.out).new k5
     have hP5 := HP.out.new (HK2.out.new k5)
     have hge : w0.heap.size ≤ wr.heap.size := HK.out.size
     have hltA : ∀ j, blk A' = some j → j < wr.heap.size := fun j hj => (HP.out.heads.lt j hj).2
     have hltR : ∀ j, blk A'' = some j → j < wr.heap.size := fun j hj => (HP.out.recs.lt j hj).2
     have hy1 : Bs w3.drew (fun b => (w0.heap.size ≤ b ∧ some b ≠ blk A'') ∧ some b ≠ blk A') P1 h.prev.length h.prev := (Row.imp HB1.out (fun b _ hb => ⟨⟨Nat.le_trans hge hb, fun e => by have := hltR b e.symm; omega⟩, fun e => by have := hltA b e.symm; omega⟩)).new k5
     have hy2 : Bs w3.drew (fun b => (w0.heap.size ≤ b ∧ some b ≠ blk A'') ∧ some b ≠ blk A') P2 h.root.length h.root := (Row.imp HB2.out (fun b _ hb => ⟨⟨Nat.le_trans hge hb, fun e => by have := hltR b e.symm; omega⟩, fun e => by have := hltA b e.symm; omega⟩)).new k5
     have hS3 := (HO3.out.new k5)
     generalize w3.drew = w5 at *
     have kN := (New.refl w5).alloc (.cells #[.int .i64 h.index, .int .u64 h.first, .int .i64 h.count, .int .i64 h.bytes, .slice P1 h.prev.length p1, .slice P2 h.root.length p2] 40)
     have hrow := Row.made w5 40 #[.int .i64 h.index, .int .u64 h.first, .int .i64 h.count, .int .i64 h.bytes, .slice P1 h.prev.length p1, .slice P2 h.root.length p2] 1 6 rfl
     have HPA := Lib.hid (hP5.new kN)
     have HNA := Lib.hid (hKK.new kN)
     have hya1 := hy1.new kN
     have hya2 := hy2.new kN
     have HOA := Lib.hid (hS3.new kN)
     have hsA : w0.heap.size ≤ (w5.alloc (.cells #[.int .i64 h.index, .int .u64 h.first, .int .i64 h.count, .int .i64 h.bytes, .slice P1 h.prev.length p1, .slice P2 h.root.length p2] 40)).heap.size := HNA.out.size
     have hf0 := HF.out.1
     have hf1 := HF.out.2
     have hbd : k + 1 ≤ 1099511627776 := by omega
     have HLTA := Lib.hid hltA
     have HLTR := Lib.hid hltR
     obtain ⟨y0, y1, y2, y3, y4, y5⟩ := cs6 HH5
     have HY5 := Lib.hid HH5
     clear k5 HH5 hKK hP5 hy1 hy2 hS3 hltA hltR kN HB1 HB2 HO3 HH HP
     go_wp2_with (first
      | (at_builtin; refine app_headsR _ rfl _ _ rfl w0.heap.size (fun b => w0.heap.size ≤ b ∧ some b ≠ blk A'') A' k c' hs rfl HPA.out.heads _ _ 1 P1 P2 p1 p2 h rfl hrow hya1 hya2 hp1 hp2 hf0 hf1 hbd hsA ?_; intro A4 c4 w4 hown4 hg4 hbk4; have HP4 := Lib.hid ((HPA.out.head hown4 hg4 hbk4).new ((New.refl w4).alloc (.cells #[.slice A3 rr.length c3] 25))); have HR4 := Lib.hid ((refs_grown HLTA.out HPA.out.heads HOA.out hg4 hbk4).new ((New.refl w4).alloc (.cells #[.slice A3 rr.length c3] 25))); have HN4 := Lib.hid ((HNA.out.grown hg4 (fun j hj _ => (HPA.out.heads.lt j hj).1)).new ((New.refl w4).alloc (.cells #[.slice A3 rr.length c3] 25))); have hrow4 := Row.made w4 25 #[.slice A3 rr.length c3] 1 1 rfl; have hs4 := HN4.out.size; have hc3 := HR4.out.cap; have hc39 := HR4.out.capMax; have hap := headsR_refs_apart HP4.out.heads HR4.out; clear hown4 hg4 hbk4)
      | (at_builtin; refine app_refss _ rfl _ _ rfl w0.heap.size (fun b => w0.heap.size ≤ b ∧ some b ≠ blk A4) A'' k c'' rss rfl HP4.out.recs _ _ 1 A3 rr.length c3 rr rfl hrow4 (HR4.out.sl HS3.out.1 (fun b hb => ⟨⟨Nat.le_trans hge (HR4.out.lt b hb).1, hap b hb⟩, fun e => by have h8 := HLTR.out b e.symm; have h9 := (HR4.out.lt b hb).1; omega⟩) (fun b hb => ⟨⟨Nat.le_trans hge hb.1, hb.2⟩, fun e => by have := HLTR.out b e.symm; omega⟩)) hc3 hc39 hbd hs4 ?_; intro A5 c5 w6 hown5 hg5 hbk5; have HP5 := Lib.hid (HP4.out.more hown5 hg5 hbk5); have HN5 := Lib.hid (HN4.out.grown hg5 (fun j hj _ => (HP4.out.recs.lt j hj).1)); clear hown5 hg5 hbk5))
     go_roundw
     case rel => exact ⟨k + 1, A4, A5, c4, c5, _, _, by omega, by go_num, rfl, rfl, HP5.out, HN5.out, (fun rs hrs => (List.mem_append.1 hrs).elim (fun h1 => HSM.out rs h1) (fun h1 => by rw [List.mem_singleton] at h1; subst h1; exact HS3.out.2)), HM1.out⟩
     case measure => simp [intOf]; omega
    ·have hk0' : (0 : Int) < (k : Int) := by omega
     have hk1 : 0 < k := by omega
     have hkm : k - 1 < hs.length := by have := HP.out.heads.len; omega
     have hq1 : IntKind.i64.wrap ((k : Int) - 1) = ((k - 1 : Nat) : Int) := by rw [IntWalk.i64_in _ (by omega)]; omega
     have hq2 : k - 1 < k := by omega
     have HLAST : Hid (hs.getLast? = some hs[k - 1]) := Lib.hid (by rw [List.getLast?_eq_getElem?, HP.out.heads.len, List.getElem?_eq_getElem hkm])
     obtain ⟨b5, off5, Q1, q1, Q2, q2, rfl, _, a0, a1, a2, a3, a4, a5, l1, l2, b1, b2, g0, g1⟩ := ((HP.out.heads.heads.new HK2.out)).at_ hkm
     generalize hs[k - 1] = ha at *
     have HFL := Lib.hid (fun W (hW : New w3 W) => behind_any _ _ _ (fun _ => True) Q1 Q2 P1 P2 q1 q2 p1 p2 ha h W (b1.new hW) l1 (b2.new hW) l2 (HB1.out.new hW) g0 g1)
     have v0 : ∀ W, New w3 W → W.cell? _ = _ := fun W hW => hW.cell_some a0 trivial
     have v1 : ∀ W, New w3 W → W.cell? _ = _ := fun W hW => hW.cell_some a1 trivial
     have v2 : ∀ W, New w3 W → W.cell? _ = _ := fun W hW => hW.cell_some a2 trivial
     have v3 : ∀ W, New w3 W → W.cell? _ = _ := fun W hW => hW.cell_some a3 trivial
     have v4 : ∀ W, New w3 W → W.cell? _ = _ := fun W hW => hW.cell_some a4 trivial
     have v5 : ∀ W, New w3 W → W.cell? _ = _ := fun W hW => hW.cell_some a5 trivial
     have y0 : ∀ W, New w3 W → W.cell? ⟨g3, 0, none⟩ = _ := fun W hW => cellOf (hW.blockAt HH.out trivial) (k := 0) rfl
     have y1 : ∀ W, New w3 W → W.cell? ⟨g3, 1, none⟩ = _ := fun W hW => cellOf (hW.blockAt HH.out trivial) (k := 1) rfl
     have y2 : ∀ W, New w3 W → W.cell? ⟨g3, 2, none⟩ = _ := fun W hW => cellOf (hW.blockAt HH.out trivial) (k := 2) rfl
     have y3 : ∀ W, New w3 W → W.cell? ⟨g3, 3, none⟩ = _ := fun W hW => cellOf (hW.blockAt HH.out trivial) (k := 3) rfl
     have y4 : ∀ W, New w3 W → W.cell? ⟨g3, 4, none⟩ = _ := fun W hW => cellOf (hW.blockAt HH.out trivial) (k := 4) rfl
     have y5 : ∀ W, New w3 W → W.cell? ⟨g3, 5, none⟩ = _ := fun W hW => cellOf (hW.blockAt HH.out trivial) (k := 5) rfl
     clear a0 a1 a2 a3 a4 a5 b1 b2 l1 l2 g0 g1
     cases hfo : followOf ha h
     ·rw [hfo] at HFL
      have HR : Hid (makeOf ls s = (noProof, 40)) := Lib.hid (by unfold makeOf; rw [HW.out.1 (by rw [HLAST.out]; show ¬ (_ ∧ followOf ha h = true); rw [hfo]; simp)])
      clear hfo HW HGA
      refine hold_begin (by kernel_rfl) ?_
      have n0 : New w3 w3.drew := (New.refl w3).drew
      replace v0 := fun W (hW : New w3.drew W) => v0 W (Keep.new n0 hW)
      replace v1 := fun W (hW : New w3.drew W) => v1 W (Keep.new n0 hW)
      replace v2 := fun W (hW : New w3.drew W) => v2 W (Keep.new n0 hW)
      replace v3 := fun W (hW : New w3.drew W) => v3 W (Keep.new n0 hW)
      replace v4 := fun W (hW : New w3.drew W) => v4 W (Keep.new n0 hW)
      replace v5 := fun W (hW : New w3.drew W) => v5 W (Keep.new n0 hW)
      replace y0 := fun W (hW : New w3.drew W) => y0 W (Keep.new n0 hW)
      replace y1 := fun W (hW : New w3.drew W) => y1 W (Keep.new n0 hW)
      replace y2 := fun W (hW : New w3.drew W) => y2 W (Keep.new n0 hW)
      replace y3 := fun W (hW : New w3.drew W) => y3 W (Keep.new n0 hW)
      replace y4 := fun W (hW : New w3.drew W) => y4 W (Keep.new n0 hW)
      replace y5 := fun W (hW : New w3.drew W) => y5 W (Keep.new n0 hW)
      refine take1 0 ?_
      refine take1 1 ?_
      refine take1 2 ?_
      refine take1 3 ?_
      refine take1 4 ?_
      refine take1 5 ?_
      refine take1 6 ?_
      refine take1 7 ?_
      refine take1 8 ?_
      refine take1 9 ?_
      refine take1 10 ?_
      refine take1 11 ?_
      refine hold_step (i := 12) (by kernel_rfl) rfl rfl (fun K hK => ?_)
      go_simp
      refine (HFL.out _ n0).mono ?_
      rintro e w4 ⟨rfl, k4⟩
      go_wp2_with fail
      refine hK.out _ _ k4 ?_
      clear hK K
      try simp only [Act.put, ly1, ly2, ly3, ly4, ly5, ly6]
      replace n0 := Keep.new n0 k4
      replace v0 := fun W (hW : New w4 W) => v0 W (Keep.new k4 hW)
      replace v1 := fun W (hW : New w4 W) => v1 W (Keep.new k4 hW)
      replace v2 := fun W (hW : New w4 W) => v2 W (Keep.new k4 hW)
      replace v3 := fun W (hW : New w4 W) => v3 W (Keep.new k4 hW)
      replace v4 := fun W (hW : New w4 W) => v4 W (Keep.new k4 hW)
      replace v5 := fun W (hW : New w4 W) => v5 W (Keep.new k4 hW)
      replace y0 := fun W (hW : New w4 W) => y0 W (Keep.new k4 hW)
      replace y1 := fun W (hW : New w4 W) => y1 W (Keep.new k4 hW)
      replace y2 := fun W (hW : New w4 W) => y2 W (Keep.new k4 hW)
      replace y3 := fun W (hW : New w4 W) => y3 W (Keep.new k4 hW)
      replace y4 := fun W (hW : New w4 W) => y4 W (Keep.new k4 hW)
      replace y5 := fun W (hW : New w4 W) => y5 W (Keep.new k4 hW)
      refine take1 13 ?_
      refine take1 14 ?_
      refine take1 15 ?_
      refine wpAnyH_done (by kernel_rfl) ?_ _
      clear v0 v1 v2 v3 v4 v5 y0 y1 y2 y3 y4 y5
      have hN := (HK.out.new HK2.out).new (n0)
      have hGc := hN.blockAt HG.out trivial
      obtain ⟨d0, d1, d2, d3, d4, d5, d6, d7, d8, d9⟩ := cs10 hGc
      obtain ⟨z0, z1, z2, z3, z4, z5, z6, z7, z8, z9⟩ := fz10 hGc
      have HN := Lib.hid hN
      have HGc := Lib.hid hGc
      clear hN hGc
      go_wp2_with fail
      clear d0 d1 d2 d3 d4 d5 d6 d7 d8 d9 z0 z1 z2 z3 z4 z5 z6 z7 z8 z9
      have hE := set_ten HGc.out (.int .i64 0) (.int .u64 0) (.int .i64 0) (.int .i64 0) (.slice none 0 0) (.slice none 0 0) (.int .i64 0) (.slice none 0 0) (.slice none 0 0) (.slice none 0 0)
      have hKE := new_ten (g := gb) (HKB.out.new HN.out) (by omega) (.int .i64 0) (.int .u64 0) (.int .i64 0) (.int .i64 0) (.slice none 0 0) (.slice none 0 0) (.int .i64 0) (.slice none 0 0) (.slice none 0 0) (.slice none 0 0)
      generalize hwE : World.setCell _ _ _ = wE at *
      obtain ⟨f0, f1, f2, f3, f4, f5, f6, f7, f8, f9⟩ := cs10 hE
      refine bodyPost_ret (v := .tuple #[.agg #[.int .i64 0, .int .u64 0, .int .i64 0, .int .i64 0, .slice none 0 0, .slice none 0 0, .int .i64 0, .slice none 0 0, .slice none 0 0, .slice none 0 0], .int .i64 40]) (by simp [results, Tryz.results20, go_sem, f0, f1, f2, f3, f4, f5, f6, f7, f8, f9]) rfl ?_
      rw [HR.out]
      exact ⟨⟨none, none, none, none, none, 0, 0, 0, 0, 0, rfl, ⟨Row.nil _ _ _ _, Row.nil _ _ _ _, Row.nil _ _ _ _, imgs_sl.2 (Sl.nil _ _ _ _), Nat.le_refl _, Nat.le_refl _, Nat.le_refl _, by decide, Nat.le_refl _, by decide, by decide, by decide⟩, Heads.nil _ _ _⟩, hKE⟩
     ·have HM1 := Lib.hid (HW.out.2 ⟨rfl, by rw [HLAST.out]; exact hfo⟩)
      rw [hfo] at HFL
      clear hfo HW HGA
      refine hold_begin (by kernel_rfl) ?_
      have n0 : New w3 w3.drew := (New.refl w3).drew
      replace v0 := fun W (hW : New w3.drew W) => v0 W (Keep.new n0 hW)
      replace v1 := fun W (hW : New w3.drew W) => v1 W (Keep.new n0 hW)
      replace v2 := fun W (hW : New w3.drew W) => v2 W (Keep.new n0 hW)
      replace v3 := fun W (hW : New w3.drew W) => v3 W (Keep.new n0 hW)
      replace v4 := fun W (hW : New w3.drew W) => v4 W (Keep.new n0 hW)
      replace v5 := fun W (hW : New w3.drew W) => v5 W (Keep.new n0 hW)
      replace y0 := fun W (hW : New w3.drew W) => y0 W (Keep.new n0 hW)
      replace y1 := fun W (hW : New w3.drew W) => y1 W (Keep.new n0 hW)
      replace y2 := fun W (hW : New w3.drew W) => y2 W (Keep.new n0 hW)
      replace y3 := fun W (hW : New w3.drew W) => y3 W (Keep.new n0 hW)
      replace y4 := fun W (hW : New w3.drew W) => y4 W (Keep.new n0 hW)
      replace y5 := fun W (hW : New w3.drew W) => y5 W (Keep.new n0 hW)
      refine take1 0 ?_
      refine take1 1 ?_
      refine take1 2 ?_
      refine take1 3 ?_
      refine take1 4 ?_
      refine take1 5 ?_
      refine take1 6 ?_
      refine take1 7 ?_
      refine take1 8 ?_
      refine take1 9 ?_
      refine take1 10 ?_
      refine take1 11 ?_
      refine hold_step (i := 12) (by kernel_rfl) rfl rfl (fun K hK => ?_)
      go_simp
      refine (HFL.out _ n0).mono ?_
      rintro e w4 ⟨rfl, k4⟩
      go_wp2_with fail
      refine hK.out _ _ k4 ?_
      clear hK K
      try simp only [Act.put, ly1, ly2, ly3, ly4, ly5, ly6]
      replace n0 := Keep.new n0 k4
      replace v0 := fun W (hW : New w4 W) => v0 W (Keep.new k4 hW)
      replace v1 := fun W (hW : New w4 W) => v1 W (Keep.new k4 hW)
      replace v2 := fun W (hW : New w4 W) => v2 W (Keep.new k4 hW)
      replace v3 := fun W (hW : New w4 W) => v3 W (Keep.new k4 hW)
      replace v4 := fun W (hW : New w4 W) => v4 W (Keep.new k4 hW)
      replace v5 := fun W (hW : New w4 W) => v5 W (Keep.new k4 hW)
      replace y0 := fun W (hW : New w4 W) => y0 W (Keep.new k4 hW)
      replace y1 := fun W (hW : New w4 W) => y1 W (Keep.new k4 hW)
      replace y2 := fun W (hW : New w4 W) => y2 W (Keep.new k4 hW)
      replace y3 := fun W (hW : New w4 W) => y3 W (Keep.new k4 hW)
      replace y4 := fun W (hW : New w4 W) => y4 W (Keep.new k4 hW)
      replace y5 := fun W (hW : New w4 W) => y5 W (Keep.new k4 hW)
      refine take1 13 ?_
      refine take1 14 ?_
      refine take1 15 ?_
      refine wpAnyH_done (by kernel_rfl) ?_ _
      clear v0 v1 v2 v3 v4 v5 y0 y1 y2 y3 y4 y5
      have k5 : New w3 w4 := n0
      have HH5 := k5.blockAt HH.out trivial
      have hKK := (HK.out.new HK2.out).new k5
      have hP5 := HP.out.new (HK2.out.new k5)
      have hge : w0.heap.size ≤ wr.heap.size := HK.out.size
      have hltA : ∀ j, blk (some (Addr.mk b5 off5 none)) = some j → j < wr.heap.size := fun j hj => (HP.out.heads.lt j hj).2
      have hltR : ∀ j, blk A'' = some j → j < wr.heap.size := fun j hj => (HP.out.recs.lt j hj).2
      have hy1 : Bs w4 (fun b => (w0.heap.size ≤ b ∧ some b ≠ blk A'') ∧ some b ≠ blk (some (Addr.mk b5 off5 none))) P1 h.prev.length h.prev := (Row.imp HB1.out (fun b _ hb => ⟨⟨Nat.le_trans hge hb, fun e => by have := hltR b e.symm; omega⟩, fun e => by have := hltA b e.symm; omega⟩)).new k5
      have hy2 : Bs w4 (fun b => (w0.heap.size ≤ b ∧ some b ≠ blk A'') ∧ some b ≠ blk (some (Addr.mk b5 off5 none))) P2 h.root.length h.root := (Row.imp HB2.out (fun b _ hb => ⟨⟨Nat.le_trans hge hb, fun e => by have := hltR b e.symm; omega⟩, fun e => by have := hltA b e.symm; omega⟩)).new k5
      have hS3 := (HO3.out.new k5)
      generalize w4 = w5 at *
      have kN := (New.refl w5).alloc (.cells #[.int .i64 h.index, .int .u64 h.first, .int .i64 h.count, .int .i64 h.bytes, .slice P1 h.prev.length p1, .slice P2 h.root.length p2] 40)
      have hrow := Row.made w5 40 #[.int .i64 h.index, .int .u64 h.first, .int .i64 h.count, .int .i64 h.bytes, .slice P1 h.prev.length p1, .slice P2 h.root.length p2] 1 6 rfl
      have HPA := Lib.hid (hP5.new kN)
      have HNA := Lib.hid (hKK.new kN)
      have hya1 := hy1.new kN
      have hya2 := hy2.new kN
      have HOA := Lib.hid (hS3.new kN)
      have hsA : w0.heap.size ≤ (w5.alloc (.cells #[.int .i64 h.index, .int .u64 h.first, .int .i64 h.count, .int .i64 h.bytes, .slice P1 h.prev.length p1, .slice P2 h.root.length p2] 40)).heap.size := HNA.out.size
      have hf0 := HF.out.1
      have hf1 := HF.out.2
      have hbd : k + 1 ≤ 1099511627776 := by omega
      have HLTA := Lib.hid hltA
      have HLTR := Lib.hid hltR
      obtain ⟨y0, y1, y2, y3, y4, y5⟩ := cs6 HH5
      have HY5 := Lib.hid HH5
      clear k5 HH5 hKK hP5 hy1 hy2 hS3 hltA hltR kN HB1 HB2 HO3 HH HP
      go_wp2_with (first
       | (at_builtin; refine app_headsR _ rfl _ _ rfl w0.heap.size (fun b => w0.heap.size ≤ b ∧ some b ≠ blk A'') (some (Addr.mk b5 off5 none)) k c' hs rfl HPA.out.heads _ _ 1 P1 P2 p1 p2 h rfl hrow hya1 hya2 hp1 hp2 hf0 hf1 hbd hsA ?_; intro A4 c4 w4 hown4 hg4 hbk4; have HP4 := Lib.hid ((HPA.out.head hown4 hg4 hbk4).new ((New.refl w4).alloc (.cells #[.slice A3 rr.length c3] 25))); have HR4 := Lib.hid ((refs_grown HLTA.out HPA.out.heads HOA.out hg4 hbk4).new ((New.refl w4).alloc (.cells #[.slice A3 rr.length c3] 25))); have HN4 := Lib.hid ((HNA.out.grown hg4 (fun j hj _ => (HPA.out.heads.lt j hj).1)).new ((New.refl w4).alloc (.cells #[.slice A3 rr.length c3] 25))); have hrow4 := Row.made w4 25 #[.slice A3 rr.length c3] 1 1 rfl; have hs4 := HN4.out.size; have hc3 := HR4.out.cap; have hc39 := HR4.out.capMax; have hap := headsR_refs_apart HP4.out.heads HR4.out; clear hown4 hg4 hbk4)
       | (at_builtin; refine app_refss _ rfl _ _ rfl w0.heap.size (fun b => w0.heap.size ≤ b ∧ some b ≠ blk A4) A'' k c'' rss rfl HP4.out.recs _ _ 1 A3 rr.length c3 rr rfl hrow4 (HR4.out.sl HS3.out.1 (fun b hb => ⟨⟨Nat.le_trans hge (HR4.out.lt b hb).1, hap b hb⟩, fun e => by have h8 := HLTR.out b e.symm; have h9 := (HR4.out.lt b hb).1; omega⟩) (fun b hb => ⟨⟨Nat.le_trans hge hb.1, hb.2⟩, fun e => by have := HLTR.out b e.symm; omega⟩)) hc3 hc39 hbd hs4 ?_; intro A5 c5 w6 hown5 hg5 hbk5; have HP5 := Lib.hid (HP4.out.more hown5 hg5 hbk5); have HN5 := Lib.hid (HN4.out.grown hg5 (fun j hj _ => (HP4.out.recs.lt j hj).1)); clear hown5 hg5 hbk5))
      go_roundw
      case rel => exact ⟨k + 1, A4, A5, c4, c5, _, _, by omega, by go_num, rfl, rfl, HP5.out, HN5.out, (fun rs hrs => (List.mem_append.1 hrs).elim (fun h1 => HSM.out rs h1) (fun h1 => by rw [List.mem_singleton] at h1; subst h1; exact HS3.out.2)), HM1.out⟩
      case measure => simp [intOf]; omega
   ·have hy' : (why != 0) = true := by simpa using hy
    have HR : Hid (makeOf ls s = (noProof, 40)) := Lib.hid (by unfold makeOf; rw [HW.out.1 (fun h => hy h.1)])
    refine hold_begin (by kernel_rfl) ?_
    have n0 : New w3 w3.drew := (New.refl w3).drew
    refine take1 0 ?_
    refine take1 1 ?_
    refine take1 2 ?_
    refine skip1 3 ?_
    refine skip1 4 ?_
    refine skip1 5 ?_
    refine skip1 6 ?_
    refine skip1 7 ?_
    refine skip1 8 ?_
    refine skip1 9 ?_
    refine skip1 10 ?_
    refine skip1 11 ?_
    refine skip1 12 ?_
    refine skip1 13 ?_
    refine skip1 14 ?_
    refine take1 15 ?_
    refine wpAnyH_done (by kernel_rfl) ?_ _
    have hN := (HK.out.new HK2.out).new (n0)
    have hGc := hN.blockAt HG.out trivial
    clear n0
    generalize w3.drew = w4 at *
    obtain ⟨d0, d1, d2, d3, d4, d5, d6, d7, d8, d9⟩ := cs10 hGc
    obtain ⟨z0, z1, z2, z3, z4, z5, z6, z7, z8, z9⟩ := fz10 hGc
    have HN := Lib.hid hN
    have HGc := Lib.hid hGc
    clear hN hGc
    go_wp2_with fail
    clear d0 d1 d2 d3 d4 d5 d6 d7 d8 d9 z0 z1 z2 z3 z4 z5 z6 z7 z8 z9
    have hE := set_ten HGc.out (.int .i64 0) (.int .u64 0) (.int .i64 0) (.int .i64 0) (.slice none 0 0) (.slice none 0 0) (.int .i64 0) (.slice none 0 0) (.slice none 0 0) (.slice none 0 0)
    have hKE := new_ten (g := gb) (HKB.out.new HN.out) (by omega) (.int .i64 0) (.int .u64 0) (.int .i64 0) (.int .i64 0) (.slice none 0 0) (.slice none 0 0) (.int .i64 0) (.slice none 0 0) (.slice none 0 0) (.slice none 0 0)
    generalize hwE : World.setCell _ _ _ = wE at *
    obtain ⟨f0, f1, f2, f3, f4, f5, f6, f7, f8, f9⟩ := cs10 hE
    refine bodyPost_ret (v := .tuple #[.agg #[.int .i64 0, .int .u64 0, .int .i64 0, .int .i64 0, .slice none 0 0, .slice none 0 0, .int .i64 0, .slice none 0 0, .slice none 0 0, .slice none 0 0], .int .i64 40]) (by simp [results, Tryz.results20, go_sem, f0, f1, f2, f3, f4, f5, f6, f7, f8, f9]) rfl ?_
    rw [HR.out]
    exact ⟨⟨none, none, none, none, none, 0, 0, 0, 0, 0, rfl, ⟨Row.nil _ _ _ _, Row.nil _ _ _ _, Row.nil _ _ _ _, imgs_sl.2 (Sl.nil _ _ _ _), Nat.le_refl _, Nat.le_refl _, Nat.le_refl _, by decide, Nat.le_refl _, by decide, by decide, by decide⟩, Heads.nil _ _ _⟩, hKE⟩
  ·obtain rfl : k = n := by omega
   have HGD := Lib.hid (gather_done (by have := HL.out; omega) HGA.out)
   have HMK : Hid (makeOf ls s = match seekIn s hs rss with | none => (noProof, 20) | some p => (p, 0)) := Lib.hid (by unfold makeOf; rw [HGD.out]; rfl)
   have HLH := Lib.hid HP.out.heads.len
   have HLR := Lib.hid HP.out.recs.len
   clear HGA HGD
   go_wp2_with fail
   generalize wr = w1 at *
   go_loopw [12] (fun i wx => ∃ j : Nat, j ≤ k ∧ i = .int .i64 (j : Int) ∧ wx = w1 ∧ seekIn s hs rss = seekIn s (hs.drop j) (rss.drop j)) (fun i _ => k - (intOf i).toNat)
   case atStart => exact ⟨0, Nat.zero_le _, rfl, rfl, rfl⟩
   case round =>
    obtain ⟨j, hj, rfl, rfl, hsk⟩ := hrel
    have HSK := Lib.hid hsk
    clear hsk
    by_cases hjlt : j < k
    ·have hjr : j < rss.length := by have := HLR.out; omega
     have hjh : j < hs.length := by have := HLH.out; omega
     have HSM1 := Lib.hid (HSM.out rss[j] (List.getElem_mem hjr))
     have HDR : Hid (seekIn s (hs.drop j) (rss.drop j) = match rss[j].findIdx? (fun r => r.seq == s) with | some x => some (madeProof rss[j] hs[j] x (hs.drop (j + 1))) | none => seekIn s (hs.drop (j + 1)) (rss.drop (j + 1))) := Lib.hid (by rw [List.drop_eq_getElem_cons hjh, List.drop_eq_getElem_cons hjr, seekIn]; rfl)
     obtain ⟨b4, off4, Q, qc, rfl, hD4, u0, hqc, hqc9, hrows⟩ := (HP.out.recs.sl).at1 hjr
     have HROWS := Lib.hid hrows
     have hsl := HSM1.out.2
     generalize rss[j] = rs at *
     clear hrows
     go_wp2_with fail
     obtain ⟨w2, hw2⟩ : ∃ w2, w2 = wr := ⟨_, rfl⟩
     go_loopw [13] (fun i wx => ∃ q : Nat, q ≤ rs.length ∧ i = .int .i64 (q : Int) ∧ wx = w2 ∧ ∀ x (h : x < rs.length), x < q → rs[x].seq ≠ s) (fun i _ => rs.length - (intOf i).toNat)
     case atStart => exact ⟨0, Nat.zero_le _, rfl, hw2.symm, fun x _ hx => absurd hx (Nat.not_lt_zero _)⟩
     case round =>
      obtain ⟨q, hq, rfl, rfl, hno⟩ := hrel
      subst hw2
      have HNO := Lib.hid hno
      clear hno
      by_cases hqlt : q < rs.length
      ·obtain ⟨b7, off7, B7, c7, rfl, e0, e1, e2, hb7, hbs7, s0, s1, hb8, hc7⟩ := Recs.at_ HROWS.out hqlt
       have HSE : Hid (rs[q].seq = rs[q].seq) := Lib.hid rfl
       obtain ⟨sq, hsq⟩ : ∃ sq, sq = rs[q].seq := ⟨_, rfl⟩
       rw [← hsq] at e1 s0 s1
       have HSQ := Lib.hid hsq
       clear e0 e2 hbs7 hb7 hb8 hsq HSE hc7
       by_cases hes : sq = s
       ·have hes' : (sq == s) = true := by rw [beq_iff_eq]; exact hes
        have HFI := Lib.hid (findIdx_here HNO.out hqlt (by rw [← HSQ.out]; exact hes))
        have HDR : Hid _ := HDR
        have hdr := HDR.out
        rw [HFI.out] at hdr
        have HMR : Hid (makeOf ls s = (madeProof rs hs[j] q (hs.drop (j + 1)), 0)) := Lib.hid (by rw [HMK.out, HSK.out, hdr])
        have HLL : Hid ((leavesOf rs).length = rs.length) := Lib.hid (by unfold leavesOf; rw [List.length_map])
        have HLV := Lib.hid (leavesM17_any _ (some (Addr.mk b7 off7 none)) rs.length qc rs wr HROWS.out (by omega))
        clear hdr HFI HDR HSK HMK HNO hes HSQ
        go_wp2_with fail
        refine HLV.out.mono ?_
        rintro e w3 ⟨⟨A6, c6, rfl, o6⟩, k3⟩
        have HPA := Lib.hid (fun W (h : New w3 W) => path6_any rs.length _ A6 c6 (leavesOf rs) q W ((o6.new h).imgs.bss) o6.cap (by have := HSM1.out.1; omega) (by have := HSM1.out.2; omega) o6.capMax (by omega))
        have HO6 := Lib.hid o6
        have HK3 := Lib.hid k3
        have hc6 := o6.cap
        clear o6 k3 HLV u0 e1
        go_upto_region 19 with fail
        have hg1 : ∀ b, w0.heap.size ≤ b → b ≠ gb := fun b hb => by have := HSZ.out; omega
        have hlw : w0.heap.size ≤ wr.heap.size := HK.out.size
        have hlw3 : wr.heap.size ≤ w3.heap.size := HK3.out.size
        have HHD := Lib.hid ((HP.out.heads.heads.imp (E := fun b => b ≠ gb ∧ b < w3.heap.size) (fun b hb hd => ⟨hd.elim (fun h1 => hg1 b h1) (fun h1 => hg1 b h1.1), by omega⟩)).new HK3.out)
        have hx6 : q < (leavesOf rs).length := by have := HLL.out; omega
        have HLG : Hid ((leavesOf rs).getD q [] = (leavesOf rs)[q]) := Lib.hid (by rw [List.getD_eq_getElem?_getD, List.getElem?_eq_getElem hx6]; rfl)
        have HMR : Hid (makeOf ls s = (⟨hs[j], (q : Int), (leavesOf rs)[q], pathOf (leavesOf rs) q, hs.drop (j + 1)⟩, 0)) := Lib.hid (by rw [HMR.out, ← HLG.out]; rfl)
        obtain ⟨b6, off6, B6, ld, rfl, hD6, e6, hd6, hd6m, hB6⟩ := (HO6.out.imgs.imp (E := fun b => b ≠ gb ∧ b < w3.heap.size) (fun b hb hd => ⟨hg1 b (by rcases hd with h1 | h1 <;> omega), hb⟩)).at_ hx6
        have hcc := HP.out.heads.cap
        obtain ⟨b5, off5, Q1, q1, Q2, q2, rfl, hD5, a0, a1, a2, a3, a4, a5, l1, l2, b1, b2, g0, g1⟩ := HHD.out.at_ hjh
        have hAL : ∃ AL : Addr, (if c' = j + 1 then some (Addr.mk b5 off5 none) else Option.map (fun y => y.add ((j + 1) * 6)) (some (Addr.mk b5 off5 none))) = some AL ∧ Heads w3 (fun b => b ≠ gb ∧ b < w3.heap.size) (some AL) (k - (j + 1)) (hs.drop (j + 1)) := by
         by_cases hcj : c' = j + 1
         ·refine ⟨Addr.mk b5 off5 none, if_pos hcj, ?_⟩
          rw [show k - (j + 1) = 0 from by omega, List.drop_eq_nil_of_le (by have := HLH.out; omega)]
          exact Heads.nil _ _ _
         ·exact ⟨(Addr.mk b5 off5 none).add ((j + 1) * 6), if_neg hcj, Sl.from_ (E := headElt) HHD.out (by omega)⟩
        obtain ⟨AL, hAL, hHL⟩ := hAL
        have HSV : Hid (∀ W, (Instr.sliceAt 24 (.slice (some (Addr.mk b5 off5 none)) k c') (some (.int .i64 ((j : Int) + 1))) none none).run Tryz.prog W = .ok (.slice (some AL) (k - (j + 1)) (c' - (j + 1))) W) := Lib.hid fun W => slice_headsR W (by omega) hAL
        have hlt1 : (hs.drop (j + 1)).length = k - (j + 1) := by have := HLH.out; rw [List.length_drop]; omega
        have hG3 := (HK.out.new HK3.out).blockAt HG.out trivial
        have HHL := Lib.hid hHL
        generalize hs[j] = hd at *
        generalize (leavesOf rs)[q] = lf at *
        generalize pathOf (leavesOf rs) q = ps at *
        generalize hs.drop (j + 1) = later at *
        clear hAL hHL HHD HO6
        have r0 : ∀ W, Keep (fun b => b ≠ gb) w3.drew W → W.cell? ⟨b5, off5 + j * 6, none⟩ = some (.int .i64 hd.index) := fun W h => h.cell_some (a := w3.drew) a0 hD5.1
        have r1 : ∀ W, Keep (fun b => b ≠ gb) w3.drew W → W.cell? ⟨b5, off5 + j * 6 + 1, none⟩ = some (.int .u64 hd.first) := fun W h => h.cell_some (a := w3.drew) a1 hD5.1
        have r2 : ∀ W, Keep (fun b => b ≠ gb) w3.drew W → W.cell? ⟨b5, off5 + j * 6 + 2, none⟩ = some (.int .i64 hd.count) := fun W h => h.cell_some (a := w3.drew) a2 hD5.1
        have r3 : ∀ W, Keep (fun b => b ≠ gb) w3.drew W → W.cell? ⟨b5, off5 + j * 6 + 3, none⟩ = some (.int .i64 hd.bytes) := fun W h => h.cell_some (a := w3.drew) a3 hD5.1
        have r4 : ∀ W, Keep (fun b => b ≠ gb) w3.drew W → W.cell? ⟨b5, off5 + j * 6 + 4, none⟩ = some (.slice Q1 hd.prev.length q1) := fun W h => h.cell_some (a := w3.drew) a4 hD5.1
        have r5 : ∀ W, Keep (fun b => b ≠ gb) w3.drew W → W.cell? ⟨b5, off5 + j * 6 + 5, none⟩ = some (.slice Q2 hd.root.length q2) := fun W h => h.cell_some (a := w3.drew) a5 hD5.1
        have r6 : ∀ W, Keep (fun b => b ≠ gb) w3.drew W → W.cell? ⟨b6, off6 + q, none⟩ = some (.slice B6 lf.length ld) := fun W h => h.cell_some (a := w3.drew) e6 hD6.1
        have qj : IntKind.i64.wrap ((j : Int) + 1) = (j : Int) + 1 := IntWalk.i64_in _ (by omega)
        clear a0 a1 a2 a3 a4 a5 e6
        refine hold_beginS (Keep (fun b => b ≠ gb) w3.drew) (by kernel_rfl) ?_
        have n0 : Keep (fun b => b ≠ gb) w3.drew w3.drew := Keep.refl _ _
        refine take0 0 n0 ?_
        refine take0 1 n0 ?_
        refine take0 2 n0 ?_
        refine take0 3 n0 ?_
        refine take0 4 n0 ?_
        refine take0 5 n0 ?_
        refine take0 6 n0 ?_
        refine take0 7 n0 ?_
        refine take0 8 n0 ?_
        refine take0 9 n0 ?_
        refine take0 10 n0 ?_
        refine take0 12 n0 ?_
        refine take0 13 n0 ?_
        refine take0 14 n0 ?_
        refine hold_read0 (i := 15) (v := .slice (some AL) (k - (j + 1)) (c' - (j + 1))) n0 rfl (by kernel_rfl) (by kernel_rfl) (by kernel_rfl) (fun _ _ _ h => h) rfl ?_ ?_
        ·intro w' hN
         have h13 := HSV.out w'
         go_simp
         try exact h13
        simp only [Act.put, ly1, ly2, ly3, ly4, ly5, ly6]
        refine hold_step0 (i := 11) (by kernel_rfl) rfl rfl (fun K hK => ?_)
        go_simp
        refine (HPA.out _ (New.refl w3).drew).mono ?_
        rintro e w5 ⟨⟨A8, c8, rfl, o8⟩, k5⟩
        go_wp2_with fail
        have n1 := Keep.new n0 k5
        refine hK.out _ _ n1 ?_
        clear hK K
        try simp only [Act.put, ly1, ly2, ly3, ly4, ly5, ly6]
        replace n0 := n1
        clear n1
        refine take0 16 n0 ?_
        have hG5 := k5.blockAt (show w3.drew.heap[gb]? = _ from hG3) trivial
        obtain ⟨d0, d1, d2, d3, d4, d5, d6, d7, d8, d9⟩ := cs10 hG5
        obtain ⟨z0, z1, z2, z3, z4, z5, z6, z7, z8, z9⟩ := fz10 hG5
        refine hold_step0 (i := 17) (by kernel_rfl) rfl rfl (fun K hK => ?_)
        go_simp
        have n1 := keep_ten w5 gb (.int .i64 hd.index) (.int .u64 hd.first) (.int .i64 hd.count) (.int .i64 hd.bytes) (.slice Q1 hd.prev.length q1) (.slice Q2 hd.root.length q2) (.int .i64 (q : Int)) (.slice B6 lf.length ld) (.slice A8 ps.length c8) (.slice (some AL) (k - (j + 1)) (c' - (j + 1)))
        have n2 := n0.trans n1
        refine hK.out _ _ n2 ?_
        clear hK K
        try simp only [Act.put, ly1, ly2, ly3, ly4, ly5, ly6]
        clear n0
        have n0 := n2
        clear n2 d0 d1 d2 d3 d4 d5 d6 d7 d8 d9 z0 z1 z2 z3 z4 z5 z6 z7 z8 z9
        refine take0 18 n0 ?_
        refine wpAnyH_done (by kernel_rfl) ?_ _
        clear r0 r1 r2 r3 r4 r5 r6
        have hN5 : New w w5 := ((HKB.out.new (HK.out.new HK3.out)).drew).new k5
        have hE := set_ten hG5 (.int .i64 hd.index) (.int .u64 hd.first) (.int .i64 hd.count) (.int .i64 hd.bytes) (.slice Q1 hd.prev.length q1) (.slice Q2 hd.root.length q2) (.int .i64 (q : Int)) (.slice B6 lf.length ld) (.slice A8 ps.length c8) (.slice (some AL) (k - (j + 1)) (c' - (j + 1)))
        have hKE := new_ten (g := gb) hN5 (by omega) (.int .i64 hd.index) (.int .u64 hd.first) (.int .i64 hd.count) (.int .i64 hd.bytes) (.slice Q1 hd.prev.length q1) (.slice Q2 hd.root.length q2) (.int .i64 (q : Int)) (.slice B6 lf.length ld) (.slice A8 ps.length c8) (.slice (some AL) (k - (j + 1)) (c' - (j + 1)))
        have hlo := o8.lt
        have o9 := o8.imgs.keep n1 (fun b _ hb => hg1 b (by have h4 : w3.drew.heap.size = w3.heap.size := rfl; rcases hb with h1 | h1 <;> omega))
        have hc8 := o8.cap
        have hc8m := o8.capMax
        generalize hwE : World.setCell _ _ _ = wE at *
        go_wp2_with fail
        obtain ⟨f0, f1, f2, f3, f4, f5, f6, f7, f8, f9⟩ := cs10 hE
        refine bodyPost_ret (v := .tuple #[.agg #[.int .i64 hd.index, .int .u64 hd.first, .int .i64 hd.count, .int .i64 hd.bytes, .slice Q1 hd.prev.length q1, .slice Q2 hd.root.length q2, .int .i64 (q : Int), .slice B6 lf.length ld, .slice A8 ps.length c8, .slice (some AL) (k - (j + 1)) (c' - (j + 1))], .int .i64 0]) (by simp [results, Tryz.results20, go_sem, f0, f1, f2, f3, f4, f5, f6, f7, f8, f9]) rfl ?_
        rw [HMR.out]
        refine ⟨⟨Q1, Q2, B6, A8, some AL, q1, q2, ld, c8, c' - (j + 1), by rw [hlt1], ⟨?_, ?_, ?_, ?_, l1, l2, hd6, hd6m, hc8, hc8m, g0, g1⟩, ?_⟩, hKE⟩
        ·exact (b1.drew.keep n0 (fun b _ hb => hb.1)).imp fun _ _ _ => trivial
        ·exact (b2.drew.keep n0 (fun b _ hb => hb.1)).imp fun _ _ _ => trivial
        ·exact (hB6.drew.keep n0 (fun b _ hb => hb.1)).imp fun _ _ _ => trivial
        ·exact o9.imp fun _ _ _ => trivial
        ·dsimp only
         rw [hlt1]
         exact ((HHL.out.new ((New.refl w3).drew)).keep n0 (fun b _ hb => hb.1)).imp fun _ _ _ => trivial
       ·have hes' : (sq == s) = false := by rw [beq_eq_false_iff_ne]; exact hes
        have HN2 : Hid (∀ x (h : x < rs.length), x < q + 1 → rs[x].seq ≠ s) := Lib.hid fun x hx hxq => by
         by_cases hxe : x = q
         ·subst hxe; rw [← HSQ.out]; exact hes
         ·exact HNO.out x hx (by omega)
        clear hes HNO
        go_wp2_with fail
        go_roundw
        case rel => exact ⟨q + 1, by omega, by go_num, by first | rfl | trivial, HN2.out⟩
        case measure => simp [intOf]; omega
      ·obtain rfl : q = rs.length := by omega
       have HFI := Lib.hid (findIdx_off HNO.out)
       have hdr := HDR.out
       rw [HFI.out] at hdr
       have HDR := Lib.hid hdr
       clear hdr HFI HNO
       go_wp2_with fail
       go_roundw
       case rel => exact ⟨j + 1, by omega, by go_num, by first | rfl | trivial, HSK.out.trans HDR.out⟩
       case measure => simp [intOf]; omega
    ·obtain rfl : j = k := by omega
     have HR : Hid (makeOf ls s = (noProof, 20)) := Lib.hid (by rw [HMK.out, HSK.out, List.drop_eq_nil_of_le (by have := HLH.out; omega)]; unfold seekIn; rfl)
     have HK2 := Lib.hid (New.refl wr)
     have hN := (HK.out.new HK2.out).new (New.refl wr)
     have hGc := hN.blockAt HG.out trivial
     obtain ⟨d0, d1, d2, d3, d4, d5, d6, d7, d8, d9⟩ := cs10 hGc
     obtain ⟨z0, z1, z2, z3, z4, z5, z6, z7, z8, z9⟩ := fz10 hGc
     have HN := Lib.hid hN
     have HGc := Lib.hid hGc
     clear hN hGc
     go_wp2_with fail
     clear d0 d1 d2 d3 d4 d5 d6 d7 d8 d9 z0 z1 z2 z3 z4 z5 z6 z7 z8 z9
     have hE := set_ten HGc.out (.int .i64 0) (.int .u64 0) (.int .i64 0) (.int .i64 0) (.slice none 0 0) (.slice none 0 0) (.int .i64 0) (.slice none 0 0) (.slice none 0 0) (.slice none 0 0)
     have hKE := new_ten (g := gb) (HKB.out.new HN.out) (by omega) (.int .i64 0) (.int .u64 0) (.int .i64 0) (.int .i64 0) (.slice none 0 0) (.slice none 0 0) (.int .i64 0) (.slice none 0 0) (.slice none 0 0) (.slice none 0 0)
     generalize hwE : World.setCell _ _ _ = wE at *
     obtain ⟨f0, f1, f2, f3, f4, f5, f6, f7, f8, f9⟩ := cs10 hE
     refine bodyPost_ret (v := .tuple #[.agg #[.int .i64 0, .int .u64 0, .int .i64 0, .int .i64 0, .slice none 0 0, .slice none 0 0, .int .i64 0, .slice none 0 0, .slice none 0 0, .slice none 0 0], .int .i64 20]) (by simp [results, Tryz.results20, go_sem, f0, f1, f2, f3, f4, f5, f6, f7, f8, f9]) rfl ?_
     rw [HR.out]
     exact ⟨⟨none, none, none, none, none, 0, 0, 0, 0, 0, rfl, ⟨Row.nil _ _ _ _, Row.nil _ _ _ _, Row.nil _ _ _ _, imgs_sl.2 (Sl.nil _ _ _ _), Nat.le_refl _, Nat.le_refl _, Nat.le_refl _, by decide, Nat.le_refl _, by decide, by decide, by decide⟩, Heads.nil _ _ _⟩, hKE⟩
end Go.Proofs.YtfegdgaanmcecaaGreatDoor
