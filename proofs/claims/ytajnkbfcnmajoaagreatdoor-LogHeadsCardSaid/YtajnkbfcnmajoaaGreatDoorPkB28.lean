/-
  PROVED HERE: what permafrostref17.Read answers: what segment.Read does; conditions: lengths that a slice may have.
-/
import Derived.Test.YtajnkbfcnmajoaaGreatDoorPkB26
import Derived.Test.YtajnkbfcnmajoaaGreatDoorPkB27
namespace Go.Proofs.YtajnkbfcnmajoaaGreatDoor
open Go.RowKit
def ReadRet17 (d : HeadP × List RecP × Int) (w : World) (e : Ending) (w' : World) : Prop :=
 (∃ A1 c1 A2 c2 A3 c3, e = .returned (.tuple #[.agg #[.int .i64 d.1.index, .int .u64 d.1.first, .int .i64 d.1.count, .int .i64 d.1.bytes, .slice A1 d.1.prev.length c1, .slice A2 d.1.root.length c2], .slice A3 d.2.1.length c3, .int .i64 d.2.2]) ∧
  d.1.prev.length ≤ c1 ∧ d.1.root.length ≤ c2 ∧ Bs w' (fun b => w.heap.size ≤ b) A1 d.1.prev.length d.1.prev ∧ Bs w' (fun b => w.heap.size ≤ b) A2 d.1.root.length d.1.root ∧ OwnRefs w' w.heap.size (fun b => w.heap.size ≤ b) A3 d.2.1.length c3 d.2.1) ∧ New w w'
set_option maxRecDepth 100000 in
theorem read17_short (D : Nat → Prop) (A : Option Addr) (n c : Nat) (bs : List UInt8) (w : World) (hB : Bs w D A n bs) (h : n ≠ 1024) :
  Calls Tryz.prog 54 #[.slice A n c] w (ReadRet17 (segRead bs) w) := by
 have hd : Hid (segRead bs = (noHead, [], 1)) := Lib.hid (by unfold segRead; rw [if_pos (by rw [hB.len]; exact h)])
 have hn : ((n : Int) != 1024) = true := by simp; omega
 clear hB
 go_enter Tryz.func54, Tryz.ntmps54
 go_wp2_with fail
 refine bodyPost_ret (v := .tuple #[.agg #[.int .i64 0, .int .u64 0, .int .i64 0, .int .i64 0, .slice none 0 0, .slice none 0 0], .slice none 0 0, .int .i64 1]) (by simp [results, Tryz.results54, go_sem]) rfl ?_
 rw [hd.out]
 exact ⟨⟨none, 0, none, 0, none, 0, rfl, Nat.le_refl _, Nat.le_refl _, Row.nil _ _ _ _, Row.nil _ _ _ _, OwnRefs.nil _ _ _⟩, (New.refl w).alloc _⟩
set_option maxRecDepth 100000 in
set_option maxHeartbeats 4000000 in
theorem read17_go (D : Nat → Prop) (A : Option Addr) (c : Nat) (bs : List UInt8) (w : World) (hB : Bs w D A 1024 bs) (hc : 1024 ≤ c) (hc9 : c ≤ 9223372036854775807) :
  Calls Tryz.prog 54 #[.slice A 1024 c] w (ReadRet17 (segRead bs) w) := by
 have hH : Hid (headOf bs = ⟨((RdS.mk bs 0).num 2).1, (((RdS.mk bs 0).num 2).2.num 8).1, ((((RdS.mk bs 0).num 2).2.num 8).2.num 2).1, (((((RdS.mk bs 0).num 2).2.num 8).2.num 2).2.num 2).1, ((((((RdS.mk bs 0).num 2).2.num 8).2.num 2).2.num 2).2.raw 32).1, (((((((RdS.mk bs 0).num 2).2.num 8).2.num 2).2.num 2).2.raw 32).2.raw 32).1⟩) := Lib.hid rfl
 have hC : Hid (segRead bs = (if be4 (crcSum (bs.take 78)) ≠ (bs.drop 78).take 4 then (noHead, [], 14)
  else if (headOf bs).count = 0 ∨ 942 < (headOf bs).bytes then (noHead, [], 12)
  else match recsGo (headOf bs).first (headOf bs).count.toNat 0 ((bs.drop 82).take (headOf bs).bytes.toNat) with
  | none => (noHead, [], 12)
  | some (rs, rest) =>
   if rest.length ≠ 0 ∨ (bs.drop (82 + (headOf bs).bytes.toNat)).all (· == 0) = false then (noHead, [], 12)
   else if rootOf (leavesOf rs) ≠ (headOf bs).root then (noHead, [], 40)
   else (headOf bs, rs, 0) : HeadP × List RecP × Int)) := Lib.hid (by unfold segRead; rw [if_neg (by rw [hB.len]; decide)]; rfl)
 have r2 := num_lt ((RdS.mk bs 0).num 2).2 8
 have r3 := num_lt (((RdS.mk bs 0).num 2).2.num 8).2 2
 have r4 := num_lt ((((RdS.mk bs 0).num 2).2.num 8).2.num 2).2 2
 have G1 := Lib.hid (fun p w' h => r4short_any p bs (RdS.mk bs 0) w' h)
 generalize ((RdS.mk bs 0).num 2).1 = ix at *
 generalize ((RdS.mk bs 0).num 2).2 = s1 at *
 have G2 := Lib.hid (fun p w' h => r4long_any p bs s1 w' h)
 generalize (s1.num 8).1 = fi at *
 generalize (s1.num 8).2 = s2 at *
 have G3 := Lib.hid (fun p w' h => r4short_any p bs s2 w' h)
 generalize (s2.num 2).1 = co at *
 generalize (s2.num 2).2 = s3 at *
 have G4 := Lib.hid (fun p w' h => r4short_any p bs s3 w' h)
 generalize (s3.num 2).1 = by' at *
 generalize (s3.num 2).2 = s4 at *
 have G5 := Lib.hid (fun p w' h => r4raw_any p bs s4 32 w' h (by decide) (by decide))
 generalize (s4.raw 32).1 = pr at *
 generalize (s4.raw 32).2 = s5 at *
 have G6 := Lib.hid (fun p w' h => r4raw_any p bs s5 32 w' h (by decide) (by decide))
 generalize (s5.raw 32).1 = ro at *
 generalize (s5.raw 32).2 = s6 at *
 rw [hH.out] at hC
 dsimp only at hC
 rw [Int.toNat_natCast, Int.toNat_natCast] at hC
 have hct0 : Bs w D A 78 (bs.take 78) := hB.cutTo (by decide)
 have HCT := Lib.hid hct0
 have hcs0 : Bs w D (Option.map (fun x => x.add 78) A) 4 ((bs.drop 78).take 4) := (hB.from_ (l := 78) (by decide)).cutTo (hi := 4) (by decide)
 have HCS := Lib.hid hcs0
 have HCR : Hid (∀ W, New w W → Calls Tryz.prog 85 #[.slice A 78 c] W fun e w' => e = .returned (.int .u32 (wv (crcSum (bs.take 78)))) ∧ New W w') :=
  Lib.hid fun W h => (sum3_any D A 78 c _ W (HCT.out.new h) (by decide)).mono fun e w' ⟨h1, h2⟩ => ⟨h1, h2 ▸ New.refl _⟩
 have HV : Hid (∀ W b A9 c9, OwnB W b 5 A9 ([] ++ be4 (crcSum (bs.take 78))).length c9 ([] ++ be4 (crcSum (bs.take 78))) → ∀ W', New W W' → (convert 25 9 (.slice A9 (be4 (crcSum (bs.take 78))).length c9)).run Tryz.prog W' = .ok (.string (strOf (be4 (crcSum (bs.take 78))))) W') :=
  Lib.hid fun W b A9 c9 ho W' h => run_str (Row.of_own (Own.keepNew ho h))
 have HB0 := Lib.hid hB
 have HK0 := Lib.hid (show New w (w.alloc (.cells #[.int .i64 0, .int .u64 0, .int .i64 0, .int .i64 0, .slice none 0 0, .slice none 0 0] 94)) from (New.refl w).alloc _)
 have HO0 := Lib.hid (heap_alloc_new w (.cells #[.int .i64 0, .int .u64 0, .int .i64 0, .int .i64 0, .slice none 0 0, .slice none 0 0] 94))
 have x0 : ∀ W, New (w.alloc (.cells #[.int .i64 0, .int .u64 0, .int .i64 0, .int .i64 0, .slice none 0 0, .slice none 0 0] 94)) W → (convert 25 9 (.slice (Option.map (fun x => ({ block := x.block, off := x.off + 78 } : Addr)) A) 4 (c - 78))).run Tryz.prog W = .ok (.string (strOf ((bs.drop 78).take 4))) W := fun W h => run_str (Row.new HCS.out (HK0.out.new h))
 clear hct0 hcs0 HCT HCS hB
 generalize crcSum (bs.take 78) = cx at *
 generalize (bs.drop 78).take 4 = ck at *
 have i1 : (78 : Int) ≤ c := by omega
 have i2 : (82 : Int) ≤ c := by omega
 have i3 : ¬ c = 78 := by omega
 go_enter Tryz.func54, Tryz.ntmps54
 go_wp2_with fail
 generalize w.alloc _ = w0 at *
 by_cases hs : be4 cx = ck
 ·have hs' : (ck == be4 cx) = true := by simpa using hs.symm
  rw [if_neg (fun h => h hs)] at hC
  clear hs
  refine hold_begin (by kernel_rfl) ?_
  have n0 : New w0 w0.drew := (New.refl w0).drew
  replace x0 := fun W (hW : New w0.drew W) => x0 W (Keep.new n0 hW)
  refine take1 0 ?_
  refine take1 1 ?_
  refine take1 2 ?_
  refine take1 3 ?_
  refine take1 4 ?_
  refine hold_step (i := 5) (by kernel_rfl) rfl rfl (fun K hK => ?_)
  go_simp
  refine (HCR.out _ (HK0.out.new n0)).mono ?_
  rintro e w1 ⟨rfl, k1⟩
  go_wp2_with fail
  refine hK.out _ _ k1 ?_
  clear hK K
  try simp only [Act.put, ly1, ly2, ly3, ly4, ly5, ly6]
  replace n0 := Keep.new n0 k1
  replace x0 := fun W (hW : New w1 W) => x0 W (Keep.new k1 hW)
  refine hold_step (i := 6) (by kernel_rfl) rfl rfl (fun K hK => ?_)
  go_simp
  refine (sum4_any (fun _ => True) none 0 0 [] _ _ (Row.nil _ _ _ _) (by decide)).mono ?_
  rintro e w2 ⟨⟨A2, c2, rfl, o2⟩, k2⟩; have v2 := HV.out w2 _ A2 c2 o2
  go_wp2_with fail
  refine hK.out _ _ k2 ?_
  clear hK K
  try simp only [Act.put, ly1, ly2, ly3, ly4, ly5, ly6]
  replace n0 := Keep.new n0 k2
  replace x0 := fun W (hW : New w2 W) => x0 W (Keep.new k2 hW)
  refine take1 7 ?_
  refine take1 8 ?_
  refine wpAnyH_done (by kernel_rfl) ?_ _
  clear hs' x0 v2 HV HCR o2 k1 k2
  have hO2 := n0.blockAt HO0.out trivial
  have hK2 := HK0.out.new n0
  have hR3 := Rd4.made (HB0.out.new hK2) (show 1024 ≤ c from hc) hc9 (by decide)
  have hN3 : New w2 (w2.alloc (.cells #[.slice A 1024 c, .int .i64 0, .int .i64 0] 135)) := (New.refl w2).alloc _
  have HO3 := Lib.hid (hN3.blockAt hO2 trivial)
  have hK3 := hK2.new hN3
  have hgp : w.heap.size < w2.heap.size := (Array.getElem?_eq_some_iff.1 hO2).1
  clear hO2 hK2 n0 HO0 HK0
  go_wp2_with fail
  generalize w2.alloc _ = w3 at *
  generalize w2.heap.size = p at *
  have hp3 : p < w3.heap.size := hR3.lt
  refine (G1.out p w3 hR3).mono ?_
  rintro e w4 ⟨rfl, hR4, hK4⟩
  go_wp2_with fail
  refine (G2.out p w4 hR4).mono ?_
  rintro e w5 ⟨rfl, hR5, hK5⟩
  go_wp2_with fail
  refine (G3.out p w5 hR5).mono ?_
  rintro e w6 ⟨rfl, hR6, hK6⟩
  go_wp2_with fail
  refine (G4.out p w6 hR6).mono ?_
  rintro e w7 ⟨rfl, hR7, hK7⟩
  go_wp2_with fail
  refine (G5.out p w7 hR7).mono ?_
  rintro e w8 ⟨⟨A6, c6, rfl, hown6⟩, hR8, hK8⟩
  go_wp2_with fail
  refine (G6.out p w8 hR8).mono ?_
  rintro e w9 ⟨⟨A7, c7, rfl, hown7⟩, hR9, hK9⟩
  have hK37 := (((hK4.trans hK5).trans hK6).trans hK7)
  have hK39 := (hK37.trans hK8).trans hK9
  have HO9 := Lib.hid (hK39.blockAt HO3.out (by omega))
  have hK09 : New w w9 := (Keep.trans2 (D := fun b => b < w.heap.size) (Keep.of_new hK3) hK39 (fun i hi _ => by omega)).toNew (fun i hi => hi)
  have h37 := hK37.size
  have h38 := (hK37.trans hK8).size
  have o6 := own_base (base := w.heap.size + 1) (own_keep hown6 hK9 (fun k hk e => by have := (own_lt hown6 k hk).1; omega)) (by omega)
  have o7 := own_base (base := w.heap.size + 1) hown7 (by omega)
  clear hR3 hR4 hR5 hR6 hR7 hR8 hR9 hK4 hK5 hK6 hK7 hK8 hK9 hK37 hK39 hown6 hown7 HO3 hK3 h37 h38 G1 G2 G3 G4 G5 G6 hp3 hN3
  have hN10 : New w9 (w9.alloc (.cells #[.int .i64 (ix : Int), .int .u64 (fi : Int), .int .i64 (co : Int), .int .i64 (by' : Int), .slice A6 pr.length c6, .slice A7 ro.length c7] 94)) := (New.refl w9).alloc _
  have HX10 := Lib.hid (heap_alloc_new w9 (.cells #[.int .i64 (ix : Int), .int .u64 (fi : Int), .int .i64 (co : Int), .int .i64 (by' : Int), .slice A6 pr.length c6, .slice A7 ro.length c7] 94))
  have HO10 := Lib.hid (hN10.blockAt HO9.out trivial)
  have hK010 := hK09.new hN10
  have hgx : w.heap.size < w9.heap.size := (Array.getElem?_eq_some_iff.1 HO9.out).1
  have hgx2 : w9.heap.size < (w9.alloc (.cells #[.int .i64 (ix : Int), .int .u64 (fi : Int), .int .i64 (co : Int), .int .i64 (by' : Int), .slice A6 pr.length c6, .slice A7 ro.length c7] 94)).heap.size := (Array.getElem?_eq_some_iff.1 HX10.out).1
  have O6 := Lib.hid (Own.keepNew o6 hN10)
  have O7 := Lib.hid (Own.keepNew o7 hN10)
  clear o6 o7 hN10
  have x2 := cellOf HX10.out (k := 2) rfl
  have x3 := cellOf HX10.out (k := 3) rfl
  by_cases hco : co = 0
  ·have hc0 : ((co : Int) == 0) = true := by rw [hco]; rfl
   have HCO := Lib.hid hco
   clear hco
   have d0 : w9.cell? ⟨w.heap.size, 0, none⟩ = some (.int .i64 0) := cellOf HO9.out rfl
   have d1 : w9.cell? ⟨w.heap.size, 1, none⟩ = some (.int .u64 0) := cellOf HO9.out rfl
   have d2 : w9.cell? ⟨w.heap.size, 2, none⟩ = some (.int .i64 0) := cellOf HO9.out rfl
   have d3 : w9.cell? ⟨w.heap.size, 3, none⟩ = some (.int .i64 0) := cellOf HO9.out rfl
   have d4 : w9.cell? ⟨w.heap.size, 4, none⟩ = some (.slice none 0 0) := cellOf HO9.out rfl
   have d5 : w9.cell? ⟨w.heap.size, 5, none⟩ = some (.slice none 0 0) := cellOf HO9.out rfl
   obtain ⟨z0, z1, z2, z3, z4, z5⟩ := fz6 HO9.out
   go_wp2_with fail
   clear d0 d1 d2 d3 d4 d5 z0 z1 z2 z3 z4 z5
   have hE := set_six HO9.out (.int .i64 0) (.int .u64 0) (.int .i64 0) (.int .i64 0) (.slice none 0 0) (.slice none 0 0)
   have hKE := new_six hK09 (g := w.heap.size) (Nat.le_refl _) (.int .i64 0) (.int .u64 0) (.int .i64 0) (.int .i64 0) (.slice none 0 0) (.slice none 0 0)
   generalize World.setCell _ _ _ = wE at *
   have f0 : (wE.alloc (.cells #[.int .i64 (ix : Int), .int .u64 (fi : Int), .int .i64 (co : Int), .int .i64 (by' : Int), .slice A6 pr.length c6, .slice A7 ro.length c7] 94)).cell? ⟨w.heap.size, 0, none⟩ = some (.int .i64 0) := cellOf (((New.refl wE).alloc (.cells #[.int .i64 (ix : Int), .int .u64 (fi : Int), .int .i64 (co : Int), .int .i64 (by' : Int), .slice A6 pr.length c6, .slice A7 ro.length c7] 94)).blockAt hE trivial) rfl
   have f1 : (wE.alloc (.cells #[.int .i64 (ix : Int), .int .u64 (fi : Int), .int .i64 (co : Int), .int .i64 (by' : Int), .slice A6 pr.length c6, .slice A7 ro.length c7] 94)).cell? ⟨w.heap.size, 1, none⟩ = some (.int .u64 0) := cellOf (((New.refl wE).alloc (.cells #[.int .i64 (ix : Int), .int .u64 (fi : Int), .int .i64 (co : Int), .int .i64 (by' : Int), .slice A6 pr.length c6, .slice A7 ro.length c7] 94)).blockAt hE trivial) rfl
   have f2 : (wE.alloc (.cells #[.int .i64 (ix : Int), .int .u64 (fi : Int), .int .i64 (co : Int), .int .i64 (by' : Int), .slice A6 pr.length c6, .slice A7 ro.length c7] 94)).cell? ⟨w.heap.size, 2, none⟩ = some (.int .i64 0) := cellOf (((New.refl wE).alloc (.cells #[.int .i64 (ix : Int), .int .u64 (fi : Int), .int .i64 (co : Int), .int .i64 (by' : Int), .slice A6 pr.length c6, .slice A7 ro.length c7] 94)).blockAt hE trivial) rfl
   have f3 : (wE.alloc (.cells #[.int .i64 (ix : Int), .int .u64 (fi : Int), .int .i64 (co : Int), .int .i64 (by' : Int), .slice A6 pr.length c6, .slice A7 ro.length c7] 94)).cell? ⟨w.heap.size, 3, none⟩ = some (.int .i64 0) := cellOf (((New.refl wE).alloc (.cells #[.int .i64 (ix : Int), .int .u64 (fi : Int), .int .i64 (co : Int), .int .i64 (by' : Int), .slice A6 pr.length c6, .slice A7 ro.length c7] 94)).blockAt hE trivial) rfl
   have f4 : (wE.alloc (.cells #[.int .i64 (ix : Int), .int .u64 (fi : Int), .int .i64 (co : Int), .int .i64 (by' : Int), .slice A6 pr.length c6, .slice A7 ro.length c7] 94)).cell? ⟨w.heap.size, 4, none⟩ = some (.slice none 0 0) := cellOf (((New.refl wE).alloc (.cells #[.int .i64 (ix : Int), .int .u64 (fi : Int), .int .i64 (co : Int), .int .i64 (by' : Int), .slice A6 pr.length c6, .slice A7 ro.length c7] 94)).blockAt hE trivial) rfl
   have f5 : (wE.alloc (.cells #[.int .i64 (ix : Int), .int .u64 (fi : Int), .int .i64 (co : Int), .int .i64 (by' : Int), .slice A6 pr.length c6, .slice A7 ro.length c7] 94)).cell? ⟨w.heap.size, 5, none⟩ = some (.slice none 0 0) := cellOf (((New.refl wE).alloc (.cells #[.int .i64 (ix : Int), .int .u64 (fi : Int), .int .i64 (co : Int), .int .i64 (by' : Int), .slice A6 pr.length c6, .slice A7 ro.length c7] 94)).blockAt hE trivial) rfl
   have g0 : wE.cell? ⟨w.heap.size, 0, none⟩ = some (.int .i64 0) := cellOf hE rfl
   have g1 : wE.cell? ⟨w.heap.size, 1, none⟩ = some (.int .u64 0) := cellOf hE rfl
   have g2 : wE.cell? ⟨w.heap.size, 2, none⟩ = some (.int .i64 0) := cellOf hE rfl
   have g3 : wE.cell? ⟨w.heap.size, 3, none⟩ = some (.int .i64 0) := cellOf hE rfl
   have g4 : wE.cell? ⟨w.heap.size, 4, none⟩ = some (.slice none 0 0) := cellOf hE rfl
   have g5 : wE.cell? ⟨w.heap.size, 5, none⟩ = some (.slice none 0 0) := cellOf hE rfl
   refine bodyPost_ret (v := .tuple #[.agg #[.int .i64 0, .int .u64 0, .int .i64 0, .int .i64 0, .slice none 0 0, .slice none 0 0], .slice none 0 0, .int .i64 12]) (by simp [results, Tryz.results54, go_sem, f0, f1, f2, f3, f4, f5]) rfl ?_
   rw [show segRead bs = (noHead, [], 12) from by rw [hC.out, if_pos (.inl (by rw [HCO.out]; rfl))]]
   exact ⟨⟨none, 0, none, 0, none, 0, rfl, Nat.le_refl _, Nat.le_refl _, Row.nil _ _ _ _, Row.nil _ _ _ _, OwnRefs.nil _ _ _⟩, hKE.alloc _⟩
  ·have hc0 : ((co : Int) == 0) = false := by simpa using hco
   by_cases hby : (942 : Int) < by'
   ·-- BEGIN bad12b
    have d0 : w9.cell? ⟨w.heap.size, 0, none⟩ = some (.int .i64 0) := cellOf HO9.out rfl
    have d1 : w9.cell? ⟨w.heap.size, 1, none⟩ = some (.int .u64 0) := cellOf HO9.out rfl
    have d2 : w9.cell? ⟨w.heap.size, 2, none⟩ = some (.int .i64 0) := cellOf HO9.out rfl
    have d3 : w9.cell? ⟨w.heap.size, 3, none⟩ = some (.int .i64 0) := cellOf HO9.out rfl
    have d4 : w9.cell? ⟨w.heap.size, 4, none⟩ = some (.slice none 0 0) := cellOf HO9.out rfl
    have d5 : w9.cell? ⟨w.heap.size, 5, none⟩ = some (.slice none 0 0) := cellOf HO9.out rfl
    obtain ⟨z0, z1, z2, z3, z4, z5⟩ := fz6 HO9.out
    go_wp2_with fail
    clear d0 d1 d2 d3 d4 d5 z0 z1 z2 z3 z4 z5
    have hE := set_six HO9.out (.int .i64 0) (.int .u64 0) (.int .i64 0) (.int .i64 0) (.slice none 0 0) (.slice none 0 0)
    have hKE := new_six hK09 (g := w.heap.size) (Nat.le_refl _) (.int .i64 0) (.int .u64 0) (.int .i64 0) (.int .i64 0) (.slice none 0 0) (.slice none 0 0)
    generalize World.setCell _ _ _ = wE at *
    have f0 : (wE.alloc (.cells #[.int .i64 (ix : Int), .int .u64 (fi : Int), .int .i64 (co : Int), .int .i64 (by' : Int), .slice A6 pr.length c6, .slice A7 ro.length c7] 94)).cell? ⟨w.heap.size, 0, none⟩ = some (.int .i64 0) := cellOf (((New.refl wE).alloc (.cells #[.int .i64 (ix : Int), .int .u64 (fi : Int), .int .i64 (co : Int), .int .i64 (by' : Int), .slice A6 pr.length c6, .slice A7 ro.length c7] 94)).blockAt hE trivial) rfl
    have f1 : (wE.alloc (.cells #[.int .i64 (ix : Int), .int .u64 (fi : Int), .int .i64 (co : Int), .int .i64 (by' : Int), .slice A6 pr.length c6, .slice A7 ro.length c7] 94)).cell? ⟨w.heap.size, 1, none⟩ = some (.int .u64 0) := cellOf (((New.refl wE).alloc (.cells #[.int .i64 (ix : Int), .int .u64 (fi : Int), .int .i64 (co : Int), .int .i64 (by' : Int), .slice A6 pr.length c6, .slice A7 ro.length c7] 94)).blockAt hE trivial) rfl
    have f2 : (wE.alloc (.cells #[.int .i64 (ix : Int), .int .u64 (fi : Int), .int .i64 (co : Int), .int .i64 (by' : Int), .slice A6 pr.length c6, .slice A7 ro.length c7] 94)).cell? ⟨w.heap.size, 2, none⟩ = some (.int .i64 0) := cellOf (((New.refl wE).alloc (.cells #[.int .i64 (ix : Int), .int .u64 (fi : Int), .int .i64 (co : Int), .int .i64 (by' : Int), .slice A6 pr.length c6, .slice A7 ro.length c7] 94)).blockAt hE trivial) rfl
    have f3 : (wE.alloc (.cells #[.int .i64 (ix : Int), .int .u64 (fi : Int), .int .i64 (co : Int), .int .i64 (by' : Int), .slice A6 pr.length c6, .slice A7 ro.length c7] 94)).cell? ⟨w.heap.size, 3, none⟩ = some (.int .i64 0) := cellOf (((New.refl wE).alloc (.cells #[.int .i64 (ix : Int), .int .u64 (fi : Int), .int .i64 (co : Int), .int .i64 (by' : Int), .slice A6 pr.length c6, .slice A7 ro.length c7] 94)).blockAt hE trivial) rfl
    have f4 : (wE.alloc (.cells #[.int .i64 (ix : Int), .int .u64 (fi : Int), .int .i64 (co : Int), .int .i64 (by' : Int), .slice A6 pr.length c6, .slice A7 ro.length c7] 94)).cell? ⟨w.heap.size, 4, none⟩ = some (.slice none 0 0) := cellOf (((New.refl wE).alloc (.cells #[.int .i64 (ix : Int), .int .u64 (fi : Int), .int .i64 (co : Int), .int .i64 (by' : Int), .slice A6 pr.length c6, .slice A7 ro.length c7] 94)).blockAt hE trivial) rfl
    have f5 : (wE.alloc (.cells #[.int .i64 (ix : Int), .int .u64 (fi : Int), .int .i64 (co : Int), .int .i64 (by' : Int), .slice A6 pr.length c6, .slice A7 ro.length c7] 94)).cell? ⟨w.heap.size, 5, none⟩ = some (.slice none 0 0) := cellOf (((New.refl wE).alloc (.cells #[.int .i64 (ix : Int), .int .u64 (fi : Int), .int .i64 (co : Int), .int .i64 (by' : Int), .slice A6 pr.length c6, .slice A7 ro.length c7] 94)).blockAt hE trivial) rfl
    have g0 : wE.cell? ⟨w.heap.size, 0, none⟩ = some (.int .i64 0) := cellOf hE rfl
    have g1 : wE.cell? ⟨w.heap.size, 1, none⟩ = some (.int .u64 0) := cellOf hE rfl
    have g2 : wE.cell? ⟨w.heap.size, 2, none⟩ = some (.int .i64 0) := cellOf hE rfl
    have g3 : wE.cell? ⟨w.heap.size, 3, none⟩ = some (.int .i64 0) := cellOf hE rfl
    have g4 : wE.cell? ⟨w.heap.size, 4, none⟩ = some (.slice none 0 0) := cellOf hE rfl
    have g5 : wE.cell? ⟨w.heap.size, 5, none⟩ = some (.slice none 0 0) := cellOf hE rfl
    refine bodyPost_ret (v := .tuple #[.agg #[.int .i64 0, .int .u64 0, .int .i64 0, .int .i64 0, .slice none 0 0, .slice none 0 0], .slice none 0 0, .int .i64 12]) (by simp [results, Tryz.results54, go_sem, f0, f1, f2, f3, f4, f5]) rfl ?_
    rw [show segRead bs = (noHead, [], 12) from by rw [hC.out, if_pos (.inr hby)]]
    exact ⟨⟨none, 0, none, 0, none, 0, rfl, Nat.le_refl _, Nat.le_refl _, Row.nil _ _ _ _, Row.nil _ _ _ _, OwnRefs.nil _ _ _⟩, hKE.alloc _⟩
   ·have hco' : ¬ ((co : Int) = 0) := by omega
    rw [if_neg (by omega)] at hC
    have h82 : Bs (w9.alloc (.cells #[.int .i64 (ix : Int), .int .u64 (fi : Int), .int .i64 (co : Int), .int .i64 (by' : Int), .slice A6 pr.length c6, .slice A7 ro.length c7] 94)) D (Option.map (fun x => x.add 82) A) (1024 - 82) (bs.drop 82) := Bs.from_ (HB0.out.new hK010) (by decide)
    have hsub : Bs (w9.alloc (.cells #[.int .i64 (ix : Int), .int .u64 (fi : Int), .int .i64 (co : Int), .int .i64 (by' : Int), .slice A6 pr.length c6, .slice A7 ro.length c7] 94)) D (Option.map (fun x => x.add 82) A) by' ((bs.drop 82).take by') := Bs.cutTo h82 (by omega)
    have hsl := hsub.len
    clear h82 hsub
    go_wp2_with fail
    generalize w9.alloc _ = w10 at *
    generalize w9.heap.size = gx at *
    clear x2 x3 hco hco' hc0 hK09 HO9
    have hsube : (bs.drop 82).take by' = (bs.drop 82).take by' := rfl
    generalize hsu : (bs.drop 82).take by' = sub at *
    have HSU := Lib.hid hsu
    clear hsu hsube
    go_loopw [7, 8, 9] (fun s7 s8 i wx => ∃ (k o : Nat) (A' : Option Addr) (c' : Nat) (rs : List RecP), k ≤ co ∧ i = .int .i64 (k : Int) ∧ s8 = .int .i64 ((82 + o : Nat) : Int) ∧ s7 = .slice A' k c' ∧ o ≤ by' ∧ OwnRefs wx w10.heap.size (fun b => w10.heap.size ≤ b) A' k c' rs ∧ New w10 wx ∧
     recsGo (fi : Int) co 0 sub = (recsGo (fi : Int) (co - k) k (sub.drop o)).map fun p => (rs ++ p.1, p.2)) (fun _ _ i _ => co - (intOf i).toNat)
    case atStart => exact ⟨0, 0, none, 0, [], Nat.zero_le _, rfl, rfl, rfl, Nat.zero_le _, OwnRefs.nil _ _ _, New.refl _, by rw [List.drop_zero]; cases h : recsGo (fi : Int) co 0 sub <;> simp ⟩
    case round =>
     obtain ⟨k, o, A', c', rs, hk, rfl, rfl, rfl, ho, hown, hK, hgo⟩ := hrel
     have HOW := Lib.hid hown
     have HG := Lib.hid hgo
     have HK := Lib.hid hK
     have HXr := Lib.hid (hK.blockAt HX10.out trivial)
     have HOr := Lib.hid (hK.blockAt HO10.out trivial)
     have hK0r := hK010.new hK
     have y1 := cellOf HXr.out (k := 1) rfl
     have y2 := cellOf HXr.out (k := 2) rfl
     have y3 := cellOf HXr.out (k := 3) rfl
     clear hown hgo hK
     by_cases hlk : k < co
     ·have hbk : (sub.drop o).length = by' - o := by rw [List.length_drop, hsl]
      have HM : Hid (recsGo (fi : Int) (co - k) k (sub.drop o) = if (recDec (sub.drop o)).2.2 ≠ 0 then none else if (recDec (sub.drop o)).1.seq ≠ IntKind.u64.wrap ((fi : Int) + k) then none else (recsGo (fi : Int) (co - (k + 1)) (k + 1) (sub.drop (o + (recDec (sub.drop o)).2.1))).map fun p => ((recDec (sub.drop o)).1 :: p.1, p.2)) := Lib.hid (by
       rw [show co - k = (co - (k + 1)) + 1 from by omega, recsGo, List.drop_drop])
      have HL := Lib.hid (recDec_le (sub.drop o))
      have hrow : Bs wr D (if c = 82 + o then A else Option.map (fun x => x.add (82 + o)) A) (by' - o) (sub.drop o) := by
       by_cases e : c = 82 + o
       ·have e1 : by' - o = 0 := by omega
        have e2 : sub.drop o = [] := List.eq_nil_of_length_eq_zero (by omega)
        rw [e1, e2]; exact Row.nil _ _ _ _
       ·rw [if_neg e]
        have h1 : Bs wr D (Option.map (fun x => x.add (82 + o)) A) (1024 - (82 + o)) (bs.drop (82 + o)) := Bs.from_ (HB0.out.new hK0r) (by omega)
        have h2 := Bs.cutTo h1 (hi := by' - o) (by omega)
        have h3 : (bs.drop (82 + o)).take (by' - o) = sub.drop o := by rw [← HSU.out, List.drop_take, List.drop_drop]
        rw [h3] at h2
        exact h2
      have hm0 : by' - o = 82 + by' - (82 + o) := by omega
      rw [hm0] at hrow
      have hHD : ∃ X, (if c = 82 + o then A else Option.map (fun x => x.add (82 + o)) A) = X ∧ Hid (Calls Tryz.prog 89 #[.slice X (82 + by' - (82 + o)) (c - (82 + o))] wr (RecRet (recDec (sub.drop o)) wr)) :=
       ⟨_, rfl, Lib.hid (decode16_any D _ (82 + by' - (82 + o)) (c - (82 + o)) _ wr hrow (by omega) (by omega) (by omega))⟩
      have q1 : IntKind.i64.wrap (82 + (by' : Int)) = 82 + (by' : Int) := IntWalk.i64_in _ (by omega)
      have q2 : 82 + o ≤ (82 + (by' : Int)).toNat := by omega
      have q3 : 82 + (by' : Int) ≤ c := by omega
      have q4 : (0 : Int) ≤ 82 + (by' : Int) := by omega
      have q5 : (82 + (by' : Int)).toNat - (82 + o) = by' - o := by omega
      have q6 : (0 : Int) ≤ 82 + (o : Int) := by omega
      have hkw : IntKind.u64.wrap (k : Int) = k := by rw [IntKind.wrap_u64]; omega
      clear hrow hm0
      generalize recDec (sub.drop o) = d at *
      obtain ⟨r, sz, why⟩ := d
      dsimp only at HM HL
      by_cases hcc : c = 82 + o
      all_goals
       obtain ⟨X, hX, HDE⟩ := hHD
       first
        | (rw [if_pos hcc] at hX)
        | (rw [if_neg hcc] at hX)
       subst hX
       try subst hcc
       try rw [Nat.sub_self] at HDE
       go_wp2_with fail
       refine HDE.out.mono ?_
       rintro e w11 ⟨⟨A5, c5, rfl, hown5⟩, hK1⟩
       have HO5 := Lib.hid hown5
       have HK1 := Lib.hid hK1
       have HO11 := Lib.hid (hK1.blockAt HOr.out trivial)
       have hK011 := hK0r.new hK1
       have y1' := hK1.cell_some y1 trivial
       have hgw11 : w.heap.size < w11.heap.size := (Array.getElem?_eq_some_iff.1 HO11.out).1
       have hfr : gx < w11.heap.size := (Array.getElem?_eq_some_iff.1 (hK1.blockAt HXr.out trivial)).1
       clear hown5 hK1
       by_cases hy : why = 0
       ·subst hy
        by_cases hq : r.seq = IntKind.u64.wrap ((fi : Int) + k)
        ·have hq' : (r.seq != IntKind.u64.wrap ((fi : Int) + k)) = false := by simpa using hq
         have HM1 : Hid (recsGo (fi : Int) co 0 sub = (recsGo (fi : Int) (co - (k + 1)) (k + 1) (sub.drop (o + sz))).map fun p => ((rs ++ [r]) ++ p.1, p.2)) := Lib.hid (by
          rw [HG.out, HM.out, if_neg (by simp), if_neg (by simpa using hq)]; cases recsGo (fi : Int) (co - (k + 1)) (k + 1) (sub.drop (o + sz)) <;> simp)
         clear hq
         have hN1 : New w11 ((w11.alloc (.cells #[.int .i64 r.kind, .int .u64 r.seq, .slice A5 r.body.length c5] 70)).alloc (.cells #[.int .i64 r.kind, .int .u64 r.seq, .slice A5 r.body.length c5] 70)) := ((New.refl w11).alloc _).alloc _
         have hown' := (HOW.out.new HK1.out).new hN1
         have hge : w10.heap.size ≤ wr.heap.size := HK.out.size
         have hy1 := (Row.imp ((HOW.out.new HK1.out).apart HO5.out) (E := fun b => w10.heap.size ≤ b ∧ some b ≠ blk A') (fun b _ h => ⟨Nat.le_trans hge h.1, h.2⟩)).new hN1
         have hrow := Row.made (w11.alloc (.cells #[.int .i64 r.kind, .int .u64 r.seq, .slice A5 r.body.length c5] 70)) 70 #[.int .i64 r.kind, .int .u64 r.seq, .slice A5 r.body.length c5] 1 3 rfl
         rw [show (w11.alloc (.cells #[.int .i64 r.kind, .int .u64 r.seq, .slice A5 r.body.length c5] 70)).heap.size = w11.heap.size + 1 from by simp] at hrow
         have hmc := own_cap HO5.out
         have hc95 := own_capMax HO5.out
         have hs0 := HL.out.1
         have hs1 := HL.out.2.1
         have hbd : k + 1 ≤ 1099511627776 := by omega
         have hsz := Nat.le_trans HK.out.size (Nat.le_trans HK1.out.size hN1.size)
         have hlz : o + sz ≤ by' := by have := HL.out.2.2; omega
         have qz : IntKind.i64.wrap (82 + (o : Int) + (sz : Int)) = 82 + (o : Int) + (sz : Int) := IntWalk.i64_in _ (by omega)
         clear hge
         go_wp2_with (at_builtin; refine app_refs _ rfl _ _ rfl w10.heap.size (fun b => w10.heap.size ≤ b) A' k c' _ rfl hown' (fun g => w11.heap.size + 1 ≤ g) _ 1 A5 c5 r rfl hrow hy1 hmc hc95 hs0 hs1 hbd hsz ?_; intro A3 c3 w13 hown3 hg3 hbk3)
         have hK3 : New w10 w13 := ((HK.out.new HK1.out).new hN1).grown hg3 (fun j hj _ => (hown'.lt j hj).1)
         go_roundw
         case rel => exact ⟨k + 1, o + sz, _, _, _, by omega, by go_num, by go_num, rfl, hlz, hown3, hK3, HM1.out⟩
         case measure => simp [intOf]; omega
        ·have hq' : (r.seq != IntKind.u64.wrap ((fi : Int) + k)) = true := by simpa using hq
         have HM1 : Hid (recsGo (fi : Int) co 0 sub = none) := Lib.hid (by rw [HG.out, HM.out, if_neg (by simp), if_pos (by simpa using hq)]; rfl)
         clear hq
         have d0 : w11.cell? ⟨w.heap.size, 0, none⟩ = some (.int .i64 0) := cellOf HO11.out rfl
         have d1 : w11.cell? ⟨w.heap.size, 1, none⟩ = some (.int .u64 0) := cellOf HO11.out rfl
         have d2 : w11.cell? ⟨w.heap.size, 2, none⟩ = some (.int .i64 0) := cellOf HO11.out rfl
         have d3 : w11.cell? ⟨w.heap.size, 3, none⟩ = some (.int .i64 0) := cellOf HO11.out rfl
         have d4 : w11.cell? ⟨w.heap.size, 4, none⟩ = some (.slice none 0 0) := cellOf HO11.out rfl
         have d5 : w11.cell? ⟨w.heap.size, 5, none⟩ = some (.slice none 0 0) := cellOf HO11.out rfl
         obtain ⟨z0, z1, z2, z3, z4, z5⟩ := fz6 HO11.out
         go_wp2_with fail
         clear d0 d1 d2 d3 d4 d5 z0 z1 z2 z3 z4 z5
         have hE := set_six HO11.out (.int .i64 0) (.int .u64 0) (.int .i64 0) (.int .i64 0) (.slice none 0 0) (.slice none 0 0)
         have hKE := new_six hK011 (g := w.heap.size) (Nat.le_refl _) (.int .i64 0) (.int .u64 0) (.int .i64 0) (.int .i64 0) (.slice none 0 0) (.slice none 0 0)
         generalize World.setCell _ _ _ = wE at *
         have f0 : (wE.alloc (.cells #[.int .i64 r.kind, .int .u64 r.seq, .slice A5 r.body.length c5] 70)).cell? ⟨w.heap.size, 0, none⟩ = some (.int .i64 0) := cellOf (((New.refl wE).alloc (.cells #[.int .i64 r.kind, .int .u64 r.seq, .slice A5 r.body.length c5] 70)).blockAt hE trivial) rfl
         have f1 : (wE.alloc (.cells #[.int .i64 r.kind, .int .u64 r.seq, .slice A5 r.body.length c5] 70)).cell? ⟨w.heap.size, 1, none⟩ = some (.int .u64 0) := cellOf (((New.refl wE).alloc (.cells #[.int .i64 r.kind, .int .u64 r.seq, .slice A5 r.body.length c5] 70)).blockAt hE trivial) rfl
         have f2 : (wE.alloc (.cells #[.int .i64 r.kind, .int .u64 r.seq, .slice A5 r.body.length c5] 70)).cell? ⟨w.heap.size, 2, none⟩ = some (.int .i64 0) := cellOf (((New.refl wE).alloc (.cells #[.int .i64 r.kind, .int .u64 r.seq, .slice A5 r.body.length c5] 70)).blockAt hE trivial) rfl
         have f3 : (wE.alloc (.cells #[.int .i64 r.kind, .int .u64 r.seq, .slice A5 r.body.length c5] 70)).cell? ⟨w.heap.size, 3, none⟩ = some (.int .i64 0) := cellOf (((New.refl wE).alloc (.cells #[.int .i64 r.kind, .int .u64 r.seq, .slice A5 r.body.length c5] 70)).blockAt hE trivial) rfl
         have f4 : (wE.alloc (.cells #[.int .i64 r.kind, .int .u64 r.seq, .slice A5 r.body.length c5] 70)).cell? ⟨w.heap.size, 4, none⟩ = some (.slice none 0 0) := cellOf (((New.refl wE).alloc (.cells #[.int .i64 r.kind, .int .u64 r.seq, .slice A5 r.body.length c5] 70)).blockAt hE trivial) rfl
         have f5 : (wE.alloc (.cells #[.int .i64 r.kind, .int .u64 r.seq, .slice A5 r.body.length c5] 70)).cell? ⟨w.heap.size, 5, none⟩ = some (.slice none 0 0) := cellOf (((New.refl wE).alloc (.cells #[.int .i64 r.kind, .int .u64 r.seq, .slice A5 r.body.length c5] 70)).blockAt hE trivial) rfl
         have g0 : wE.cell? ⟨w.heap.size, 0, none⟩ = some (.int .i64 0) := cellOf hE rfl
         have g1 : wE.cell? ⟨w.heap.size, 1, none⟩ = some (.int .u64 0) := cellOf hE rfl
         have g2 : wE.cell? ⟨w.heap.size, 2, none⟩ = some (.int .i64 0) := cellOf hE rfl
         have g3 : wE.cell? ⟨w.heap.size, 3, none⟩ = some (.int .i64 0) := cellOf hE rfl
         have g4 : wE.cell? ⟨w.heap.size, 4, none⟩ = some (.slice none 0 0) := cellOf hE rfl
         have g5 : wE.cell? ⟨w.heap.size, 5, none⟩ = some (.slice none 0 0) := cellOf hE rfl
         refine bodyPost_ret (v := .tuple #[.agg #[.int .i64 0, .int .u64 0, .int .i64 0, .int .i64 0, .slice none 0 0, .slice none 0 0], .slice none 0 0, .int .i64 12]) (by simp [results, Tryz.results54, go_sem, f0, f1, f2, f3, f4, f5]) rfl ?_
         rw [show segRead bs = (noHead, [], 12) from by rw [hC.out, HM1.out]]
         exact ⟨⟨none, 0, none, 0, none, 0, rfl, Nat.le_refl _, Nat.le_refl _, Row.nil _ _ _ _, Row.nil _ _ _ _, OwnRefs.nil _ _ _⟩, hKE.alloc _⟩
       ·have hy' : (why != 0) = true := by simpa using hy
        have HM1 : Hid (recsGo (fi : Int) co 0 sub = none) := Lib.hid (by rw [HG.out, HM.out, if_pos hy]; rfl)
        have d0 : w11.cell? ⟨w.heap.size, 0, none⟩ = some (.int .i64 0) := cellOf HO11.out rfl
        have d1 : w11.cell? ⟨w.heap.size, 1, none⟩ = some (.int .u64 0) := cellOf HO11.out rfl
        have d2 : w11.cell? ⟨w.heap.size, 2, none⟩ = some (.int .i64 0) := cellOf HO11.out rfl
        have d3 : w11.cell? ⟨w.heap.size, 3, none⟩ = some (.int .i64 0) := cellOf HO11.out rfl
        have d4 : w11.cell? ⟨w.heap.size, 4, none⟩ = some (.slice none 0 0) := cellOf HO11.out rfl
        have d5 : w11.cell? ⟨w.heap.size, 5, none⟩ = some (.slice none 0 0) := cellOf HO11.out rfl
        obtain ⟨z0, z1, z2, z3, z4, z5⟩ := fz6 HO11.out
        go_wp2_with fail
        clear d0 d1 d2 d3 d4 d5 z0 z1 z2 z3 z4 z5
        have hE := set_six HO11.out (.int .i64 0) (.int .u64 0) (.int .i64 0) (.int .i64 0) (.slice none 0 0) (.slice none 0 0)
        have hKE := new_six hK011 (g := w.heap.size) (Nat.le_refl _) (.int .i64 0) (.int .u64 0) (.int .i64 0) (.int .i64 0) (.slice none 0 0) (.slice none 0 0)
        generalize World.setCell _ _ _ = wE at *
        have f0 : (wE.alloc (.cells #[.int .i64 r.kind, .int .u64 r.seq, .slice A5 r.body.length c5] 70)).cell? ⟨w.heap.size, 0, none⟩ = some (.int .i64 0) := cellOf (((New.refl wE).alloc (.cells #[.int .i64 r.kind, .int .u64 r.seq, .slice A5 r.body.length c5] 70)).blockAt hE trivial) rfl
        have f1 : (wE.alloc (.cells #[.int .i64 r.kind, .int .u64 r.seq, .slice A5 r.body.length c5] 70)).cell? ⟨w.heap.size, 1, none⟩ = some (.int .u64 0) := cellOf (((New.refl wE).alloc (.cells #[.int .i64 r.kind, .int .u64 r.seq, .slice A5 r.body.length c5] 70)).blockAt hE trivial) rfl
        have f2 : (wE.alloc (.cells #[.int .i64 r.kind, .int .u64 r.seq, .slice A5 r.body.length c5] 70)).cell? ⟨w.heap.size, 2, none⟩ = some (.int .i64 0) := cellOf (((New.refl wE).alloc (.cells #[.int .i64 r.kind, .int .u64 r.seq, .slice A5 r.body.length c5] 70)).blockAt hE trivial) rfl
        have f3 : (wE.alloc (.cells #[.int .i64 r.kind, .int .u64 r.seq, .slice A5 r.body.length c5] 70)).cell? ⟨w.heap.size, 3, none⟩ = some (.int .i64 0) := cellOf (((New.refl wE).alloc (.cells #[.int .i64 r.kind, .int .u64 r.seq, .slice A5 r.body.length c5] 70)).blockAt hE trivial) rfl
        have f4 : (wE.alloc (.cells #[.int .i64 r.kind, .int .u64 r.seq, .slice A5 r.body.length c5] 70)).cell? ⟨w.heap.size, 4, none⟩ = some (.slice none 0 0) := cellOf (((New.refl wE).alloc (.cells #[.int .i64 r.kind, .int .u64 r.seq, .slice A5 r.body.length c5] 70)).blockAt hE trivial) rfl
        have f5 : (wE.alloc (.cells #[.int .i64 r.kind, .int .u64 r.seq, .slice A5 r.body.length c5] 70)).cell? ⟨w.heap.size, 5, none⟩ = some (.slice none 0 0) := cellOf (((New.refl wE).alloc (.cells #[.int .i64 r.kind, .int .u64 r.seq, .slice A5 r.body.length c5] 70)).blockAt hE trivial) rfl
        have g0 : wE.cell? ⟨w.heap.size, 0, none⟩ = some (.int .i64 0) := cellOf hE rfl
        have g1 : wE.cell? ⟨w.heap.size, 1, none⟩ = some (.int .u64 0) := cellOf hE rfl
        have g2 : wE.cell? ⟨w.heap.size, 2, none⟩ = some (.int .i64 0) := cellOf hE rfl
        have g3 : wE.cell? ⟨w.heap.size, 3, none⟩ = some (.int .i64 0) := cellOf hE rfl
        have g4 : wE.cell? ⟨w.heap.size, 4, none⟩ = some (.slice none 0 0) := cellOf hE rfl
        have g5 : wE.cell? ⟨w.heap.size, 5, none⟩ = some (.slice none 0 0) := cellOf hE rfl
        refine bodyPost_ret (v := .tuple #[.agg #[.int .i64 0, .int .u64 0, .int .i64 0, .int .i64 0, .slice none 0 0, .slice none 0 0], .slice none 0 0, .int .i64 12]) (by simp [results, Tryz.results54, go_sem, f0, f1, f2, f3, f4, f5]) rfl ?_
        rw [show segRead bs = (noHead, [], 12) from by rw [hC.out, HM1.out]]
        exact ⟨⟨none, 0, none, 0, none, 0, rfl, Nat.le_refl _, Nat.le_refl _, Row.nil _ _ _ _, Row.nil _ _ _ _, OwnRefs.nil _ _ _⟩, hKE.alloc _⟩
     ·obtain rfl : k = co := by omega
      have HM1 : Hid (recsGo (fi : Int) k 0 sub = some (rs, sub.drop o)) := Lib.hid (by rw [HG.out, Nat.sub_self, recsGo]; simp)
      have HRLN : Hid ((sub.drop o).length = by' - o) := Lib.hid (by rw [List.length_drop, hsl])
      have HLEN : Hid (rs.length = k) := Lib.hid HOW.out.len
      have HOK := Lib.hid (recsGo_ok (fi : Int) k 0 sub rs (sub.drop o) HM1.out)
      have HBr := Lib.hid (HB0.out.new hK0r)
      have hbl : bs.length = 1024 := Bs.len HBr.out
      have HBL := Lib.hid hbl
      have q1 : IntKind.i64.wrap (82 + (by' : Int)) = 82 + (by' : Int) := IntWalk.i64_in _ (by omega)
      clear HG hbl
      go_wp2_with fail
      go_loop [13] (fun s13 => ∃ j : Nat, 82 + by' ≤ j ∧ j ≤ 1024 ∧ s13 = .int .i64 (j : Int) ∧ ∀ t (h : t < bs.length), 82 + by' ≤ t → t < j → bs[t] = 0) (fun s13 => 1024 - (intOf s13).toNat)
      case atStart => exact ⟨82 + by', Nat.le_refl _, by omega, by go_num, fun t _ h1 h2 => absurd h1 (by omega)⟩
      case round =>
       obtain ⟨j, hj0, hj1, rfl, hz⟩ := hrel
       have HZ0 := Lib.hid hz
       clear hz
       by_cases hj : j < 1024
       ·have hjb : j < bs.length := by rw [HBL.out]; exact hj
        obtain ⟨b, off, rfl, _, _, hcell⟩ := Bs.cellAt HBr.out (by decide)
        have ckj := hcell j hjb
        have HXJ : Hid (bs[j] = bs[j]) := Lib.hid rfl
        by_cases hx : bs[j] = 0
        ·have hx' : (bv bs[j] != 0) = false := by rw [hx]; rfl
         have HXZ := Lib.hid hx
         clear hx hcell
         generalize hbj : bs[j] = x at ckj hx'
         clear hbj
         go_wp2_with fail
         go_round
         case rel => exact ⟨j + 1, by omega, by omega, by go_num, fun t ht h1 h2 => by
          by_cases e : t = j
          ·subst e; exact HXZ.out
          ·exact HZ0.out t ht h1 (by omega)⟩
         case measure => simp [intOf]; omega
        ·have hx' : (bv bs[j] != 0) = true := by
          rw [bne_iff_ne]; exact fun h => hx (bv_inj (h.trans (by decide)))
         have HZ : Hid ((bs.drop (82 + by')).all (· == 0) = false) := Lib.hid (by
          rw [List.all_eq_false]
          refine ⟨bs[j], ?_, by simpa using hx⟩
          rw [List.mem_iff_getElem]
          exact ⟨j - (82 + by'), by rw [List.length_drop]; omega, by rw [List.getElem_drop]; congr 1; omega⟩)
         clear hx hcell HXJ
         generalize bs[j] = x at ckj hx'
         have d0 : wr.cell? ⟨w.heap.size, 0, none⟩ = some (.int .i64 0) := cellOf HOr.out rfl
         have d1 : wr.cell? ⟨w.heap.size, 1, none⟩ = some (.int .u64 0) := cellOf HOr.out rfl
         have d2 : wr.cell? ⟨w.heap.size, 2, none⟩ = some (.int .i64 0) := cellOf HOr.out rfl
         have d3 : wr.cell? ⟨w.heap.size, 3, none⟩ = some (.int .i64 0) := cellOf HOr.out rfl
         have d4 : wr.cell? ⟨w.heap.size, 4, none⟩ = some (.slice none 0 0) := cellOf HOr.out rfl
         have d5 : wr.cell? ⟨w.heap.size, 5, none⟩ = some (.slice none 0 0) := cellOf HOr.out rfl
         obtain ⟨z0, z1, z2, z3, z4, z5⟩ := fz6 HOr.out
         go_wp2_with fail
         clear d0 d1 d2 d3 d4 d5 z0 z1 z2 z3 z4 z5
         have hE := set_six HOr.out (.int .i64 0) (.int .u64 0) (.int .i64 0) (.int .i64 0) (.slice none 0 0) (.slice none 0 0)
         have hKE := new_six hK0r (g := w.heap.size) (Nat.le_refl _) (.int .i64 0) (.int .u64 0) (.int .i64 0) (.int .i64 0) (.slice none 0 0) (.slice none 0 0)
         generalize World.setCell _ _ _ = wE at *
         have f0 : wE.cell? ⟨w.heap.size, 0, none⟩ = some (.int .i64 0) := cellOf hE rfl
         have f1 : wE.cell? ⟨w.heap.size, 1, none⟩ = some (.int .u64 0) := cellOf hE rfl
         have f2 : wE.cell? ⟨w.heap.size, 2, none⟩ = some (.int .i64 0) := cellOf hE rfl
         have f3 : wE.cell? ⟨w.heap.size, 3, none⟩ = some (.int .i64 0) := cellOf hE rfl
         have f4 : wE.cell? ⟨w.heap.size, 4, none⟩ = some (.slice none 0 0) := cellOf hE rfl
         have f5 : wE.cell? ⟨w.heap.size, 5, none⟩ = some (.slice none 0 0) := cellOf hE rfl
         refine bodyPost_ret (v := .tuple #[.agg #[.int .i64 0, .int .u64 0, .int .i64 0, .int .i64 0, .slice none 0 0, .slice none 0 0], .slice none 0 0, .int .i64 12]) (by simp [results, Tryz.results54, go_sem, f0, f1, f2, f3, f4, f5]) rfl ?_
         rw [show segRead bs = (noHead, [], 12) from by rw [hC.out, HM1.out]; exact if_pos (.inr HZ.out)]
         exact ⟨⟨none, 0, none, 0, none, 0, rfl, Nat.le_refl _, Nat.le_refl _, Row.nil _ _ _ _, Row.nil _ _ _ _, OwnRefs.nil _ _ _⟩, hKE⟩
       ·have HZ : Hid ((bs.drop (82 + by')).all (· == 0) = true) := Lib.hid (by
         rw [List.all_eq_true]
         intro x hx
         obtain ⟨t, ht, rfl⟩ := List.mem_iff_getElem.1 hx
         rw [List.length_drop] at ht
         rw [List.getElem_drop]
         simpa using HZ0.out (82 + by' + t) (by omega) (by omega) (by have := HBL.out; omega))
        by_cases hob : o = by'
        ·have HRL : Hid ((sub.drop o).length = 0) := Lib.hid (by rw [HRLN.out]; omega)
         subst hob
         have hq24 : (((82 + o : Nat) : Int) != 82 + (o : Int)) = false := by simp
         have hsum := HOK.out.1
         have hfl : (leavesOf rs).flatten.length ≤ 942 := by
          have h := congrArg List.length hsum
          rw [List.length_append] at h
          omega
         have hbod : ∀ r ∈ rs, r.body.length ≤ 9223372036854770000 := fun r hr => by
          have h := (HOK.out.2.2.1 r hr).1
          unfold recRight at h
          rw [decide_eq_true_eq] at h
          omega
         have HLV0 := Lib.hid (HOW.out.recs hbod)
         have HLV : Hid (∀ W, New wr W → Calls Tryz.prog 83 #[.slice A' k c'] W fun e w' => (∃ A' c', e = .returned (.slice A' k c') ∧ OwnBss w' W.heap.size (fun b => W.heap.size ≤ b) A' k c' (leavesOf rs)) ∧ New W w') :=
          Lib.hid fun W h => leaves17_any _ A' k c' rs W (HLV0.out.new h) (by omega)
         have HRT : Hid (∀ W b (E : Nat → Prop) A14 c14, OwnBss W b E A14 k c14 (leavesOf rs) → Calls Tryz.prog 82 #[.slice A14 k c14] W fun e w' => (∃ A' c', e = .returned (.slice A' 32 c') ∧ OwnB w' W.heap.size 5 A' 32 c' (rootOf (leavesOf rs))) ∧ New W w') :=
          Lib.hid fun W b E A14 c14 ho => root6_any k _ A14 c14 (leavesOf rs) W ho.bss ho.cap (by omega) (by omega) ho.capMax
         have HVR : Hid (∀ W b A15 c15, OwnB W b 5 A15 32 c15 (rootOf (leavesOf rs)) → ∀ W', New W W' → (convert 25 9 (.slice A15 32 c15)).run Tryz.prog W' = .ok (.string (strOf (rootOf (leavesOf rs)))) W') :=
          Lib.hid fun W b A15 c15 ho W' h => run_str (Row.of_own (Own.keepNew ho h))
         have O6r := Own.keepNew O6.out HK.out
         have O7r := Own.keepNew O7.out HK.out
         have O7R := Lib.hid O7r
         go_wp2_with fail
         have y5 : ∀ W, New wr W → W.cell? ⟨gx, 5, none⟩ = some (.slice A7 ro.length c7) := fun W h => cellOf (h.blockAt HXr.out trivial) rfl
         have yro : ∀ W, New wr W → (convert 25 9 (.slice A7 ro.length c7)).run Tryz.prog W = .ok (.string (strOf ro)) W := fun W h => run_str (Row.of_own (Own.keepNew O7R.out h))
         by_cases hro : rootOf (leavesOf rs) = ro
         ·have hro' : (rootOf (leavesOf rs) == ro) = true := by simpa using hro
          have HRO := Lib.hid hro
          clear hro
          refine hold_begin (by kernel_rfl) ?_
          have n0 : New wr wr.drew := (New.refl wr).drew
          replace y5 := fun W (hW : New wr.drew W) => y5 W (Keep.new n0 hW)
          replace yro := fun W (hW : New wr.drew W) => yro W (Keep.new n0 hW)
          refine take1 0 ?_
          refine take1 4 ?_
          refine take1 5 ?_
          refine take1 6 ?_
          refine hold_step (i := 1) (by kernel_rfl) rfl rfl (fun K hK => ?_)
          go_simp
          refine (HLV.out _ n0).mono ?_
          rintro e w20 ⟨⟨A20, c20, rfl, o20⟩, k20⟩
          go_wp2_with fail
          refine hK.out _ _ k20 ?_
          clear hK K
          try simp only [Act.put, ly1, ly2, ly3, ly4, ly5, ly6]
          replace n0 := Keep.new n0 k20
          replace y5 := fun W (hW : New w20 W) => y5 W (Keep.new k20 hW)
          replace yro := fun W (hW : New w20 W) => yro W (Keep.new k20 hW)
          refine hold_step (i := 2) (by kernel_rfl) rfl rfl (fun K hK => ?_)
          go_simp
          refine (HRT.out _ _ _ _ _ o20).mono ?_
          rintro e w21 ⟨⟨A21, c21, rfl, o21⟩, k21⟩; have v21 := HVR.out w21 _ A21 c21 o21
          go_wp2_with fail
          refine hK.out _ _ k21 ?_
          clear hK K
          try simp only [Act.put, ly1, ly2, ly3, ly4, ly5, ly6]
          replace n0 := Keep.new n0 k21
          replace y5 := fun W (hW : New w21 W) => y5 W (Keep.new k21 hW)
          replace yro := fun W (hW : New w21 W) => yro W (Keep.new k21 hW)
          refine take1 3 ?_
          refine take1 7 ?_
          refine wpAnyH_done (by kernel_rfl) ?_ _
          clear hro' y5 yro
          have HO := Lib.hid (n0.blockAt HOr.out trivial)
          have HX := Lib.hid (n0.blockAt HXr.out trivial)
          have hK := hK0r.new n0
          have v6 := Own.keepNew O6r n0
          have v7 := Own.keepNew O7r n0
          have v12 := HOW.out.new n0
          have e0 : w21.cell? ⟨gx, 0, none⟩ = some (.int .i64 (ix : Int)) := cellOf HX.out rfl
          have e1 : w21.cell? ⟨gx, 1, none⟩ = some (.int .u64 (fi : Int)) := cellOf HX.out rfl
          have e2 : w21.cell? ⟨gx, 2, none⟩ = some (.int .i64 (k : Int)) := cellOf HX.out rfl
          have e3 : w21.cell? ⟨gx, 3, none⟩ = some (.int .i64 (o : Int)) := cellOf HX.out rfl
          have e4 : w21.cell? ⟨gx, 4, none⟩ = some (.slice A6 pr.length c6) := cellOf HX.out rfl
          have e5 : w21.cell? ⟨gx, 5, none⟩ = some (.slice A7 ro.length c7) := cellOf HX.out rfl
          have d0 : w21.cell? ⟨w.heap.size, 0, none⟩ = some (.int .i64 0) := cellOf HO.out rfl
          have d1 : w21.cell? ⟨w.heap.size, 1, none⟩ = some (.int .u64 0) := cellOf HO.out rfl
          have d2 : w21.cell? ⟨w.heap.size, 2, none⟩ = some (.int .i64 0) := cellOf HO.out rfl
          have d3 : w21.cell? ⟨w.heap.size, 3, none⟩ = some (.int .i64 0) := cellOf HO.out rfl
          have d4 : w21.cell? ⟨w.heap.size, 4, none⟩ = some (.slice none 0 0) := cellOf HO.out rfl
          have d5 : w21.cell? ⟨w.heap.size, 5, none⟩ = some (.slice none 0 0) := cellOf HO.out rfl
          obtain ⟨z0, z1, z2, z3, z4, z5⟩ := fz6 HO.out
          go_wp2_with fail
          clear e0 e1 e2 e3 e4 e5 d0 d1 d2 d3 d4 d5 z0 z1 z2 z3 z4 z5
          have hE := set_six HO.out (.int .i64 (ix : Int)) (.int .u64 (fi : Int)) (.int .i64 (k : Int)) (.int .i64 (o : Int)) (.slice A6 pr.length c6) (.slice A7 ro.length c7)
          have hKS := keep_six w21 w.heap.size (.int .i64 (ix : Int)) (.int .u64 (fi : Int)) (.int .i64 (k : Int)) (.int .i64 (o : Int)) (.slice A6 pr.length c6) (.slice A7 ro.length c7)
          have hKE := new_six hK (g := w.heap.size) (Nat.le_refl _) (.int .i64 (ix : Int)) (.int .u64 (fi : Int)) (.int .i64 (k : Int)) (.int .i64 (o : Int)) (.slice A6 pr.length c6) (.slice A7 ro.length c7)
          generalize World.setCell _ _ _ = wE at *
          have f0 : wE.cell? ⟨w.heap.size, 0, none⟩ = some (.int .i64 (ix : Int)) := cellOf hE rfl
          have f1 : wE.cell? ⟨w.heap.size, 1, none⟩ = some (.int .u64 (fi : Int)) := cellOf hE rfl
          have f2 : wE.cell? ⟨w.heap.size, 2, none⟩ = some (.int .i64 (k : Int)) := cellOf hE rfl
          have f3 : wE.cell? ⟨w.heap.size, 3, none⟩ = some (.int .i64 (o : Int)) := cellOf hE rfl
          have f4 : wE.cell? ⟨w.heap.size, 4, none⟩ = some (.slice A6 pr.length c6) := cellOf hE rfl
          have f5 : wE.cell? ⟨w.heap.size, 5, none⟩ = some (.slice A7 ro.length c7) := cellOf hE rfl
          refine bodyPost_ret (v := .tuple #[.agg #[.int .i64 (ix : Int), .int .u64 (fi : Int), .int .i64 (k : Int), .int .i64 (o : Int), .slice A6 pr.length c6, .slice A7 ro.length c7], .slice A' k c', .int .i64 0]) (by simp [results, Tryz.results54, go_sem, f0, f1, f2, f3, f4, f5]) rfl ?_
          rw [show segRead bs = (⟨ix, fi, k, o, pr, ro⟩, rs, 0) from by rw [hC.out, HM1.out]; exact (if_neg (by rintro (h | h); exact h HRL.out; rw [HZ.out] at h; cases h)).trans (if_neg (fun h => h HRO.out))]
          have u6 := own_keep v6 hKS (fun k hk e => by have := (own_lt v6 k hk).1; omega)
          have u7 := own_keep v7 hKS (fun k hk e => by have := (own_lt v7 k hk).1; omega)
          have v12' : OwnRefs wE w.heap.size (fun b => w.heap.size ≤ b) A' k c' rs := by
           obtain ⟨vs, o1, o2, o3⟩ := v12
           exact ⟨vs, own_base (own_keep o1 hKS (fun q hq e => by have := (own_lt o1 q hq).1; omega)) (by omega), o2, fun q hq => ((o3 q hq).keep hKS (fun b _ hb => by have := hb.1; omega)).imp (fun b _ hb => ⟨by have := hb.1; omega, hb.2⟩)⟩
          rw [← HLEN.out] at v12'
          exact ⟨⟨A6, c6, A7, c7, A', c', by rw [HLEN.out], own_cap u6, own_cap u7, (Row.of_own u6).imp (fun b _ h => by omega), (Row.of_own u7).imp (fun b _ h => by omega), v12'⟩, hKE⟩
         ·have hro' : (rootOf (leavesOf rs) == ro) = false := by simpa using hro
          have HRO := Lib.hid hro
          clear hro
          refine hold_begin (by kernel_rfl) ?_
          have n0 : New wr wr.drew := (New.refl wr).drew
          replace y5 := fun W (hW : New wr.drew W) => y5 W (Keep.new n0 hW)
          replace yro := fun W (hW : New wr.drew W) => yro W (Keep.new n0 hW)
          refine take1 0 ?_
          refine take1 4 ?_
          refine take1 5 ?_
          refine take1 6 ?_
          refine hold_step (i := 1) (by kernel_rfl) rfl rfl (fun K hK => ?_)
          go_simp
          refine (HLV.out _ n0).mono ?_
          rintro e w20 ⟨⟨A20, c20, rfl, o20⟩, k20⟩
          go_wp2_with fail
          refine hK.out _ _ k20 ?_
          clear hK K
          try simp only [Act.put, ly1, ly2, ly3, ly4, ly5, ly6]
          replace n0 := Keep.new n0 k20
          replace y5 := fun W (hW : New w20 W) => y5 W (Keep.new k20 hW)
          replace yro := fun W (hW : New w20 W) => yro W (Keep.new k20 hW)
          refine hold_step (i := 2) (by kernel_rfl) rfl rfl (fun K hK => ?_)
          go_simp
          refine (HRT.out _ _ _ _ _ o20).mono ?_
          rintro e w21 ⟨⟨A21, c21, rfl, o21⟩, k21⟩; have v21 := HVR.out w21 _ A21 c21 o21
          go_wp2_with fail
          refine hK.out _ _ k21 ?_
          clear hK K
          try simp only [Act.put, ly1, ly2, ly3, ly4, ly5, ly6]
          replace n0 := Keep.new n0 k21
          replace y5 := fun W (hW : New w21 W) => y5 W (Keep.new k21 hW)
          replace yro := fun W (hW : New w21 W) => yro W (Keep.new k21 hW)
          refine take1 3 ?_
          refine take1 7 ?_
          refine wpAnyH_done (by kernel_rfl) ?_ _
          clear hro' y5 yro
          have HO := Lib.hid (n0.blockAt HOr.out trivial)
          have hK := hK0r.new n0
          have d0 : w21.cell? ⟨w.heap.size, 0, none⟩ = some (.int .i64 0) := cellOf HO.out rfl
          have d1 : w21.cell? ⟨w.heap.size, 1, none⟩ = some (.int .u64 0) := cellOf HO.out rfl
          have d2 : w21.cell? ⟨w.heap.size, 2, none⟩ = some (.int .i64 0) := cellOf HO.out rfl
          have d3 : w21.cell? ⟨w.heap.size, 3, none⟩ = some (.int .i64 0) := cellOf HO.out rfl
          have d4 : w21.cell? ⟨w.heap.size, 4, none⟩ = some (.slice none 0 0) := cellOf HO.out rfl
          have d5 : w21.cell? ⟨w.heap.size, 5, none⟩ = some (.slice none 0 0) := cellOf HO.out rfl
          obtain ⟨z0, z1, z2, z3, z4, z5⟩ := fz6 HO.out
          go_wp2_with fail
          clear d0 d1 d2 d3 d4 d5 z0 z1 z2 z3 z4 z5
          have hE := set_six HO.out (.int .i64 0) (.int .u64 0) (.int .i64 0) (.int .i64 0) (.slice none 0 0) (.slice none 0 0)
          have hKE := new_six hK (g := w.heap.size) (Nat.le_refl _) (.int .i64 0) (.int .u64 0) (.int .i64 0) (.int .i64 0) (.slice none 0 0) (.slice none 0 0)
          generalize World.setCell _ _ _ = wE at *
          have f0 : wE.cell? ⟨w.heap.size, 0, none⟩ = some (.int .i64 0) := cellOf hE rfl
          have f1 : wE.cell? ⟨w.heap.size, 1, none⟩ = some (.int .u64 0) := cellOf hE rfl
          have f2 : wE.cell? ⟨w.heap.size, 2, none⟩ = some (.int .i64 0) := cellOf hE rfl
          have f3 : wE.cell? ⟨w.heap.size, 3, none⟩ = some (.int .i64 0) := cellOf hE rfl
          have f4 : wE.cell? ⟨w.heap.size, 4, none⟩ = some (.slice none 0 0) := cellOf hE rfl
          have f5 : wE.cell? ⟨w.heap.size, 5, none⟩ = some (.slice none 0 0) := cellOf hE rfl
          refine bodyPost_ret (v := .tuple #[.agg #[.int .i64 0, .int .u64 0, .int .i64 0, .int .i64 0, .slice none 0 0, .slice none 0 0], .slice none 0 0, .int .i64 40]) (by simp [results, Tryz.results54, go_sem, f0, f1, f2, f3, f4, f5]) rfl ?_
          rw [show segRead bs = (noHead, [], 40) from by rw [hC.out, HM1.out]; exact (if_neg (by rintro (h | h); exact h HRL.out; rw [HZ.out] at h; cases h)).trans (if_pos HRO.out)]
          exact ⟨⟨none, 0, none, 0, none, 0, rfl, Nat.le_refl _, Nat.le_refl _, Row.nil _ _ _ _, Row.nil _ _ _ _, OwnRefs.nil _ _ _⟩, hKE⟩
        ·have HRL : Hid ((sub.drop o).length ≠ 0) := Lib.hid (by rw [HRLN.out]; omega)
         have hq24 : (((82 + o : Nat) : Int) != 82 + (by' : Int)) = true := by rw [bne_iff_ne]; omega
         have hq24' : ((82 : Int) + (o : Int) != 82 + (by' : Int)) = true := by rw [bne_iff_ne]; omega
         have hq24'' : ((o : Int) != (by' : Int)) = true := by rw [bne_iff_ne]; omega
         have d0 : wr.cell? ⟨w.heap.size, 0, none⟩ = some (.int .i64 0) := cellOf HOr.out rfl
         have d1 : wr.cell? ⟨w.heap.size, 1, none⟩ = some (.int .u64 0) := cellOf HOr.out rfl
         have d2 : wr.cell? ⟨w.heap.size, 2, none⟩ = some (.int .i64 0) := cellOf HOr.out rfl
         have d3 : wr.cell? ⟨w.heap.size, 3, none⟩ = some (.int .i64 0) := cellOf HOr.out rfl
         have d4 : wr.cell? ⟨w.heap.size, 4, none⟩ = some (.slice none 0 0) := cellOf HOr.out rfl
         have d5 : wr.cell? ⟨w.heap.size, 5, none⟩ = some (.slice none 0 0) := cellOf HOr.out rfl
         obtain ⟨z0, z1, z2, z3, z4, z5⟩ := fz6 HOr.out
         go_wp2_with fail
         clear d0 d1 d2 d3 d4 d5 z0 z1 z2 z3 z4 z5
         have hE := set_six HOr.out (.int .i64 0) (.int .u64 0) (.int .i64 0) (.int .i64 0) (.slice none 0 0) (.slice none 0 0)
         have hKE := new_six hK0r (g := w.heap.size) (Nat.le_refl _) (.int .i64 0) (.int .u64 0) (.int .i64 0) (.int .i64 0) (.slice none 0 0) (.slice none 0 0)
         generalize World.setCell _ _ _ = wE at *
         have f0 : wE.cell? ⟨w.heap.size, 0, none⟩ = some (.int .i64 0) := cellOf hE rfl
         have f1 : wE.cell? ⟨w.heap.size, 1, none⟩ = some (.int .u64 0) := cellOf hE rfl
         have f2 : wE.cell? ⟨w.heap.size, 2, none⟩ = some (.int .i64 0) := cellOf hE rfl
         have f3 : wE.cell? ⟨w.heap.size, 3, none⟩ = some (.int .i64 0) := cellOf hE rfl
         have f4 : wE.cell? ⟨w.heap.size, 4, none⟩ = some (.slice none 0 0) := cellOf hE rfl
         have f5 : wE.cell? ⟨w.heap.size, 5, none⟩ = some (.slice none 0 0) := cellOf hE rfl
         refine bodyPost_ret (v := .tuple #[.agg #[.int .i64 0, .int .u64 0, .int .i64 0, .int .i64 0, .slice none 0 0, .slice none 0 0], .slice none 0 0, .int .i64 12]) (by simp [results, Tryz.results54, go_sem, f0, f1, f2, f3, f4, f5]) rfl ?_
         rw [show segRead bs = (noHead, [], 12) from by rw [hC.out, HM1.out]; exact if_pos (.inl HRL.out)]
         exact ⟨⟨none, 0, none, 0, none, 0, rfl, Nat.le_refl _, Nat.le_refl _, Row.nil _ _ _ _, Row.nil _ _ _ _, OwnRefs.nil _ _ _⟩, hKE⟩
 ·have hs' : (ck == be4 cx) = false := by simpa using fun h : ck = be4 cx => hs h.symm
  have HS := Lib.hid hs
  clear hs
  refine hold_begin (by kernel_rfl) ?_
  have n0 : New w0 w0.drew := (New.refl w0).drew
  replace x0 := fun W (hW : New w0.drew W) => x0 W (Keep.new n0 hW)
  refine take1 0 ?_
  refine take1 1 ?_
  refine take1 2 ?_
  refine take1 3 ?_
  refine take1 4 ?_
  refine hold_step (i := 5) (by kernel_rfl) rfl rfl (fun K hK => ?_)
  go_simp
  refine (HCR.out _ (HK0.out.new n0)).mono ?_
  rintro e w1 ⟨rfl, k1⟩
  go_wp2_with fail
  refine hK.out _ _ k1 ?_
  clear hK K
  try simp only [Act.put, ly1, ly2, ly3, ly4, ly5, ly6]
  replace n0 := Keep.new n0 k1
  replace x0 := fun W (hW : New w1 W) => x0 W (Keep.new k1 hW)
  refine hold_step (i := 6) (by kernel_rfl) rfl rfl (fun K hK => ?_)
  go_simp
  refine (sum4_any (fun _ => True) none 0 0 [] _ _ (Row.nil _ _ _ _) (by decide)).mono ?_
  rintro e w2 ⟨⟨A2, c2, rfl, o2⟩, k2⟩; have v2 := HV.out w2 _ A2 c2 o2
  go_wp2_with fail
  refine hK.out _ _ k2 ?_
  clear hK K
  try simp only [Act.put, ly1, ly2, ly3, ly4, ly5, ly6]
  replace n0 := Keep.new n0 k2
  replace x0 := fun W (hW : New w2 W) => x0 W (Keep.new k2 hW)
  refine take1 7 ?_
  refine take1 8 ?_
  refine wpAnyH_done (by kernel_rfl) ?_ _
  clear hs' x0 v2
  have HO := Lib.hid (n0.blockAt HO0.out trivial)
  have hK := HK0.out.new n0
  have d0 : w2.cell? ⟨w.heap.size, 0, none⟩ = some (.int .i64 0) := cellOf HO.out rfl
  have d1 : w2.cell? ⟨w.heap.size, 1, none⟩ = some (.int .u64 0) := cellOf HO.out rfl
  have d2 : w2.cell? ⟨w.heap.size, 2, none⟩ = some (.int .i64 0) := cellOf HO.out rfl
  have d3 : w2.cell? ⟨w.heap.size, 3, none⟩ = some (.int .i64 0) := cellOf HO.out rfl
  have d4 : w2.cell? ⟨w.heap.size, 4, none⟩ = some (.slice none 0 0) := cellOf HO.out rfl
  have d5 : w2.cell? ⟨w.heap.size, 5, none⟩ = some (.slice none 0 0) := cellOf HO.out rfl
  obtain ⟨z0, z1, z2, z3, z4, z5⟩ := fz6 HO.out
  go_wp2_with fail
  clear d0 d1 d2 d3 d4 d5 z0 z1 z2 z3 z4 z5
  have hE := set_six HO.out (.int .i64 0) (.int .u64 0) (.int .i64 0) (.int .i64 0) (.slice none 0 0) (.slice none 0 0)
  have hKE := new_six hK (g := w.heap.size) (Nat.le_refl _) (.int .i64 0) (.int .u64 0) (.int .i64 0) (.int .i64 0) (.slice none 0 0) (.slice none 0 0)
  generalize World.setCell _ _ _ = wE at *
  have f0 : wE.cell? ⟨w.heap.size, 0, none⟩ = some (.int .i64 0) := cellOf hE rfl
  have f1 : wE.cell? ⟨w.heap.size, 1, none⟩ = some (.int .u64 0) := cellOf hE rfl
  have f2 : wE.cell? ⟨w.heap.size, 2, none⟩ = some (.int .i64 0) := cellOf hE rfl
  have f3 : wE.cell? ⟨w.heap.size, 3, none⟩ = some (.int .i64 0) := cellOf hE rfl
  have f4 : wE.cell? ⟨w.heap.size, 4, none⟩ = some (.slice none 0 0) := cellOf hE rfl
  have f5 : wE.cell? ⟨w.heap.size, 5, none⟩ = some (.slice none 0 0) := cellOf hE rfl
  refine bodyPost_ret (v := .tuple #[.agg #[.int .i64 0, .int .u64 0, .int .i64 0, .int .i64 0, .slice none 0 0, .slice none 0 0], .slice none 0 0, .int .i64 14]) (by simp [results, Tryz.results54, go_sem, f0, f1, f2, f3, f4, f5]) rfl ?_
  rw [show segRead bs = (noHead, [], 14) from by rw [hC.out, if_pos HS.out]]
  exact ⟨⟨none, 0, none, 0, none, 0, rfl, Nat.le_refl _, Nat.le_refl _, Row.nil _ _ _ _, Row.nil _ _ _ _, OwnRefs.nil _ _ _⟩, hKE⟩
theorem read17_any (D : Nat → Prop) (A : Option Addr) (n c : Nat) (bs : List UInt8) (w : World) (hB : Bs w D A n bs) (hc : n ≤ c) (hc9 : c ≤ 9223372036854775807) :
  Calls Tryz.prog 54 #[.slice A n c] w (ReadRet17 (segRead bs) w) := by
 by_cases h : n = 1024
 ·subst h; exact read17_go D A c bs w hB hc hc9
 ·exact read17_short D A n c bs w hB h
end Go.Proofs.YtajnkbfcnmajoaaGreatDoor
