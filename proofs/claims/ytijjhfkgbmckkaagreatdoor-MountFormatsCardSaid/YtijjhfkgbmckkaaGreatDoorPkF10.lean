/-
  PROVED HERE: what the reference's reader (permafrostref4.Reader) does: what the program's does; conditions: fewer than 2^40 bytes.
-/
import Derived.Test.YtijjhfkgbmckkaaGreatDoorPkF08
namespace Go.Proofs.YtijjhfkgbmckkaaGreatDoor
open Go.RowKit
structure Rd4 (w : World) (p : Nat) (b0 : List UInt8) (s : RdS) : Prop where
 row : ∃ A m c, w.cell? ⟨p, 0, none⟩ = some (.slice A m c) ∧ m ≤ c ∧ c ≤ 9223372036854775807 ∧ Bs w (fun b => b < p) A m b0
 at_ : w.cell? ⟨p, 1, none⟩ = some (.int .i64 ((b0.length - s.bs.length : Nat) : Int))
 why : w.cell? ⟨p, 2, none⟩ = some (.int .i64 s.why)
 cut : ∃ k, k ≤ b0.length ∧ s.bs = b0.drop k
 free1 : w.frozen? ⟨p, 1, none⟩ = false
 free2 : w.frozen? ⟨p, 2, none⟩ = false
 bound : b0.length ≤ 1099511627776
theorem Rd4.lt {w : World} {p : Nat} {b0 : List UInt8} {s : RdS} (h : Rd4 w p b0 s) : p < w.heap.size := World.block_lt_of_cell? w _ h.why
theorem Rd4.keep {w w' : World} {p : Nat} {b0 : List UInt8} {s : RdS} (h : Rd4 w p b0 s) (hk : New w w') : Rd4 w' p b0 s := by
 obtain ⟨A, m, c, h1, h2, h3, h4⟩ := h.row
 exact ⟨⟨A, m, c, hk.cell_some h1 trivial, h2, h3, h4.new hk⟩, hk.cell_some h.at_ trivial, hk.cell_some h.why trivial, h.cut, (hk.frozen (p := ⟨p, 1, none⟩) h.lt trivial).trans h.free1, (hk.frozen (p := ⟨p, 2, none⟩) h.lt trivial).trans h.free2, h.bound⟩
theorem Rd4.keepE {w w' : World} {p : Nat} {b0 : List UInt8} {s : RdS} {E : Nat → Prop} (h : Rd4 w p b0 s) (hk : Keep E w w') (hE : ∀ b, b ≤ p → E b) : Rd4 w' p b0 s := by
 obtain ⟨A, m, c, h1, h2, h3, h4⟩ := h.row
 have hp := hE p (Nat.le_refl _)
 exact ⟨⟨A, m, c, hk.cell_some h1 hp, h2, h3, h4.keep hk (fun b _ hb => hE b (Nat.le_of_lt hb))⟩, hk.cell_some h.at_ hp, hk.cell_some h.why hp, h.cut, (hk.frozen (p := ⟨p, 1, none⟩) h.lt hp).trans h.free1, (hk.frozen (p := ⟨p, 2, none⟩) h.lt hp).trans h.free2, h.bound⟩
theorem Rd4.setWhy {w : World} {p : Nat} {b0 : List UInt8} {s : RdS} (h : Rd4 w p b0 s) (y : Int) : Rd4 (w.setCell ⟨p, 2, none⟩ (.int .i64 y)) p b0 ⟨s.bs, y⟩ := by
 obtain ⟨A, m, c, h1, h2, h3, h4⟩ := h.row
 refine ⟨⟨A, m, c, ?_, h2, h3, h4.setCell (p := ⟨p, 2, none⟩) (Nat.lt_irrefl _) _⟩, ?_, World.cell?_setCell_same _ _ _ h.why, h.cut, setCell_free h.free1, setCell_free h.free2, h.bound⟩
 ·rw [World.cell?_setCell_other _ _ _ _ (by intro hh; injection hh; omega)]; exact h1
 ·rw [World.cell?_setCell_other _ _ _ _ (by intro hh; injection hh; omega)]; exact h.at_
theorem Rd4.setAt {w : World} {p : Nat} {b0 : List UInt8} {s : RdS} (h : Rd4 w p b0 s) {k : Nat} (hk : k ≤ b0.length) : Rd4 (w.setCell ⟨p, 1, none⟩ (.int .i64 (k : Int))) p b0 ⟨b0.drop k, s.why⟩ := by
 obtain ⟨A, m, c, h1, h2, h3, h4⟩ := h.row
 refine ⟨⟨A, m, c, ?_, h2, h3, h4.setCell (p := ⟨p, 1, none⟩) (Nat.lt_irrefl _) _⟩, ?_, ?_, ⟨k, hk, rfl⟩, setCell_free h.free1, setCell_free h.free2, h.bound⟩
 ·rw [World.cell?_setCell_other _ _ _ _ (by intro hh; injection hh; omega)]; exact h1
 ·have e : b0.length - (RdS.mk (b0.drop k) s.why).bs.length = k := by show b0.length - (b0.drop k).length = k; rw [List.length_drop]; omega
  rw [e]; exact World.cell?_setCell_same _ _ _ h.at_
 ·rw [World.cell?_setCell_other _ _ _ _ (by intro hh; injection hh; omega)]; exact h.why
theorem Rd4.made {D : Nat → Prop} {w : World} {A : Option Addr} {n c : Nat} {bs : List UInt8} (hB : Bs w D A n bs) (hnc : n ≤ c) (hc : c ≤ 9223372036854775807) (hn : n ≤ 1099511627776) :
  Rd4 (w.alloc (.cells #[.slice A n c, .int .i64 0, .int .i64 0] 118)) w.heap.size bs ⟨bs, 0⟩ := by
 have hh := heap_alloc_new w (.cells #[.slice A n c, .int .i64 0, .int .i64 0] 118)
 have hl := hB.len
 refine ⟨⟨A, n, c, cellOf hh rfl, hnc, hc, (hB.imp (E := fun b => b < w.heap.size) (fun b hb _ => hb)).alloc _⟩, ?_, cellOf hh rfl, ⟨0, Nat.zero_le _, rfl⟩, free_new w _ _ _, free_new w _ _ _, by omega⟩
 rw [show bs.length - (RdS.mk bs 0).bs.length = 0 from Nat.sub_self _]
 exact cellOf hh rfl
set_option maxRecDepth 100000 in
set_option maxHeartbeats 1000000 in
theorem r4raw_any (p : Nat) (b0 : List UInt8) (s : RdS) (n : Int) (w : World) (hR : Rd4 w p b0 s) (hn0 : -9223372036854775808 ≤ n) (hn1 : n ≤ 1099511627776) :
  Calls Tryz.prog 63 #[.pointer (some ⟨p, 0, none⟩), .int .i64 n] w fun e w' =>
   (∃ A' c', e = .returned (.slice A' (s.raw n).1.length c') ∧ OwnB w' w.heap.size 5 A' (s.raw n).1.length c' (s.raw n).1) ∧ Rd4 w' p b0 (s.raw n).2 ∧ Keep (fun b => b ≠ p) w w' := by
 obtain ⟨A, m, c, hc0, hmc, hc9, hB⟩ := hR.row
 have hc1 := hR.at_
 have hc2 := hR.why
 have hf1 := hR.free1
 have hf2 := hR.free2
 have hlb := hR.bound
 have hl := hB.len
 obtain ⟨k, hk, hbs⟩ := hR.cut
 have hsl : s.bs.length = m - k := by rw [hbs, List.length_drop, hl]
 have hat : b0.length - s.bs.length = k := by omega
 rw [hat] at hc1
 have HR := Lib.hid hR
 clear hR hat
 by_cases hw : s.why = 0
 ·by_cases hn1' : n < 1
  ·rw [s.raw_none n (.inr hn1')]
   rw [hw] at hc2
   clear hw hl hB hbs hsl
   go_enter Tryz.func63, Tryz.ntmps63
   go_wp2_with fail
   go_ret
   exact ⟨⟨none, 0, rfl, Own.nil _ _ _ _⟩, HR.out, Keep.refl _ _⟩
  ·by_cases hn : ((m - k : Nat) : Int) < n
   ·rw [s.raw_end n hw (by omega)]
    have h1 := HR.out.setWhy 10
    have hK := (Keep.refl (fun b => b ≠ p) w).setCell (p := ⟨p, 2, none⟩) (fun h => absurd rfl h) (.int .i64 10)
    rw [hw] at hc2
    have q1 : IntKind.i64.wrap ((m : Int) - (k : Int)) = ((m - k : Nat) : Int) := by rw [IntWalk.i64_in _ (by omega)]; omega
    clear hw hl hB hbs hsl
    go_enter Tryz.func63, Tryz.ntmps63
    go_wp2_with fail
    go_quiet (fail)
    have hNq : New w (w.drewN nq) := (New.refl w).drewN nq
    have d2 := hNq.cell_some hc2 trivial
    have g2 := (hNq.frozen (p := ⟨p, 2, none⟩) HR.out.lt trivial).trans hf2
    have HRq := Lib.hid (HR.out.keep hNq)
    have HKq := Lib.hid (show Keep (fun b => b ≠ p) w (w.drewN nq) from Keep.of_new hNq)
    generalize w.drewN nq = wq at *
    clear hNq h1 hK
    go_wp2_with fail
    go_ret
    exact ⟨⟨none, 0, rfl, Own.nil _ _ _ _⟩, HRq.out.setWhy 10, HKq.out.setCell (p := ⟨p, 2, none⟩) (fun h => absurd rfl h) _⟩
   ·obtain ⟨nn, rfl⟩ := Int.eq_ofNat_of_zero_le (by omega : 0 ≤ n)
    rw [s.raw_some nn hw (by omega) (by omega), Int.toNat_natCast]
    have HL : Hid ((s.bs.take nn).length = nn) := Lib.hid (by rw [List.length_take]; omega)
    rw [HL.out, hbs]
    rw [hw] at hc2
    have hnk : nn ≤ m - k := by omega
    have q1 : IntKind.i64.wrap ((m : Int) - (k : Int)) = ((m - k : Nat) : Int) := by rw [IntWalk.i64_in _ (by omega)]; omega
    have q2 : IntKind.i64.wrap ((k : Int) + (nn : Int)) = (k : Int) + (nn : Int) := IntWalk.i64_in _ (by omega)
    have q3 : ¬ c = k := by omega
    have q4 : (0 : Int) ≤ (k : Int) + (nn : Int) := by omega
    have q5 : (k : Int) + (nn : Int) ≤ c := by omega
    have q6 : ((k : Int) + (nn : Int)).toNat - k = nn := by omega
    have q7 : k ≤ ((k : Int) + (nn : Int)).toNat := by omega
    have HCT : Hid (Bs w (fun b => b < p) (Option.map (fun x => x.add k) A) nn ((b0.drop k).take nn)) := Lib.hid (Bs.cutTo (Bs.from_ hB (l := k) (by omega)) (by omega))
    have hbd : 0 + nn ≤ 140737488355328 := by omega
    have hkn : k + nn ≤ b0.length := by omega
    have HDD : Hid ((b0.drop k).drop nn = b0.drop (k + nn)) := Lib.hid (by rw [List.drop_drop])
    have HW := Lib.hid hw
    clear hw hl hB hbs hsl HL
    go_enter Tryz.func63, Tryz.ntmps63
    go_wp2_with fail
    go_quiet (fail)
    have hNq : New w (w.drewN nq) := (New.refl w).drewN nq
    have d0 := hNq.cell_some hc0 trivial
    have d1 := hNq.cell_some hc1 trivial
    have g1 := (hNq.frozen (p := ⟨p, 1, none⟩) HR.out.lt trivial).trans hf1
    have HRq := Lib.hid (HR.out.keep hNq)
    have HCq := Lib.hid (HCT.out.new hNq)
    have HKq := Lib.hid hNq
    have hsz : w.heap.size = (w.drewN nq).heap.size := rfl
    have HSZ := Lib.hid hsz
    generalize w.drewN nq = wq at *
    have hplt := HRq.out.lt
    clear hNq hc0 hc1 hc2 hf1 hf2 HCT hsz
    go_wp2_with fail
    have y0 : ∀ W, New wq W → W.cell? ⟨p, 0, none⟩ = some (.slice A m c) := fun W h => h.cell_some d0 trivial
    have y1 : ∀ W, New wq W → W.cell? ⟨p, 1, none⟩ = some (.int .i64 (k : Int)) := fun W h => h.cell_some d1 trivial
    have hown0 : OwnB (wq.drew.alloc (.cells #[] 5)) wq.drew.heap.size 5 (some ⟨wq.drew.heap.size, 0, none⟩) 0 0 [] := World.ownsRow_made wq.drew #[] 0 (Nat.le_refl _) (by decide) rfl
    have hk0 : New wq.drew (wq.drew.alloc (.cells #[] 5)) := (New.refl _).alloc _
    have hct := HCq.out.new ((New.refl wq).drew.new hk0)
    refine hold_begin (by kernel_rfl) ?_
    have n0 : New wq.drew wq.drew := New.refl _
    replace y0 := fun W (hW : New wq.drew W) => y0 W (Keep.new (Keep.drew (New.refl wq)) hW)
    replace y1 := fun W (hW : New wq.drew W) => y1 W (Keep.new (Keep.drew (New.refl wq)) hW)
    refine take0 1 n0 ?_
    refine take0 2 n0 ?_
    refine take0 3 n0 ?_
    refine take0 4 n0 ?_
    refine take0 5 n0 ?_
    refine take0 6 n0 ?_
    refine take0 7 n0 ?_
    refine take0 8 n0 ?_
    refine take0 9 n0 ?_
    refine take0 10 n0 ?_
    refine take0 11 n0 ?_
    refine take0 12 n0 ?_
    refine take0 13 n0 ?_
    refine take0 14 n0 ?_
    refine take0 15 n0 ?_
    refine hold_step0 (i := 0) (by kernel_rfl) rfl rfl (fun K hK => ?_)
    go_simp
    go_wp2_with fail
    have n1 := Keep.new n0 hk0
    refine hK.out _ _ n1 ?_
    clear hK K
    try simp only [Act.put, ly1, ly2, ly3, ly4, ly5, ly6]
    replace n0 := n1
    clear n1
    refine hold_step0 (i := 16) (by kernel_rfl) rfl rfl (fun K hK => ?_)
    refine wp_bytes _ _ _ rfl wq.drew.heap.size _ 0 0 [] rfl hown0 _ _ nn (c - k) _ rfl hct hbd hk0.size ?_
    intro A1 c1 w1 hown1 hg1 hbk1
    have n1 := new_app0 hk0 hown0 hg1
    refine hK.out _ _ n1 ?_
    clear hK K
    try simp only [Act.put, ly1, ly2, ly3, ly4, ly5, ly6]
    replace n0 := n1
    clear n1
    refine take0 17 n0 ?_
    refine wpAnyH_done (by kernel_rfl) ?_ _
    have hK1 := Keep.new (Keep.drew (New.refl wq)) n0
    have e1 := hK1.cell_some d1 trivial
    have z1 := (hK1.frozen (p := ⟨p, 1, none⟩) hplt trivial).trans g1
    have HR1 := HRq.out.keep hK1
    clear y0 y1 d0 d1 g1 hct hk0 hown0
    go_wp2_with fail
    go_ret
    have hr := HR1.setAt hkn
    have hA1 : blk A1 ≠ some p := fun e => by have := (own_lt hown1 p e).1; have h2 : p < wq.drew.heap.size := hplt; omega
    refine ⟨⟨A1, c1, rfl, ?_⟩, ?_, ?_⟩
    ·rw [Nat.zero_add] at hown1
     exact own_base (own_set (p := ⟨p, 1, none⟩) hown1 (fun e => hA1 e) _) (by rw [HSZ.out]; exact Nat.le_refl _)
    ·rw [HDD.out, ← HW.out]
     have e : ((k + nn : Nat) : Int) = (k : Int) + (nn : Int) := by omega
     rw [← e]
     exact hr
    ·exact (Keep.of_new (HKq.out.new hK1)).setCell (p := ⟨p, 1, none⟩) (fun h => absurd rfl h) _
 ·rw [s.raw_none n (.inl hw)]
  have e1 : (s.why != 0) = true := by simpa using hw
  clear hw hl hB hbs hsl
  go_enter Tryz.func63, Tryz.ntmps63
  go_wp2_with fail
  go_ret
  exact ⟨⟨none, 0, rfl, Own.nil _ _ _ _⟩, HR.out, Keep.refl _ _⟩
set_option maxRecDepth 100000 in
theorem r4num_any (p k : Nat) (b0 : List UInt8) (s : RdS) (w : World) (hR : Rd4 w p b0 s) (hk : k ≤ 8) (ki : Int) (hki : ki = k) :
  Calls Tryz.prog 134 #[.pointer (some ⟨p, 0, none⟩), .int .i64 ki] w fun e w' => e = .returned (.int .u64 ((s.num k).1 : Nat)) ∧ Rd4 w' p b0 (s.num k).2 ∧ Keep (fun b => b ≠ p) w w' := by
 subst hki
 have hle := (s.raw_le k).2.2
 unfold RdS.num
 dsimp only
 have HRW := Lib.hid (r4raw_any p b0 s k w hR (by omega) (by omega))
 clear hR
 generalize (s.raw k).1 = x at *
 generalize (s.raw k).2 = s' at *
 have hx8 : x.length ≤ 8 := by omega
 go_enter Tryz.func134, Tryz.ntmps134
 go_wp2_with fail
 refine HRW.out.mono ?_
 rintro e w1 ⟨⟨A1, c1, rfl, hown⟩, hR1, hK1⟩
 have hB := Row.of_own hown
 clear hown
 go_wp2_with fail
 go_loop [6, 7] (fun s5 i => ∃ j : Nat, j ≤ x.length ∧ i = .int .i64 (j : Int) ∧ s5 = .int .u64 ((beNat (x.take j) : Nat) : Int)) (fun _ i => x.length - (intOf i).toNat)
 case atStart => exact ⟨0, Nat.zero_le _, rfl, rfl⟩
 case round =>
  obtain ⟨j, hj, rfl, rfl⟩ := hrel
  by_cases hlt : j < x.length
  ·obtain ⟨b, off, rfl, _, _, hc⟩ := Bs.cellAt (bs := x) hB (by omega)
   have ck := hc j hlt
   have HS := Lib.hid (show beNat (x.take (j + 1)) = beNat (x.take j) * 256 + (x[j]).toNat from by rw [List.take_succ_eq_append_getElem hlt, beNat_snoc])
   have hsm : beNat (x.take j) < 72057594037927936 := by
    refine Nat.lt_of_lt_of_le (beNat_lt _) ?_
    have h7 : (x.take j).length ≤ 7 := by rw [List.length_take]; omega
    exact Nat.le_trans (Nat.pow_le_pow_right (by decide) h7) (by decide)
   have HO := Lib.hid (beNat_shift (beNat (x.take j)) x[j] hsm)
   clear hc hB
   generalize x[j] = y at *
   generalize beNat (x.take j) = z at *
   go_wp2_with fail
   go_round
   case rel => exact ⟨j + 1, by omega, by go_num, by rw [bv_wrap64, HO.out, HS.out]⟩
   case measure => simp [intOf]; omega
  ·obtain rfl : j = x.length := by omega
   rw [List.take_of_length_le (Nat.le_refl _)]
   go_wp2_with fail
   go_ret
   exact ⟨rfl, hR1, hK1⟩
set_option maxRecDepth 100000 in
theorem r4short_any (p : Nat) (b0 : List UInt8) (s : RdS) (w : World) (hR : Rd4 w p b0 s) :
  Calls Tryz.prog 62 #[.pointer (some ⟨p, 0, none⟩)] w fun e w' => e = .returned (.int .i64 ((s.num 2).1 : Nat)) ∧ Rd4 w' p b0 (s.num 2).2 ∧ Keep (fun b => b ≠ p) w w' := by
 have hlt := num_lt s 2
 have HG := Lib.hid (r4num_any p 2 b0 s w hR (by decide) 2 rfl)
 clear hR
 generalize (s.num 2).1 = z at *
 generalize (s.num 2).2 = s' at *
 have hw := i64_small z (by omega)
 have HW := Lib.hid hw
 clear hw
 go_enter Tryz.func62, Tryz.ntmps62
 go_wp2_with fail
 refine HG.out.mono ?_
 rintro e w1 ⟨rfl, hR1, hK1⟩
 go_wp2_with fail
 go_ret
 exact ⟨by first | rfl | (rw [← HW.out]; rfl), hR1, hK1⟩
set_option maxRecDepth 100000 in
theorem r4long_any (p : Nat) (b0 : List UInt8) (s : RdS) (w : World) (hR : Rd4 w p b0 s) :
  Calls Tryz.prog 61 #[.pointer (some ⟨p, 0, none⟩)] w fun e w' => e = .returned (.int .u64 ((s.num 8).1 : Nat)) ∧ Rd4 w' p b0 (s.num 8).2 ∧ Keep (fun b => b ≠ p) w w' := by
 have HG := Lib.hid (r4num_any p 8 b0 s w hR (by decide) 8 rfl)
 clear hR
 generalize (s.num 8).1 = z at *
 generalize (s.num 8).2 = s' at *
 go_enter Tryz.func61, Tryz.ntmps61
 go_wp2_with fail
 refine HG.out.mono ?_
 rintro e w1 ⟨rfl, hR1, hK1⟩
 go_wp2_with fail
 go_ret
 exact ⟨rfl, hR1, hK1⟩
end Go.Proofs.YtijjhfkgbmckkaaGreatDoor
