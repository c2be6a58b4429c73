/-
  PROVED HERE: texts that belong together, one behind the other; what each proves, and under which conditions, its own opening remark says: Walks, ClaimWalks.
-/
import Derived.Test.YtpbbfbgmpidgnaaGreatDoorPkW00
import Derived.Test.YtpbbfbgmpidgnaaGreatDoorPkW25
import Derived.Test.YtpbbfbgmpidgnaaGreatDoorPkW32
import Derived.Test.YtpbbfbgmpidgnaaGreatDoorPkW33
import Derived.Test.YtpbbfbgmpidgnaaGreatDoorPkW34
/-
  PROVED HERE: the law SealWalks answers true; conditions: lengths that a slice may have.
-/
namespace Go.Proofs.YtpbbfbgmpidgnaaGreatDoor
open Go.RowKit

theorem mod_nat' (z M : Int) (hM : 0 < M) : ∃ kk : Nat, (kk : Int) < M ∧ (0 : Int) + z % M = (kk : Int) := by
  have h0 := Int.emod_nonneg z (show M ≠ 0 by omega)
  have h1 := Int.emod_lt_of_pos z hM
  exact ⟨(z % M).toNat, by omega, by omega⟩
theorem imgs_some {w : World} {D : Nat → Prop} {A : Option Addr} {m : Nat} {vs : List Value} (hr : Row w D A m 1 vs) (h : ∀ i, i < m → ∃ b, ImgAt w D vs i b) : ∃ ls, Imgs w D A m ls := by
  have hc : ∃ f : Nat → List UInt8, ∀ i, i < m → ImgAt w D vs i (f i) := by
    refine ⟨fun i => if hi : i < m then Classical.choose (h i hi) else [], fun i hi => ?_⟩
    dsimp only
    rw [dif_pos hi]
    exact Classical.choose_spec (h i hi)
  obtain ⟨f, hf⟩ := hc
  refine ⟨(List.range m).map f, vs, hr, by simp, fun k hk => ?_⟩
  have hk' : k < m := by simpa using hk
  have hg : ((List.range m).map f)[k] = f k := by simp
  rw [hg]
  exact hf k hk'
theorem high_row {w : World} {D : Nat → Prop} {O A' : Option Addr} {k kk : Nat} {us : List Value} (h : Row w D O k 1 us) (hk : kk < k) (hA : k - (kk + 1) = 0 ∨ A' = Option.map (fun x => { block := x.block, off := x.off + (kk + 1) }) O) : Row w D A' (k - (kk + 1)) 1 (us.drop (kk + 1)) := by
  refine ⟨by rw [List.length_drop, h.1]; omega, fun hn => ?_⟩
  obtain ⟨b, off, rfl, hd, hlt, hc⟩ := h.2 (by omega)
  rcases hA with h0 | rfl
  · omega
  · refine ⟨b, off + (kk + 1), rfl, hd, hlt, fun j u hu => ?_⟩
    rw [List.getElem?_drop] at hu
    rw [Nat.add_assoc]
    exact hc _ u hu
theorem imgAt_take {w : World} {D : Nat → Prop} {us : List Value} {i m : Nat} {b : List UInt8} (h : ImgAt w D us i b) (hi : i < m) : ImgAt w D (us.take m) i b := by
  obtain ⟨A', c', e, r⟩ := h
  exact ⟨A', c', by rw [List.getElem?_take, if_pos hi]; exact e, r⟩
theorem imgAt_drop {w : World} {D : Nat → Prop} {us : List Value} {i l : Nat} {b : List UInt8} (h : ImgAt w D us (l + i) b) : ImgAt w D (us.drop l) i b := by
  obtain ⟨A', c', e, r⟩ := h
  exact ⟨A', c', by rw [List.getElem?_drop]; exact e, r⟩
/-- a store into a row of images of the call's own. -/
theorem img_store {w : World} {base : Nat} {g n c : Nat} {vs : List Value} (h : Own w base 22 1 (some ⟨g, 0, none⟩) n c vs) {j : Nat} (hj : j < n) (v : Value) :
    (∃ u, w.cell? ⟨g, j, none⟩ = some u) ∧ w.frozen? ⟨g, j, none⟩ = false ∧ Own (w.setCell ⟨g, j, none⟩ v) base 22 1 (some ⟨g, 0, none⟩) n c (vs.set j v) := by
  have hl : vs.length = n := by have := h.1; omega
  refine ⟨⟨vs[j], ?_⟩, h.frozenAt (g := g) j, (h.stored j v).1⟩
  have := h.cells (g := g) rfl j vs[j] (List.getElem?_eq_getElem (by omega))
  simpa [Addr.add_lit] using this
set_option maxRecDepth 100000 in
set_option maxHeartbeats 4000000 in
theorem walks_any (D D1 : Nat → Prop) (A A1 : Option Addr) (n c n1 c1 : Nat) (id : List UInt8) (l : List (List (List UInt8))) (wh at' : Int) (tn : UInt8) (how : Int) (w : World) (hB : Bs w D A n id) (hR : Raws8 w D1 A1 n1 l)
    (hnc : n ≤ c) (hc9 : c ≤ 9223372036854775807) (hnc1 : n1 ≤ c1) (hc19 : c1 ≤ 9223372036854775807) (hw0 : -9223372036854775808 ≤ wh) (hw1 : wh ≤ 9223372036854775807) (ha0 : -9223372036854775808 ≤ at') (ha1 : at' ≤ 9223372036854775807) (hh0 : -9223372036854775808 ≤ how) (hh1 : how ≤ 9223372036854775807) :
    Calls Tryz.prog 4 #[.slice A n c, .slice A1 n1 c1, .int .i64 wh, .int .i64 at', .int .u8 (bv tn), .int .i64 how] w fun e w' => e = .returned (.bool true) ∧ New w w' := by
  have HC0 := Lib.hid (cut_any A n c 40 id D w hB (by omega) hnc (by decide))
  have HB := Lib.hid (hB.cutMin 40)
  have hm0 : min n 40 ≤ c := by omega
  have hm2 : min n 40 ≤ 1099511620000 := by omega
  clear hB
  generalize id.take 40 = i0 at *
  generalize min n 40 = p at *
  have HC3 := Lib.hid (fun W (h : New w W) => cut_any A p c 3 i0 D W (HB.out.new h) (by omega) hm0 (by decide))
  have HB3 := Lib.hid (HB.out.cutMin 3)
  have hm3 : min p 3 ≤ c := by omega
  have hm4 : min p 3 ≤ 1099511620000 := by omega
  generalize i0.take 3 = i3 at *
  generalize min p 3 = p3 at *
  have HCH := Lib.hid (chain_any D D1 A A1 p c n1 c1 i0 l w HB.out hm2 hR (by omega))
  have hk8 : min n1 8 ≤ 8 := Nat.min_le_right _ _
  have HOK := Lib.hid (chain_ok i0 l (min n1 8) (by omega))
  clear hR
  generalize chainTo i0 l (min n1 8) = s at *
  generalize min n1 8 = k at *
  obtain ⟨im, hs, rs, pv, nx⟩ := s
  have hil := HOK.out.images
  have hsz := HOK.out.sizes
  dsimp only at hil hsz
  have HIL := Lib.hid hil
  have HSZ := Lib.hid hsz
  clear HOK hsz
  go_enter Tryz.func4, Tryz.ntmps4
  go_wp2_with fail
  refine HC0.out.mono ?_
  rintro e w' ⟨rfl, rfl⟩
  go_wp2_with fail
  refine HCH.out.mono ?_
  rintro e w1 ⟨⟨O, oc, R, rc, rfl, hch⟩, hK1⟩
  dsimp only at hch ⊢
  rw [hil] at hch ⊢
  have HO := Lib.hid hch.imgs
  obtain ⟨us, uo, ul, ui⟩ := hch.imgs
  have HUR := Lib.hid (Row.of_own uo)
  have HUI : Hid (∀ i (h : i < im.length), ImgAt w1 (fun b => b < w1.heap.size) us i im[i]) := Lib.hid fun i h => (ui i h).imp fun b hb _ => hb
  clear uo ul ui
  have HW1 := Lib.hid (fun W (h : New w1 W) => walklaw_any D _ A O p c k oc i0 im W (HB.out.new (hK1.new h)) hm0 hm2 (HO.out.imgs.new h) (by omega))
  have HW3 := Lib.hid (fun W (h : New w1 W) => walklaw_any D _ A O p3 c k oc i3 im W (HB3.out.new (hK1.new h)) hm3 hm4 (HO.out.imgs.new h) (by omega))
  have HK1 := Lib.hid hK1
  have hoc := HO.out.cap
  have hoc9 := HO.out.capMax
  clear hch hK1 HCH HC0 hil
  go_wp2_with fail
  refine (HW1.out w1 (New.refl _)).mono ?_
  rintro e w2 ⟨rfl, hK2⟩
  have HN2 := Lib.hid hK2
  clear hK2
  by_cases hk0 : k = 0
  · have hk0' : ((k : Int) == 0) = true := by simpa using hk0
    clear hk0
    go_wp2_with fail
    refine (known18_any _).mono ?_
    rintro e w3 ⟨rfl, hK3⟩
    go_wp2_with fail
    go_ret
    exact ⟨rfl, (HK1.out.new HN2.out).new hK3⟩
  · have hk0' : ((k : Int) == 0) = false := by simpa using hk0
    have hkz : 0 < k := by omega
    have hk1 : IntKind.i64.wrap ((k : Int) - 1) = (k : Int) - 1 := IntWalk.i64_in _ (by omega)
    obtain ⟨kk, hkk', hkv⟩ := mod_nat' wh ((k : Int) - 1 - 0 + 1) (by omega)
    have hkk : kk < k := by omega
    have HWH : Hid (∀ W, Calls Tryz.prog 18 #[.int .i64 wh, .int .i64 0, .int .i64 ((k : Int) - 1)] W fun e w' => e = .returned (.int .i64 (kk : Int)) ∧ W = w') := Lib.hid fun W => by
      have h := within_any wh 0 ((k : Int) - 1) W hw0 hw1 (by decide) (by omega) (by omega)
      rwa [hkv] at h
    obtain ⟨jj, hjj', hjv⟩ := mod_nat' at' ((k : Int) - 1 - 0 + 1) (by omega)
    have hjj : jj < k := by omega
    have HWJ : Hid (∀ W, Calls Tryz.prog 18 #[.int .i64 at', .int .i64 0, .int .i64 ((k : Int) - 1)] W fun e w' => e = .returned (.int .i64 (jj : Int)) ∧ W = w') := Lib.hid fun W => by
      have h := within_any at' 0 ((k : Int) - 1) W ha0 ha1 (by decide) (by omega) (by omega)
      rwa [hjv] at h
    obtain ⟨ab, hab', hav⟩ := mod_nat' at' (1023 - 0 + 1) (by decide)
    have hab : ab < 1024 := by omega
    have HWA : Hid (∀ W, Calls Tryz.prog 18 #[.int .i64 at', .int .i64 0, .int .i64 1023] W fun e w' => e = .returned (.int .i64 (ab : Int)) ∧ W = w') := Lib.hid fun W => by
      have h := within_any at' 0 1023 W ha0 ha1 (by decide) (by decide) (by decide)
      rwa [hav] at h
    obtain ⟨ho, hho', hhv⟩ := mod_nat' how (2 - 0 + 1) (by decide)
    have hho : ho < 3 := by omega
    have HWO : Hid (∀ W, Calls Tryz.prog 18 #[.int .i64 how, .int .i64 0, .int .i64 2] W fun e w' => e = .returned (.int .i64 (ho : Int)) ∧ W = w') := Lib.hid fun W => by
      have h := within_any how 0 2 W hh0 hh1 (by decide) (by decide) (by decide)
      rwa [hhv] at h
    clear hkv hjv hav hhv hkk' hjj' hab' hho'
    -- the copy
    have hN3 : New w1 (w2.alloc (.cells #[] 22)) := HN2.out.alloc _
    have hur := Row.new HUR.out hN3
    have hw12 : w1.heap.size ≤ w2.heap.size := HN2.out.size
    have hye : OwnImgs (w2.alloc (.cells #[] 22)) w2.heap.size (fun b => b < w1.heap.size) (some ⟨w2.heap.size, 0, none⟩) 0 0 [] := ⟨[], World.ownsRow_made w2 #[] 0 (Nat.le_refl _) (by decide) rfl, rfl, fun k hk => absurd hk (by simp)⟩
    have hui : ∀ i (h : i < im.length), ImgAt (w2.alloc (.cells #[] 22)) (fun b => b < w1.heap.size ∧ some b ≠ blk (some (Addr.mk w2.heap.size 0 none))) us i im[i] := fun i h => ((HUI.out i h).keep hN3 (fun _ _ _ => trivial)).imp fun b _ hd => ⟨hd, fun e => by (have e1 : b = w2.heap.size := by injection e); omega⟩
    have hbd : 0 + k ≤ 1099511627776 := by omega
    have hsy : w2.heap.size ≤ (w2.alloc (.cells #[] 22)).heap.size := by simp
    have hge2 : w.heap.size ≤ w2.heap.size := (HK1.out.new HN2.out).size
    have hil' := HIL.out
    go_wp2_with fail
    refine (HWH.out w2).mono ?_
    rintro e w' ⟨rfl, rfl⟩
    go_wp2_with (at_builtin; refine app_imgsM _ rfl _ _ rfl w2.heap.size (fun b => b < w1.heap.size) (some ⟨w2.heap.size, 0, none⟩) 0 0 [] rfl hye _ O k oc us im rfl hur hil' hui hbd hsy ?_; intro Y yc w4 hy4 hg4 hbk4)
    rw [Nat.zero_add, List.nil_append] at hy4
    have HN4 := Lib.hid (show New w1 w4 from (HN2.out.alloc (.cells #[] 22)).grown hg4 (fun j hj _ => by have := (hye.lt j hj).1; omega))
    clear hye hui hur hN3 hg4 hbk4 hbd hsy
    obtain ⟨vs, yo, yl, yi⟩ := hy4
    obtain ⟨g, cp, hA, hg, hgl⟩ := yo.form hkz
    injection hA with hA _ hcp
    subst hA
    subst hcp
    have hvl : vs.length = k := by have := yo.1; omega
    have HYO := Lib.hid yo
    have HYI : Hid (∀ i, i < k → ∃ b, b.length = 1024 ∧ ImgAt w4 (fun b => b < w1.heap.size) vs i b) := Lib.hid fun i h => ⟨im[i]'(by omega), HSZ.out _ (List.getElem_mem _), (yi i (by omega)).imp fun b _ hd => hd.1⟩
    clear yo yl yi
    have hg1 : w1.heap.size ≤ g := by omega
    go_wp2_with fail
    refine (HWO.out w4).mono ?_
    rintro e w' ⟨rfl, rfl⟩
    have hcase : ho = 0 ∨ ho = 1 ∨ ho = 2 := by omega
    rcases hcase with rfl | rfl | rfl
    · -- BEGIN turned
      obtain ⟨bk, hbl, I, ci, ev, hci, hci9, hbi⟩ := HYI.out kk hkk
      rw [hbl] at ev hci hbi
      have u0 : w4.cell? ⟨g, kk, none⟩ = some (.slice I 1024 ci) := by
        simpa [Addr.add_lit] using HYO.out.cells (g := g) rfl kk _ ev
      have hown0 : OwnB (w4.alloc (.cells #[] 5)) w4.heap.size 5 (some ⟨w4.heap.size, 0, none⟩) 0 0 [] := World.ownsRow_made w4 #[] 0 (Nat.le_refl _) (by decide) rfl
      have hs4 : w4.heap.size ≤ (w4.alloc (.cells #[] 5)).heap.size := by simp
      have hbi5 := Row.alloc hbi (.cells #[] 5)
      go_wp2_with (at_builtin; refine app_bytes _ rfl _ _ rfl w4.heap.size (some ⟨w4.heap.size, 0, none⟩) 0 0 [] rfl hown0 _ I 1024 ci bk rfl hbi5 (by decide) hs4 ?_; intro Z zc w6 oz hgz hbkz; have K46 : New w4 w6 := ((New.refl w4).alloc _).grown hgz (fun j hj _ => (own_lt hown0 j hj).1); have yo6 := Own.keepNew HYO.out K46; obtain ⟨⟨uu, eu⟩, fz, yo7⟩ := img_store yo6 hkk (.slice Z (0 + 1024) zc))
      rw [Nat.zero_add] at yo7
      rw [Nat.zero_add, List.nil_append] at oz
      have HK67 := Lib.hid ((Keep.refl (fun b => b ≠ g) w6).setCell (p := ⟨g, kk, none⟩) (fun h => absurd rfl h) (.slice Z 1024 zc))
      have hzb := fun j hj => (own_lt oz j hj).1
      have oz7 := own_keep oz HK67.out (fun j hj => by have := hzb j hj; omega)
      have hn7 : New w1 (w6.setCell ⟨g, kk, none⟩ (.slice Z 1024 zc)) := (HN4.out.new K46).setCell (p := ⟨g, kk, none⟩) (fun _ => hg1) _
      have hi7 : ∀ i, i < k → i ≠ kk → ∃ b, ImgAt (w6.setCell ⟨g, kk, none⟩ (.slice Z 1024 zc)) (fun b => b < w1.heap.size) (vs.set kk (.slice Z 1024 zc)) i b := fun i h hne => by
        obtain ⟨b, _, h2⟩ := HYI.out i h
        obtain ⟨A', c', e, h3, h4, h5⟩ := (h2.keep K46 (fun _ _ _ => trivial)).keep HK67.out (fun b _ hd => by show b ≠ g; omega)
        exact ⟨b, A', c', by rw [List.getElem?_set_ne (Ne.symm hne)]; exact e, h3, h4, h5⟩
      clear eu fz u0 hown0 hs4 hbi5 hbi ev hgz hbkz
      generalize w6.setCell ⟨g, kk, none⟩ (.slice Z 1024 zc) = w7 at *
      obtain ⟨gz, zcp, hZ, hgz, hgzl⟩ := oz7.form (by decide)
      injection hZ with hZ _ hzcp
      subst hZ
      subst hzcp
      have hgg : g ≠ gz := by omega
      have hbkl : ab < bk.length := by omega
      have c7 : ∀ W, Keep (fun b => b ≠ gz) w7.drew W → W.cell? ⟨g, kk, none⟩ = some (.slice (some ⟨gz, 0, none⟩) 1024 zc) := fun W h => h.cell_some (a := w7.drew) (by
        show w7.cell? _ = _
        simpa [Addr.add_lit] using yo7.cells (g := g) rfl kk _ (by rw [List.getElem?_set_self (by omega)])) hgg
      have eb : w7.drew.cell? ⟨gz, ab, none⟩ = some (.int .u8 (bv bk[ab])) := by
        show w7.cell? _ = _
        simpa [Addr.add_lit] using oz7.cells (g := gz) rfl ab _ (by rw [List.getElem?_map, List.getElem?_eq_getElem hbkl]; rfl)
      have fb : w7.drew.frozen? ⟨gz, ab, none⟩ = false := oz7.frozenAt (g := gz) ab
      have oz8 := (oz7.stored ab (.int .u8 (bv (bk[ab] ^^^ tn)))).1
      rw [show Value.int .u8 (bv (bk[ab] ^^^ tn)) = byteVal (bk[ab] ^^^ tn) from rfl, ← List.map_set] at oz8
      have HOZ8 := Lib.hid oz8
      have HYO7 := Lib.hid yo7
      have HI7 := Lib.hid hi7
      have HN7 := Lib.hid hn7
      have hset : (bk.set ab (bk[ab] ^^^ tn)).length = 1024 := by rw [List.length_set]; exact hbl
      clear oz8 yo7 hi7 hn7 oz oz7 hzb
      go_wp2_with fail
      have habI : (ab : Int) < 1024 := by omega
      refine hold_beginS (Keep (fun b => b ≠ gz) w7.drew) (by kernel_rfl) ?_
      have n0 : Keep (fun b => b ≠ gz) w7.drew w7.drew := Keep.refl _ _
      refine hold_read0 (i := 0) (v := ?_) n0 rfl (by kernel_rfl) (by kernel_rfl) (by kernel_rfl) (fun _ _ _ h => h) rfl ?_ ?_
      rotate_left
      · intro w' hN
        go_simp
        try with_reducible rfl
      simp only [Act.put, List.getElem_toArray, List.getElem_cons_zero, List.setIfInBounds_toArray, List.set_cons_zero, List.set_cons_succ]
      refine hold_read0 (i := 1) (v := ?_) n0 rfl (by kernel_rfl) (by kernel_rfl) (by kernel_rfl) (fun _ _ _ h => h) rfl ?_ ?_
      rotate_left
      · intro w' hN
        go_simp
        try with_reducible rfl
      simp only [Act.put, List.getElem_toArray, List.getElem_cons_succ, List.getElem_cons_zero, List.setIfInBounds_toArray, List.set_cons_zero, List.set_cons_succ]
      refine hold_read0 (i := 2) (v := ?_) n0 rfl (by kernel_rfl) (by kernel_rfl) (by kernel_rfl) (fun _ _ _ h => h) rfl ?_ ?_
      rotate_left
      · intro w' hN
        go_simp
        try with_reducible rfl
      simp only [Act.put, List.getElem_toArray, List.getElem_cons_succ, List.getElem_cons_zero, List.setIfInBounds_toArray, List.set_cons_zero, List.set_cons_succ]
      refine hold_read0 (i := 3) (v := ?_) n0 rfl (by kernel_rfl) (by kernel_rfl) (by kernel_rfl) (fun _ _ _ h => h) rfl ?_ ?_
      rotate_left
      · intro w' hN
        go_simp
        try with_reducible rfl
      simp only [Act.put, List.getElem_toArray, List.getElem_cons_succ, List.getElem_cons_zero, List.setIfInBounds_toArray, List.set_cons_zero, List.set_cons_succ]
      refine hold_read0 (i := 4) (v := ?_) n0 rfl (by kernel_rfl) (by kernel_rfl) (by kernel_rfl) (fun _ _ _ h => h) rfl ?_ ?_
      rotate_left
      · intro w' hN
        go_simp
        try with_reducible rfl
      simp only [Act.put, List.getElem_toArray, List.getElem_cons_succ, List.getElem_cons_zero, List.setIfInBounds_toArray, List.set_cons_zero, List.set_cons_succ]
      refine hold_read0 (i := 8) (v := ?_) n0 rfl (by kernel_rfl) (by kernel_rfl) (by kernel_rfl) (fun _ _ _ h => h) rfl ?_ ?_
      rotate_left
      · intro w' hN
        go_simp
        try with_reducible rfl
      simp only [Act.put, List.getElem_toArray, List.getElem_cons_succ, List.getElem_cons_zero, List.setIfInBounds_toArray, List.set_cons_zero, List.set_cons_succ]
      refine hold_step0 (i := 5) (by kernel_rfl) rfl rfl (fun K hK => ?_)
      go_simp
      refine (HWA.out _).mono ?_
      rintro e w' ⟨rfl, rfl⟩
      go_wp2_with fail
      have n1 := Keep.new n0 (New.refl _)
      refine hK.out _ _ n1 ?_
      clear hK K
      try simp only [Act.put, List.getElem_toArray, List.getElem_cons_succ, List.getElem_cons_zero, List.setIfInBounds_toArray, List.set_cons_zero, List.set_cons_succ]
      replace n0 := n1
      clear n1
      refine hold_read0 (i := 6) (v := ?_) n0 rfl (by kernel_rfl) (by kernel_rfl) (by kernel_rfl) (fun _ _ _ h => h) rfl ?_ ?_
      rotate_left
      · intro w' hN
        go_simp
        try with_reducible rfl
      simp only [Act.put, List.getElem_toArray, List.getElem_cons_succ, List.getElem_cons_zero, List.setIfInBounds_toArray, List.set_cons_zero, List.set_cons_succ]
      refine hold_one (i := 7) (by kernel_rfl) rfl rfl (fun K hK => ?_)
      go_simp
      go_wp2_with fail
      refine hK.out (Keep (fun b => b ≠ gz) w7.drew) _ _ (fun _ h => h) n0 ?_
      clear hK K
      try simp only [Act.put, List.getElem_toArray, List.getElem_cons_succ, List.getElem_cons_zero, List.setIfInBounds_toArray, List.set_cons_zero, List.set_cons_succ]
      refine hold_read0 (i := 9) (v := ?_) n0 rfl (by kernel_rfl) (by kernel_rfl) (by kernel_rfl) (fun _ _ _ h => h) rfl ?_ ?_
      rotate_left
      · intro w' hN
        go_simp
        try with_reducible rfl
      simp only [Act.put, List.getElem_toArray, List.getElem_cons_succ, List.getElem_cons_zero, List.setIfInBounds_toArray, List.set_cons_zero, List.set_cons_succ]
      refine hold_read0 (i := 10) (v := ?_) n0 rfl (by kernel_rfl) (by kernel_rfl) (by kernel_rfl) (fun _ _ _ h => h) rfl ?_ ?_
      rotate_left
      · intro w' hN
        go_simp
        try with_reducible rfl
      simp only [Act.put, List.getElem_toArray, List.getElem_cons_succ, List.getElem_cons_zero, List.setIfInBounds_toArray, List.set_cons_zero, List.set_cons_succ]
      refine hold_one (i := 11) (by kernel_rfl) rfl rfl (fun K hK => ?_)
      go_simp
      go_wp2_with fail
      refine hK.out (Keep (fun b => b ≠ gz) w7.drew) _ _ (fun _ h => h) (n0.setCell (p := ⟨gz, ab, none⟩) (fun h => absurd rfl h) _) ?_
      clear hK K
      try simp only [Act.put, List.getElem_toArray, List.getElem_cons_succ, List.getElem_cons_zero, List.setIfInBounds_toArray, List.set_cons_zero, List.set_cons_succ]
      refine wpAnyH_done (by kernel_rfl) ?_ _
      have hKz := (Keep.refl (fun b => b ≠ gz) w7.drew).setCell (p := ⟨gz, ab, none⟩) (fun h => absurd rfl h) (.int .u8 (bv (bk[ab] ^^^ tn)))
      have yo8 := own_keep (Own.keepNew HYO7.out ((New.refl w7).drew)) hKz (fun j hj => by injection hj with hj; subst hj; exact hgg)
      have hny := (HN7.out.drew).setCell (p := ⟨gz, ab, none⟩) (fun _ => by show w1.heap.size ≤ gz; omega) (.int .u8 (bv (bk[ab] ^^^ tn)))
      obtain ⟨lsy, hiy⟩ := imgs_some (D := fun _ => True) ((Row.of_own yo8).imp fun _ _ _ => trivial) (fun i hi => by
        by_cases hne : i = kk
        · subst hne
          refine ⟨bk.set ab (bk[ab] ^^^ tn), some ⟨gz, 0, none⟩, zc, ?_, ?_, ?_, ?_⟩
          · rw [List.getElem?_set_self (by omega), hset]
          · rw [hset]; exact own_cap HOZ8.out
          · exact own_capMax HOZ8.out
          · rw [hset]; exact (Row.of_own HOZ8.out).imp fun _ _ _ => trivial
        · obtain ⟨b, A', c', e, h3, h4, h5⟩ := HI7.out i hi hne
          exact ⟨b, A', c', e, h3, h4, (Row.keep (w := w7.drew) h5 hKz (fun b _ hd => by show b ≠ gz; omega)).imp fun _ _ _ => trivial⟩)
      clear c7 eb fb yo8 hKz
      have HIY := Lib.hid (hiy)
      have HNY := Lib.hid (hny)
      clear hiy hny
      go_wp2_with fail
      refine (walklaw_any D _ A _ p _ k _ i0 lsy _ (HB.out.new (HK1.out.new HNY.out)) hm0 hm2 HIY.out (by omega)).mono ?_
      rintro e w21 ⟨rfl, k21⟩
      go_wp2_with fail
      refine (HC3.out w21 (HK1.out.new (HNY.out.new k21))).mono ?_
      rintro e w' ⟨rfl, rfl⟩
      go_wp2_with fail
      refine (HW3.out w21 (HNY.out.new k21)).mono ?_
      rintro e w22 ⟨rfl, k22⟩
      go_wp2_with fail
      refine (known18_any _).mono ?_
      rintro e w23 ⟨rfl, k23⟩
      go_wp2_with fail
      go_ret
      exact ⟨rfl, HK1.out.new (((HNY.out.new k21).new k22).new k23)⟩
      -- END turned
    · -- BEGIN left
      have q1 : IntKind.i64.wrap ((kk : Int) + 1) = (kk : Int) + 1 := IntWalk.i64_in _ (by omega)
      have hkc : (kk : Int) ≤ oc := by omega
      have hkc1 : ((kk : Int) + 1) ≤ k := by omega
      have HUR4 : Hid (∀ W, Keep (Lo w4.heap.size) w4.drew W → Row W (fun _ => True) O k 1 us) := Lib.hid fun W h => (Row.keep (w := w4.drew) (Row.drew (Row.new HUR.out HN4.out)) h (fun b hb _ => hb)).imp fun _ _ _ => trivial
      have HUI4 : Hid (∀ W, Keep (Lo w4.heap.size) w4.drew W → ∀ i (h : i < im.length), ImgAt W (fun b => b < w1.heap.size) us i im[i]) := Lib.hid fun W h i hi => ImgAt.keep (w := w4.drew) ((HUI.out i hi).keep (w' := w4.drew) (HN4.out.drew) (fun _ _ _ => trivial)) h (fun b hb hd => hb)
      have hkp : (0 : Int) ≤ (kk : Int) + 1 := by omega
      have kA : New w4.drew (w4.drew.alloc (.cells #[] 22)) := (New.refl _).alloc _
      have HYA : Hid (OwnImgs (w4.drew.alloc (.cells #[] 22)) w4.heap.size (fun b => b < w1.heap.size) (some ⟨w4.heap.size, 0, none⟩) 0 0 []) := Lib.hid ⟨[], World.ownsRow_made w4.drew #[] 0 (Nat.le_refl _) (by decide) rfl, rfl, fun k hk => absurd hk (by simp)⟩
      have hsA : w4.heap.size ≤ (w4.drew.alloc (.cells #[] 22)).heap.size := kA.size
      have HLW : Hid (Row (w4.drew.alloc (.cells #[] 22)) (fun _ => True) O kk 1 (us.take kk)) := Lib.hid (by
        have h := Row.cutTo (Row.new (HUR4.out _ (Keep.refl _ _)) kA) (hi := kk) (by omega)
        rwa [Nat.mul_one] at h)
      have HLI : Hid (∀ i (h : i < (im.take kk).length), ImgAt (w4.drew.alloc (.cells #[] 22)) (fun b => b < w1.heap.size ∧ some b ≠ blk (some (Addr.mk w4.heap.size 0 none))) (us.take kk) i (im.take kk)[i]) := Lib.hid fun i h => by
        have hi : i < kk ∧ i < im.length := by rw [List.length_take] at h; omega
        rw [List.getElem_take]
        refine imgAt_take (((HUI4.out _ (Keep.refl _ _) i hi.2).keep kA (fun _ _ _ => trivial)).imp fun b _ hd => ⟨hd, fun e => ?_⟩) hi.1
        have e1 : b = w4.heap.size := by injection e
        omega
      by_cases hoc1 : oc = kk + 1
      · have hk1' : k - (kk + 1) = 0 := by omega
        have hkp2 : (kk : Int) ≤ (kk : Int) + 1 := by omega
        clear hk1'
        subst hoc1
        go_wp2_with fail
        refine hold_beginS (Keep (Lo w4.heap.size) w4.drew) (by kernel_rfl) ?_
        have n0 : Keep (Lo w4.heap.size) w4.drew w4.drew := Keep.refl _ _
        refine hold_read0 (i := 1) (v := ?_) n0 rfl (by kernel_rfl) (by kernel_rfl) (by kernel_rfl) (fun _ _ _ h => h) rfl ?_ ?_
        rotate_left
        · intro w' hN
          go_simp
          try with_reducible rfl
        simp only [Act.put, List.getElem_toArray, List.getElem_cons_succ, List.getElem_cons_zero, List.setIfInBounds_toArray, List.set_cons_zero, List.set_cons_succ]
        refine hold_read0 (i := 2) (v := ?_) n0 rfl (by kernel_rfl) (by kernel_rfl) (by kernel_rfl) (fun _ _ _ h => h) rfl ?_ ?_
        rotate_left
        · intro w' hN
          go_simp
          try with_reducible rfl
        simp only [Act.put, List.getElem_toArray, List.getElem_cons_succ, List.getElem_cons_zero, List.setIfInBounds_toArray, List.set_cons_zero, List.set_cons_succ]
        refine hold_read0 (i := 3) (v := ?_) n0 rfl (by kernel_rfl) (by kernel_rfl) (by kernel_rfl) (fun _ _ _ h => h) rfl ?_ ?_
        rotate_left
        · intro w' hN
          go_simp
          try with_reducible rfl
        simp only [Act.put, List.getElem_toArray, List.getElem_cons_succ, List.getElem_cons_zero, List.setIfInBounds_toArray, List.set_cons_zero, List.set_cons_succ]
        refine hold_read0 (i := 5) (v := ?_) n0 rfl (by kernel_rfl) (by kernel_rfl) (by kernel_rfl) (fun _ _ _ h => h) rfl ?_ ?_
        rotate_left
        · intro w' hN
          go_simp
          try with_reducible rfl
        simp only [Act.put, List.getElem_toArray, List.getElem_cons_succ, List.getElem_cons_zero, List.setIfInBounds_toArray, List.set_cons_zero, List.set_cons_succ]
        refine hold_read0 (i := 6) (v := ?_) n0 rfl (by kernel_rfl) (by kernel_rfl) (by kernel_rfl) (fun _ _ _ h => h) rfl ?_ ?_
        rotate_left
        · intro w' hN
          go_simp
          try with_reducible rfl
        simp only [Act.put, List.getElem_toArray, List.getElem_cons_succ, List.getElem_cons_zero, List.setIfInBounds_toArray, List.set_cons_zero, List.set_cons_succ]
        refine hold_read0 (i := 7) (v := ?_) n0 rfl (by kernel_rfl) (by kernel_rfl) (by kernel_rfl) (fun _ _ _ h => h) rfl ?_ ?_
        rotate_left
        · intro w' hN
          go_simp
          try with_reducible rfl
        simp only [Act.put, List.getElem_toArray, List.getElem_cons_succ, List.getElem_cons_zero, List.setIfInBounds_toArray, List.set_cons_zero, List.set_cons_succ]
        refine hold_read0 (i := 8) (v := ?_) n0 rfl (by kernel_rfl) (by kernel_rfl) (by kernel_rfl) (fun _ _ _ h => h) rfl ?_ ?_
        rotate_left
        · intro w' hN
          go_simp
          try with_reducible rfl
        simp only [Act.put, List.getElem_toArray, List.getElem_cons_succ, List.getElem_cons_zero, List.setIfInBounds_toArray, List.set_cons_zero, List.set_cons_succ]
        refine hold_step0 (i := 0) (by kernel_rfl) rfl rfl (fun K hK => ?_)
        go_simp
        go_wp2_with fail
        have n1 := Keep.new n0 kA
        refine hK.out _ _ n1 ?_
        clear hK K
        try simp only [Act.put, List.getElem_toArray, List.getElem_cons_succ, List.getElem_cons_zero, List.setIfInBounds_toArray, List.set_cons_zero, List.set_cons_succ]
        replace n0 := n1
        clear n1
        refine hold_step0 (i := 4) (by kernel_rfl) rfl rfl (fun K hK => ?_)
        refine wp_imgsM _ _ _ rfl w4.heap.size (fun b => b < w1.heap.size) (some ⟨w4.heap.size, 0, none⟩) 0 0 [] rfl HYA.out _ O kk _ (us.take kk) (im.take kk) rfl HLW.out (by rw [List.length_take]; omega) HLI.out (by omega) hsA ?_
        intro Y2 yc2 w5 oy5 hg5 hbk5; have hs5 : w4.heap.size ≤ w5.heap.size := Nat.le_trans hsA hg5.size; have n5 := n0.grown hg5 (fun j hj hd => absurd hd (by have := (HYA.out.lt j hj).1; show ¬ j < w4.heap.size; omega)); have hhi : ∀ i (h : i < (im.drop (kk + 1)).length), ImgAt w5 (fun b => b < w1.heap.size ∧ some b ≠ blk Y2) (us.drop (kk + 1)) i (im.drop (kk + 1))[i] := fun i h => imgAt_drop (by rw [List.getElem_drop]; exact (HUI4.out w5 n5 (kk + 1 + i) (by rw [List.length_drop] at h; omega)).imp fun b _ hd => ⟨hd, fun e => by have := (oy5.lt b e.symm).1; omega⟩)
        have n1 := n5
        refine hK.out _ _ n1 ?_
        clear hK K
        try simp only [Act.put, List.getElem_toArray, List.getElem_cons_succ, List.getElem_cons_zero, List.setIfInBounds_toArray, List.set_cons_zero, List.set_cons_succ]
        replace n0 := n1
        clear n1
        refine hold_step0 (i := 9) (by kernel_rfl) rfl rfl (fun K hK => ?_)
        refine wp_imgsM _ _ _ rfl w4.heap.size (fun b => b < w1.heap.size) Y2 (0 + kk) yc2 _ rfl oy5 (fun _ => True) _ 0 _ [] [] rfl (Row.nil _ _ _ _) rfl (fun k hk => absurd hk (by simp)) (by omega) hs5 ?_
        intro Y3 yc3 w6 oy6 hg6 hbk6
        have n1 := n0.grown hg6 (fun j hj hd => absurd hd (by have := (oy5.lt j hj).1; show ¬ j < w4.heap.size; omega))
        refine hK.out _ _ n1 ?_
        clear hK K
        try simp only [Act.put, List.getElem_toArray, List.getElem_cons_succ, List.getElem_cons_zero, List.setIfInBounds_toArray, List.set_cons_zero, List.set_cons_succ]
        replace n0 := n1
        clear n1
        refine hold_read0 (i := 10) (v := ?_) n0 rfl (by kernel_rfl) (by kernel_rfl) (by kernel_rfl) (fun _ _ _ h => h) rfl ?_ ?_
        rotate_left
        · intro w' hN
          go_simp
          try with_reducible rfl
        simp only [Act.put, List.getElem_toArray, List.getElem_cons_succ, List.getElem_cons_zero, List.setIfInBounds_toArray, List.set_cons_zero, List.set_cons_succ]
        refine wpAnyH_done (by kernel_rfl) ?_ _
        simp only [Nat.zero_add, Nat.add_zero] at oy6 ⊢
        have hiy := oy6.imgs
        have hny : New w1 w6 := (Keep.trans2 (D := fun b => b < w1.heap.size) (Keep.of_new HN4.out).drew n0 (fun i _ hi => by show i < w4.heap.size; omega)).toNew (fun i hi => hi)
        have HIY := Lib.hid (hiy)
        have HNY := Lib.hid (hny)
        clear hiy hny
        go_wp2_with fail
        refine (walklaw_any D _ A _ p _ _ _ i0 _ _ (HB.out.new (HK1.out.new HNY.out)) hm0 hm2 HIY.out (by omega)).mono ?_
        rintro e w21 ⟨rfl, k21⟩
        go_wp2_with fail
        refine (HC3.out w21 (HK1.out.new (HNY.out.new k21))).mono ?_
        rintro e w' ⟨rfl, rfl⟩
        go_wp2_with fail
        refine (HW3.out w21 (HNY.out.new k21)).mono ?_
        rintro e w22 ⟨rfl, k22⟩
        go_wp2_with fail
        refine (known18_any _).mono ?_
        rintro e w23 ⟨rfl, k23⟩
        go_wp2_with fail
        go_ret
        exact ⟨rfl, HK1.out.new (((HNY.out.new k21).new k22).new k23)⟩
      · go_wp2_with fail
        refine hold_beginS (Keep (Lo w4.heap.size) w4.drew) (by kernel_rfl) ?_
        have n0 : Keep (Lo w4.heap.size) w4.drew w4.drew := Keep.refl _ _
        refine hold_read0 (i := 1) (v := ?_) n0 rfl (by kernel_rfl) (by kernel_rfl) (by kernel_rfl) (fun _ _ _ h => h) rfl ?_ ?_
        rotate_left
        · intro w' hN
          go_simp
          try with_reducible rfl
        simp only [Act.put, List.getElem_toArray, List.getElem_cons_succ, List.getElem_cons_zero, List.setIfInBounds_toArray, List.set_cons_zero, List.set_cons_succ]
        refine hold_read0 (i := 2) (v := ?_) n0 rfl (by kernel_rfl) (by kernel_rfl) (by kernel_rfl) (fun _ _ _ h => h) rfl ?_ ?_
        rotate_left
        · intro w' hN
          go_simp
          try with_reducible rfl
        simp only [Act.put, List.getElem_toArray, List.getElem_cons_succ, List.getElem_cons_zero, List.setIfInBounds_toArray, List.set_cons_zero, List.set_cons_succ]
        refine hold_read0 (i := 3) (v := ?_) n0 rfl (by kernel_rfl) (by kernel_rfl) (by kernel_rfl) (fun _ _ _ h => h) rfl ?_ ?_
        rotate_left
        · intro w' hN
          go_simp
          try with_reducible rfl
        simp only [Act.put, List.getElem_toArray, List.getElem_cons_succ, List.getElem_cons_zero, List.setIfInBounds_toArray, List.set_cons_zero, List.set_cons_succ]
        refine hold_read0 (i := 5) (v := ?_) n0 rfl (by kernel_rfl) (by kernel_rfl) (by kernel_rfl) (fun _ _ _ h => h) rfl ?_ ?_
        rotate_left
        · intro w' hN
          go_simp
          try with_reducible rfl
        simp only [Act.put, List.getElem_toArray, List.getElem_cons_succ, List.getElem_cons_zero, List.setIfInBounds_toArray, List.set_cons_zero, List.set_cons_succ]
        refine hold_read0 (i := 6) (v := ?_) n0 rfl (by kernel_rfl) (by kernel_rfl) (by kernel_rfl) (fun _ _ _ h => h) rfl ?_ ?_
        rotate_left
        · intro w' hN
          go_simp
          try with_reducible rfl
        simp only [Act.put, List.getElem_toArray, List.getElem_cons_succ, List.getElem_cons_zero, List.setIfInBounds_toArray, List.set_cons_zero, List.set_cons_succ]
        refine hold_read0 (i := 7) (v := ?_) n0 rfl (by kernel_rfl) (by kernel_rfl) (by kernel_rfl) (fun _ _ _ h => h) rfl ?_ ?_
        rotate_left
        · intro w' hN
          go_simp
          try with_reducible rfl
        simp only [Act.put, List.getElem_toArray, List.getElem_cons_succ, List.getElem_cons_zero, List.setIfInBounds_toArray, List.set_cons_zero, List.set_cons_succ]
        refine hold_read0 (i := 8) (v := ?_) n0 rfl (by kernel_rfl) (by kernel_rfl) (by kernel_rfl) (fun _ _ _ h => h) rfl ?_ ?_
        rotate_left
        · intro w' hN
          go_simp
          try with_reducible rfl
        simp only [Act.put, List.getElem_toArray, List.getElem_cons_succ, List.getElem_cons_zero, List.setIfInBounds_toArray, List.set_cons_zero, List.set_cons_succ]
        refine hold_step0 (i := 0) (by kernel_rfl) rfl rfl (fun K hK => ?_)
        go_simp
        go_wp2_with fail
        have n1 := Keep.new n0 kA
        refine hK.out _ _ n1 ?_
        clear hK K
        try simp only [Act.put, List.getElem_toArray, List.getElem_cons_succ, List.getElem_cons_zero, List.setIfInBounds_toArray, List.set_cons_zero, List.set_cons_succ]
        replace n0 := n1
        clear n1
        refine hold_step0 (i := 4) (by kernel_rfl) rfl rfl (fun K hK => ?_)
        refine wp_imgsM _ _ _ rfl w4.heap.size (fun b => b < w1.heap.size) (some ⟨w4.heap.size, 0, none⟩) 0 0 [] rfl HYA.out _ O kk _ (us.take kk) (im.take kk) rfl HLW.out (by rw [List.length_take]; omega) HLI.out (by omega) hsA ?_
        intro Y2 yc2 w5 oy5 hg5 hbk5; have hs5 : w4.heap.size ≤ w5.heap.size := Nat.le_trans hsA hg5.size; have n5 := n0.grown hg5 (fun j hj hd => absurd hd (by have := (HYA.out.lt j hj).1; show ¬ j < w4.heap.size; omega)); have hhi : ∀ i (h : i < (im.drop (kk + 1)).length), ImgAt w5 (fun b => b < w1.heap.size ∧ some b ≠ blk Y2) (us.drop (kk + 1)) i (im.drop (kk + 1))[i] := fun i h => imgAt_drop (by rw [List.getElem_drop]; exact (HUI4.out w5 n5 (kk + 1 + i) (by rw [List.length_drop] at h; omega)).imp fun b _ hd => ⟨hd, fun e => by have := (oy5.lt b e.symm).1; omega⟩)
        have n1 := n5
        refine hK.out _ _ n1 ?_
        clear hK K
        try simp only [Act.put, List.getElem_toArray, List.getElem_cons_succ, List.getElem_cons_zero, List.setIfInBounds_toArray, List.set_cons_zero, List.set_cons_succ]
        replace n0 := n1
        clear n1
        refine hold_step0 (i := 9) (by kernel_rfl) rfl rfl (fun K hK => ?_)
        refine wp_imgsM _ _ _ rfl w4.heap.size (fun b => b < w1.heap.size) Y2 (0 + kk) yc2 _ rfl oy5 _ _ (k - (kk + 1)) _ (us.drop (kk + 1)) (im.drop (kk + 1)) rfl (high_row (HUR4.out w5 n0) hkk (.inr rfl)) (by rw [List.length_drop, HIL.out]) hhi (by omega) hs5 ?_
        intro Y3 yc3 w6 oy6 hg6 hbk6
        have n1 := n0.grown hg6 (fun j hj hd => absurd hd (by have := (oy5.lt j hj).1; show ¬ j < w4.heap.size; omega))
        refine hK.out _ _ n1 ?_
        clear hK K
        try simp only [Act.put, List.getElem_toArray, List.getElem_cons_succ, List.getElem_cons_zero, List.setIfInBounds_toArray, List.set_cons_zero, List.set_cons_succ]
        replace n0 := n1
        clear n1
        refine hold_read0 (i := 10) (v := ?_) n0 rfl (by kernel_rfl) (by kernel_rfl) (by kernel_rfl) (fun _ _ _ h => h) rfl ?_ ?_
        rotate_left
        · intro w' hN
          go_simp
          try with_reducible rfl
        simp only [Act.put, List.getElem_toArray, List.getElem_cons_succ, List.getElem_cons_zero, List.setIfInBounds_toArray, List.set_cons_zero, List.set_cons_succ]
        refine wpAnyH_done (by kernel_rfl) ?_ _
        rw [Nat.zero_add] at oy6 ⊢
        have hiy := oy6.imgs
        have hny : New w1 w6 := (Keep.trans2 (D := fun b => b < w1.heap.size) (Keep.of_new HN4.out).drew n0 (fun i _ hi => by show i < w4.heap.size; omega)).toNew (fun i hi => hi)
        have HIY := Lib.hid (hiy)
        have HNY := Lib.hid (hny)
        clear hiy hny
        go_wp2_with fail
        refine (walklaw_any D _ A _ p _ _ _ i0 _ _ (HB.out.new (HK1.out.new HNY.out)) hm0 hm2 HIY.out (by omega)).mono ?_
        rintro e w21 ⟨rfl, k21⟩
        go_wp2_with fail
        refine (HC3.out w21 (HK1.out.new (HNY.out.new k21))).mono ?_
        rintro e w' ⟨rfl, rfl⟩
        go_wp2_with fail
        refine (HW3.out w21 (HNY.out.new k21)).mono ?_
        rintro e w22 ⟨rfl, k22⟩
        go_wp2_with fail
        refine (known18_any _).mono ?_
        rintro e w23 ⟨rfl, k23⟩
        go_wp2_with fail
        go_ret
        exact ⟨rfl, HK1.out.new (((HNY.out.new k21).new k22).new k23)⟩
      -- END left
    · -- BEGIN swapped
      have hk2 : IntKind.i64.wrap ((k : Int) - 1) = (k : Int) - 1 := hk1
      obtain ⟨bk, hbl, I, ci, ev, hci, hci9, hbi⟩ := HYI.out kk hkk
      obtain ⟨bj, hbl', J, cj, ew, hcj, hcj9, hbj⟩ := HYI.out jj hjj
      rw [hbl] at ev hci hbi
      rw [hbl'] at ew hcj hbj
      obtain ⟨_, f1, yo5⟩ := img_store HYO.out hkk (.slice J 1024 cj)
      obtain ⟨_, f2, yo6⟩ := img_store yo5 hjj (.slice I 1024 ci)
      have u0 : w4.cell? ⟨g, kk, none⟩ = some (.slice I 1024 ci) := by
        simpa [Addr.add_lit] using HYO.out.cells (g := g) rfl kk _ ev
      have u1 : w4.cell? ⟨g, jj, none⟩ = some (.slice J 1024 cj) := by
        simpa [Addr.add_lit] using HYO.out.cells (g := g) rfl jj _ ew
      have u2 : (w4.setCell ⟨g, kk, none⟩ (.slice J 1024 cj)).cell? ⟨g, jj, none⟩ = some (.slice J 1024 cj) := by
        have h := yo5.cells (g := g) rfl jj (.slice J 1024 cj) (by
          by_cases h : kk = jj
          · subst h; rw [List.getElem?_set_self (by omega)]
          · rw [List.getElem?_set_ne h]; exact ew)
        simpa [Addr.add_lit] using h
      have HYO6 := Lib.hid yo6
      have HBI := Lib.hid hbi
      have HBJ := Lib.hid hbj
      clear yo5 yo6 hbi hbj
      go_wp2_with fail
      refine (HWJ.out w4).mono ?_
      rintro e w' ⟨rfl, rfl⟩
      have hka : (kk : Int) < (k : Int) := by omega
      have hja : (jj : Int) < (k : Int) := by omega
      have HKS := Lib.hid (((Keep.refl (fun b => b ≠ g) w4).setCell (p := ⟨g, kk, none⟩) (fun h => absurd rfl h) (.slice J 1024 cj)).setCell (p := ⟨g, jj, none⟩) (fun h => absurd rfl h) (.slice I 1024 ci))
      have HNY0 := Lib.hid (((HN4.out).setCell (p := ⟨g, kk, none⟩) (fun _ => hg1) (.slice J 1024 cj)).setCell (p := ⟨g, jj, none⟩) (fun _ => hg1) (.slice I 1024 ci))
      obtain ⟨lsy, hiy0⟩ := imgs_some (D := fun _ => True) ((Row.of_own HYO6.out).imp fun _ _ _ => trivial) (fun i hi => by
        have keep : ∀ {b : List UInt8} {A' : Option Addr} {m : Nat}, Bs w4 (fun b => b < w1.heap.size) A' m b → Bs ((w4.setCell ⟨g, kk, none⟩ (.slice J 1024 cj)).setCell ⟨g, jj, none⟩ (.slice I 1024 ci)) (fun _ => True) A' m b := fun h => (Row.keep (w := w4) h HKS.out (fun b _ hd => by show b ≠ g; omega)).imp fun _ _ _ => trivial
        by_cases h1 : i = jj
        · subst h1
          exact ⟨bk, I, ci, by rw [List.getElem?_set_self (by rw [List.length_set]; omega), hbl], by rw [hbl]; exact hci, hci9, by rw [hbl]; exact keep HBI.out⟩
        · by_cases h2 : i = kk
          · subst h2
            exact ⟨bj, J, cj, by rw [List.getElem?_set_ne (Ne.symm h1), List.getElem?_set_self (by omega), hbl'], by rw [hbl']; exact hcj, hcj9, by rw [hbl']; exact keep HBJ.out⟩
          · obtain ⟨b, _, A', c', e, h3, h4, h5⟩ := HYI.out i hi
            exact ⟨b, A', c', by rw [List.getElem?_set_ne (Ne.symm h1), List.getElem?_set_ne (Ne.symm h2)]; exact e, h3, h4, keep h5⟩)
      have HIY0 := Lib.hid hiy0
      clear hiy0
      go_wp2_with fail
      refine hold_beginS (fun _ => True) (by kernel_rfl) ?_
      refine hold_read0 (i := 0) (v := ?_) True.intro rfl (by kernel_rfl) (by kernel_rfl) (by kernel_rfl) (fun _ _ _ h => h) rfl ?_ ?_
      rotate_left
      · intro w' hN
        go_simp
        try with_reducible rfl
      simp only [Act.put, List.getElem_toArray, List.getElem_cons_zero, List.setIfInBounds_toArray, List.set_cons_zero, List.set_cons_succ]
      refine hold_read0 (i := 1) (v := ?_) True.intro rfl (by kernel_rfl) (by kernel_rfl) (by kernel_rfl) (fun _ _ _ h => h) rfl ?_ ?_
      rotate_left
      · intro w' hN
        go_simp
        try with_reducible rfl
      simp only [Act.put, List.getElem_toArray, List.getElem_cons_succ, List.getElem_cons_zero, List.setIfInBounds_toArray, List.set_cons_zero, List.set_cons_succ]
      refine hold_read0 (i := 2) (v := ?_) True.intro rfl (by kernel_rfl) (by kernel_rfl) (by kernel_rfl) (fun _ _ _ h => h) rfl ?_ ?_
      rotate_left
      · intro w' hN
        go_simp
        try with_reducible rfl
      simp only [Act.put, List.getElem_toArray, List.getElem_cons_succ, List.getElem_cons_zero, List.setIfInBounds_toArray, List.set_cons_zero, List.set_cons_succ]
      refine hold_read0 (i := 3) (v := ?_) True.intro rfl (by kernel_rfl) (by kernel_rfl) (by kernel_rfl) (fun _ _ _ h => h) rfl ?_ ?_
      rotate_left
      · intro w' hN
        go_simp
        try with_reducible rfl
      simp only [Act.put, List.getElem_toArray, List.getElem_cons_succ, List.getElem_cons_zero, List.setIfInBounds_toArray, List.set_cons_zero, List.set_cons_succ]
      refine hold_read0 (i := 4) (v := ?_) True.intro rfl (by kernel_rfl) (by kernel_rfl) (by kernel_rfl) (fun _ _ _ h => h) rfl ?_ ?_
      rotate_left
      · intro w' hN
        go_simp
        try with_reducible rfl
      simp only [Act.put, List.getElem_toArray, List.getElem_cons_succ, List.getElem_cons_zero, List.setIfInBounds_toArray, List.set_cons_zero, List.set_cons_succ]
      refine hold_read0 (i := 5) (v := ?_) True.intro rfl (by kernel_rfl) (by kernel_rfl) (by kernel_rfl) (fun _ _ _ h => h) rfl ?_ ?_
      rotate_left
      · intro w' hN
        go_simp
        try with_reducible rfl
      simp only [Act.put, List.getElem_toArray, List.getElem_cons_succ, List.getElem_cons_zero, List.setIfInBounds_toArray, List.set_cons_zero, List.set_cons_succ]
      refine hold_read0 (i := 6) (v := ?_) True.intro rfl (by kernel_rfl) (by kernel_rfl) (by kernel_rfl) (fun _ _ _ h => h) rfl ?_ ?_
      rotate_left
      · intro w' hN
        go_simp
        try with_reducible rfl
      simp only [Act.put, List.getElem_toArray, List.getElem_cons_succ, List.getElem_cons_zero, List.setIfInBounds_toArray, List.set_cons_zero, List.set_cons_succ]
      refine hold_read0 (i := 8) (v := ?_) True.intro rfl (by kernel_rfl) (by kernel_rfl) (by kernel_rfl) (fun _ _ _ h => h) rfl ?_ ?_
      rotate_left
      · intro w' hN
        go_simp
        try with_reducible rfl
      simp only [Act.put, List.getElem_toArray, List.getElem_cons_succ, List.getElem_cons_zero, List.setIfInBounds_toArray, List.set_cons_zero, List.set_cons_succ]
      refine hold_read0 (i := 9) (v := ?_) True.intro rfl (by kernel_rfl) (by kernel_rfl) (by kernel_rfl) (fun _ _ _ h => h) rfl ?_ ?_
      rotate_left
      · intro w' hN
        go_simp
        try with_reducible rfl
      simp only [Act.put, List.getElem_toArray, List.getElem_cons_succ, List.getElem_cons_zero, List.setIfInBounds_toArray, List.set_cons_zero, List.set_cons_succ]
      refine hold_read0 (i := 10) (v := ?_) True.intro rfl (by kernel_rfl) (by kernel_rfl) (by kernel_rfl) (fun _ _ _ h => h) rfl ?_ ?_
      rotate_left
      · intro w' hN
        go_simp
        try with_reducible rfl
      simp only [Act.put, List.getElem_toArray, List.getElem_cons_succ, List.getElem_cons_zero, List.setIfInBounds_toArray, List.set_cons_zero, List.set_cons_succ]
      refine hold_fork (i := 7) (j := 11) (by kernel_rfl) rfl rfl rfl rfl (fun K hK => ?_) (fun K hK => ?_)
      · skip
        go_simp
        go_wp2_with fail
        refine hK.out (fun _ => True) _ _ (fun _ _ => True.intro) True.intro ?_
        clear hK K
        try simp only [Act.put, List.getElem_toArray, List.getElem_cons_succ, List.getElem_cons_zero, List.setIfInBounds_toArray, List.set_cons_zero, List.set_cons_succ]
        refine hold_one (i := 11) (by kernel_rfl) rfl rfl (fun K hK => ?_)
        go_simp
        go_wp2_with fail
        refine hK.out (fun _ => True) _ _ (fun _ _ => True.intro) True.intro ?_
        clear hK K
        try simp only [Act.put, List.getElem_toArray, List.getElem_cons_succ, List.getElem_cons_zero, List.setIfInBounds_toArray, List.set_cons_zero, List.set_cons_succ]
        refine hold_read0 (i := 12) (v := ?_) True.intro rfl (by kernel_rfl) (by kernel_rfl) (by kernel_rfl) (fun _ _ _ h => h) rfl ?_ ?_
        rotate_left
        · intro w' hN
          go_simp
          try with_reducible rfl
        simp only [Act.put, List.getElem_toArray, List.getElem_cons_succ, List.getElem_cons_zero, List.setIfInBounds_toArray, List.set_cons_zero, List.set_cons_succ]
        refine hold_one (i := 13) (by kernel_rfl) rfl rfl (fun K hK => ?_)
        go_simp
        go_wp2_with fail
        refine hK.out (fun _ => True) _ _ (fun _ _ => True.intro) True.intro ?_
        clear hK K
        try simp only [Act.put, List.getElem_toArray, List.getElem_cons_succ, List.getElem_cons_zero, List.setIfInBounds_toArray, List.set_cons_zero, List.set_cons_succ]
        refine hold_read0 (i := 14) (v := ?_) True.intro rfl (by kernel_rfl) (by kernel_rfl) (by kernel_rfl) (fun _ _ _ h => h) rfl ?_ ?_
        rotate_left
        · intro w' hN
          go_simp
          try with_reducible rfl
        simp only [Act.put, List.getElem_toArray, List.getElem_cons_succ, List.getElem_cons_zero, List.setIfInBounds_toArray, List.set_cons_zero, List.set_cons_succ]
        refine hold_one (i := 15) (by kernel_rfl) rfl rfl (fun K hK => ?_)
        go_simp
        go_wp2_with fail
        refine hK.out (fun _ => True) _ _ (fun _ _ => True.intro) True.intro ?_
        clear hK K
        try simp only [Act.put, List.getElem_toArray, List.getElem_cons_succ, List.getElem_cons_zero, List.setIfInBounds_toArray, List.set_cons_zero, List.set_cons_succ]
        refine wpAnyH_done (by kernel_rfl) ?_ _
        have hiy := Imgs.new HIY0.out ((New.refl _).drew)
        have hny := HNY0.out.drew
        have HIY := Lib.hid (hiy)
        have HNY := Lib.hid (hny)
        clear hiy hny u0 u1 u2 f1 f2
        go_wp2_with fail
        refine (walklaw_any D _ A _ p _ k _ i0 lsy _ (HB.out.new (HK1.out.new HNY.out)) hm0 hm2 HIY.out (by omega)).mono ?_
        rintro e w21 ⟨rfl, k21⟩
        go_wp2_with fail
        refine (HC3.out w21 (HK1.out.new (HNY.out.new k21))).mono ?_
        rintro e w' ⟨rfl, rfl⟩
        go_wp2_with fail
        refine (HW3.out w21 (HNY.out.new k21)).mono ?_
        rintro e w22 ⟨rfl, k22⟩
        go_wp2_with fail
        refine (known18_any _).mono ?_
        rintro e w23 ⟨rfl, k23⟩
        go_wp2_with fail
        go_ret
        exact ⟨rfl, HK1.out.new (((HNY.out.new k21).new k22).new k23)⟩
      · skip
        go_simp
        go_wp2_with fail
        refine hK.out (fun _ => True) _ _ (fun _ _ => True.intro) True.intro ?_
        clear hK K
        try simp only [Act.put, List.getElem_toArray, List.getElem_cons_succ, List.getElem_cons_zero, List.setIfInBounds_toArray, List.set_cons_zero, List.set_cons_succ]
        refine hold_one (i := 7) (by kernel_rfl) rfl rfl (fun K hK => ?_)
        go_simp
        go_wp2_with fail
        refine hK.out (fun _ => True) _ _ (fun _ _ => True.intro) True.intro ?_
        clear hK K
        try simp only [Act.put, List.getElem_toArray, List.getElem_cons_succ, List.getElem_cons_zero, List.setIfInBounds_toArray, List.set_cons_zero, List.set_cons_succ]
        refine hold_read0 (i := 12) (v := ?_) True.intro rfl (by kernel_rfl) (by kernel_rfl) (by kernel_rfl) (fun _ _ _ h => h) rfl ?_ ?_
        rotate_left
        · intro w' hN
          go_simp
          try with_reducible rfl
        simp only [Act.put, List.getElem_toArray, List.getElem_cons_succ, List.getElem_cons_zero, List.setIfInBounds_toArray, List.set_cons_zero, List.set_cons_succ]
        refine hold_one (i := 13) (by kernel_rfl) rfl rfl (fun K hK => ?_)
        go_simp
        go_wp2_with fail
        refine hK.out (fun _ => True) _ _ (fun _ _ => True.intro) True.intro ?_
        clear hK K
        try simp only [Act.put, List.getElem_toArray, List.getElem_cons_succ, List.getElem_cons_zero, List.setIfInBounds_toArray, List.set_cons_zero, List.set_cons_succ]
        refine hold_read0 (i := 14) (v := ?_) True.intro rfl (by kernel_rfl) (by kernel_rfl) (by kernel_rfl) (fun _ _ _ h => h) rfl ?_ ?_
        rotate_left
        · intro w' hN
          go_simp
          try with_reducible rfl
        simp only [Act.put, List.getElem_toArray, List.getElem_cons_succ, List.getElem_cons_zero, List.setIfInBounds_toArray, List.set_cons_zero, List.set_cons_succ]
        refine hold_one (i := 15) (by kernel_rfl) rfl rfl (fun K hK => ?_)
        go_simp
        go_wp2_with fail
        refine hK.out (fun _ => True) _ _ (fun _ _ => True.intro) True.intro ?_
        clear hK K
        try simp only [Act.put, List.getElem_toArray, List.getElem_cons_succ, List.getElem_cons_zero, List.setIfInBounds_toArray, List.set_cons_zero, List.set_cons_succ]
        refine wpAnyH_done (by kernel_rfl) ?_ _
        have hiy := Imgs.new HIY0.out ((New.refl _).drew)
        have hny := HNY0.out.drew
        have HIY := Lib.hid (hiy)
        have HNY := Lib.hid (hny)
        clear hiy hny u0 u1 u2 f1 f2
        go_wp2_with fail
        refine (walklaw_any D _ A _ p _ k _ i0 lsy _ (HB.out.new (HK1.out.new HNY.out)) hm0 hm2 HIY.out (by omega)).mono ?_
        rintro e w21 ⟨rfl, k21⟩
        go_wp2_with fail
        refine (HC3.out w21 (HK1.out.new (HNY.out.new k21))).mono ?_
        rintro e w' ⟨rfl, rfl⟩
        go_wp2_with fail
        refine (HW3.out w21 (HNY.out.new k21)).mono ?_
        rintro e w22 ⟨rfl, k22⟩
        go_wp2_with fail
        refine (known18_any _).mono ?_
        rintro e w23 ⟨rfl, k23⟩
        go_wp2_with fail
        go_ret
        exact ⟨rfl, HK1.out.new (((HNY.out.new k21).new k22).new k23)⟩
      -- END swapped
end Go.Proofs.YtpbbfbgmpidgnaaGreatDoor
/-
  PROVED HERE: SealWalksCardSaid: for every input the law SealWalks returns true, and each argument reads afterwards as before; the tables that the row lists are tied to the program's text. No condition.
-/
namespace Go.Proofs.YtpbbfbgmpidgnaaGreatDoor.sealWalks
open Go.ChangeShapes Go.WideShapes Go.ChangeAt Go.RowKit Go.Joins Go.Deep

set_option maxRecDepth 100000 in
theorem contract (H : Type) (enc : TypeId × Value → H) (W : World) (base : Nat) (args : Array Value) (ds gs : List (DataW H)) (before : List MemPlace)
    (hval : ∀ (j : Nat) t v, Tryz.f4.params[j]? = some t → args[j]? = some v → Value.okWide Tryz.prog W .any base t v)
    (hW : DataW.Whole enc Tryz.prog Tryz.f4.params.toList Rows.sealWalksSpec.vars false W args.toList ds gs before) :
    Calls Tryz.prog 4 args W fun e W' => ∃ v, e = .returned v ∧ Rows.sealWalksSpec.post enc Tryz.prog Tryz.f4 false true false false W args v W' := by
  have hW' := hW
  obtain ⟨p, q, hA0, hV, rfl, hfz, hnd⟩ := hW
  have hA : DataW.TrodAll enc Tryz.prog W 0 (fun _ => true) true Tryz.f4.params.toList args.toList ds p := hA0
  rw [Tryz.params4] at hA hval
  obtain ⟨v0, vs0, d0, ds0, p0, q0, hargs, rfl, rfl, h0, r0⟩ := trodAll_cons hA
  obtain ⟨v1, vs1, d1, ds1, p1, q1, rfl, rfl, rfl, h1, r1⟩ := trodAll_cons r0
  obtain ⟨v2, vs2, d2, ds2, p2, q2, rfl, rfl, rfl, h2, r2⟩ := trodAll_cons r1
  obtain ⟨v3, vs3, d3, ds3, p3, q3, rfl, rfl, rfl, h3, r3⟩ := trodAll_cons r2
  obtain ⟨v4, vs4, d4, ds4, p4, q4, rfl, rfl, rfl, h4, r4⟩ := trodAll_cons r3
  obtain ⟨v5, vs5, d5, ds5, p5, q5, rfl, rfl, rfl, h5, r5⟩ := trodAll_cons r4
  obtain ⟨rfl, rfl, rfl⟩ := trodAll_nil r5
  obtain rfl : args = #[v0, v1, v2, v3, v4, v5] := by cases args; simp_all
  obtain ⟨rfl, rfl⟩ := trodVars_none hV
  obtain ⟨a0, l0, c0, rfl⟩ := okWide_slice Tryz.underlying22 (hval 0 _ v0 rfl rfl)
  obtain ⟨fu0, hf0⟩ := h0
  obtain ⟨B0, n0, k0, x0, hv0, hn0, hm0, hB0⟩ := read_bytes hf0
  obtain ⟨a1, l1, c1, rfl⟩ := okWide_slice Tryz.underlying27 (hval 1 _ v1 rfl rfl)
  obtain ⟨fu1, hf1⟩ := h1
  obtain ⟨B1, n1, k1, x1, hv1, hn1, hm1, hB1⟩ := read_raws8 hf1
  obtain ⟨z2, rfl, hz2⟩ := open_int Tryz.underlying3 (hval 2 _ v2 rfl rfl) h2
  have b2 : -9223372036854775808 ≤ z2 ∧ z2 ≤ 9223372036854775807 := by simpa [Lit.wf, IntKind.min, IntKind.max, IntKind.signed, IntKind.bits] using hz2.2.2
  obtain ⟨z3, rfl, hz3⟩ := open_int Tryz.underlying3 (hval 3 _ v3 rfl rfl) h3
  have b3 : -9223372036854775808 ≤ z3 ∧ z3 ≤ 9223372036854775807 := by simpa [Lit.wf, IntKind.min, IntKind.max, IntKind.signed, IntKind.bits] using hz3.2.2
  obtain ⟨z4, rfl, hz4⟩ := open_int Tryz.underlying5 (hval 4 _ v4 rfl rfl) h4
  have b4 : 0 ≤ z4 ∧ z4 ≤ 255 := by simpa [Lit.wf, IntKind.min, IntKind.max, IntKind.signed, IntKind.bits] using hz4.2.2
  have hb4 : z4 = bv (UInt8.ofNat z4.toNat) := by
    unfold bv
    rw [UInt8.toNat_ofNat_of_lt' (by show _ < 256; omega)]
    omega
  generalize UInt8.ofNat z4.toNat = t4 at hb4
  subst hb4
  obtain ⟨z5, rfl, hz5⟩ := open_int Tryz.underlying3 (hval 5 _ v5 rfl rfl) h5
  have b5 : -9223372036854775808 ≤ z5 ∧ z5 ≤ 9223372036854775807 := by simpa [Lit.wf, IntKind.min, IntKind.max, IntKind.signed, IntKind.bits] using hz5.2.2
  rw [hv0] at hW' ⊢
  rw [hv1] at hW' ⊢
  unfold maxLen at hm0 hm1
  refine (walks_any _ _ B0 B1 n0 k0 n1 k1 x0 x1 z2 z3 t4 z5 W hB0 hB1 hn0 (by omega) hn1 (by omega) b2.1 b2.2 b3.1 b3.2 b5.1 b5.2).mono fun e W' ⟨he, hN⟩ => ?_
  subst he
  exact ⟨_, rfl, law_post laid_out (by kernel_rfl) rfl (by kernel_rfl) Tryz.underlying4 hW' rfl rfl rfl hN⟩

def args0 : Array Value := #[.slice none 0 0, .slice none 0 0, .int .i64 0, .int .i64 0, .int .u8 0, .int .i64 0]
theorem laid_met (os : Os) : laidMet Tryz.prog Rows.sealWalksRow.laid ((laidWorld os).forCall (fun _ _ => 0) ⟨#[], args0, []⟩).memory :=
  laidMet_of_run' 8 (by kernel_rfl) (by kernel_rfl)
theorem reads (os : Os) {H : Type} (enc : TypeId × Value → H) : ∃ places, DataW.whole enc Tryz.prog ((laidWorld os).forCall (fun _ _ => 0) ⟨#[], args0, []⟩).memory Tryz.f4.params.toList Rows.sealWalksSpec.vars false args0.toList 8 = some ([.nil, .nil, .lit (.int .i64 0), .lit (.int .i64 0), .lit (.int .u8 0), .lit (.int .i64 0)], [], places) :=
  ⟨[], by kernel_rfl⟩
set_option maxRecDepth 100000 in
theorem lifted (os : Os) (started : os.Started) (H : Type) (enc : TypeId × Value → H) (F : Stop.Interp) :
    ReturnsInHanded {} Tryz.checked os 4 .any ((OpenSpec.ofChange Rows.sealWalksSpec).preRow enc Tryz.prog Tryz.f4 Rows.sealWalksRow.domain false Rows.sealWalksRow.laid) (((OpenSpec.ofChange Rows.sealWalksSpec).at F).post enc Tryz.prog Tryz.f4 false true false false) := by
  obtain ⟨places, hx⟩ := reads os enc
  refine returnsInHanded_of_row (C := Tryz.checked) (s := OpenSpec.ofChange Rows.sealWalksSpec) own_knob started (by kernel_rfl) Tryz.func4
    (witness_row_at (enc := enc) (C := Tryz.checked) false (laidWorld os) args0 rfl (by kernel_rfl) (by kernel_rfl) (by kernel_rfl)
      (OpenSpec.preRow_of_cond 8 hx (by kernel_rfl) (fun k hk => by cases hk) (by kernel_rfl) (laid_met os))) ?_
  intro W base args ds gs before hval hW _ _ _ _ _ _
  exact contract H enc W base args ds gs before hval hW
theorem said : Rows.SealWalksSaid :=
  OpenClaim.holds_of_cond 4 Tryz.f4 rfl rfl rfl rfl rfl rfl rfl ⟨rfl, rfl, rfl, rfl, rfl⟩ rfl rfl rfl rfl rfl (by kernel_rfl) Tryz.func4 (by kernel_rfl)
    (of_decide_eq_true (by kernel_rfl)) (by unfold Func.isWrapper; first | (rw [if_pos (by decide +kernel)]; kernel_rfl) | (rw [if_neg (by decide +kernel)]; exact ⟨rfl, rfl⟩))
    (fun os started H enc _ F => by rw [OpenClaim.pre_eq_preRow]; exact lifted os started H enc F)
theorem plain (f : FuncId) (fn : Func) (hf : Tryz.pinned.checked.prog.funcNamed "permafrost/permafrostlaw18.SealWalks" = some f) (hfn : Tryz.pinned.checked.prog.funcs[f]? = some fn) :
    false = Tryz.pinned.checked.prog.looks [] ∧ ∀ (j : Nat) t, fn.params[j]? = some t → Tryz.pinned.checked.prog.wantsStandIn t = false := by
  obtain rfl : f = 4 := Option.some.inj ((show Tryz.prog.funcNamed "permafrost/permafrostlaw18.SealWalks" = some 4 by kernel_rfl).symm.trans hf) |>.symm
  obtain rfl : fn = Tryz.f4 := (Option.some.inj (Tryz.func4.symm.trans hfn)).symm
  refine ⟨by kernel_rfl, fun j t ht => ?_⟩
  rw [Tryz.params4] at ht
  have hall : (#[22, 27, 3, 3, 5, 3] : Array TypeId).toList.all (fun t => Tryz.pinned.checked.prog.wantsStandIn t == false) = true := by kernel_rfl
  have hm : t ∈ (#[22, 27, 3, 3, 5, 3] : Array TypeId).toList := Array.mem_toList_iff.2 (Array.mem_of_getElem? ht)
  simpa using List.all_eq_true.1 hall t hm
end Go.Proofs.YtpbbfbgmpidgnaaGreatDoor.sealWalks
namespace Go.Proofs.YtpbbfbgmpidgnaaGreatDoor
theorem seal_walks : Rows.SealWalksCardSaid :=
  Claim7.holds_tied_plain_at .later [] _ _ _ _ sealWalks.said (fun _ h => by cases h) (by kernel_rfl) (fun _ h => by cases h) sealWalks_row_tie rfl ⟨rfl, rfl⟩ (by kernel_rfl) rfl sealWalks.plain (by kernel_rfl)
end Go.Proofs.YtpbbfbgmpidgnaaGreatDoor
