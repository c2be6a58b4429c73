/-
  PROVED HERE: what permafrostbook.Within, permafrostkeep.Lists and permafrostlaw17.records answer; conditions: lengths that a slice may have.
-/
import Derived.Test.YtfegdgaanmcecaaGreatDoorPkN07
namespace Go.Proofs.YtfegdgaanmcecaaGreatDoor
open Go.RowKit
set_option maxRecDepth 100000 in
theorem lists_any (D D2 : Nat → Prop) (A A2 : Option Addr) (n c n2 c2 : Nat) (a b : List (List UInt8)) (w : World) (hB : Bss w D A n a) (hB2 : Bss w D2 A2 n2 b) (hn : n ≤ 9223372036854775807) :
  Calls Tryz.prog 45 #[.slice A n c, .slice A2 n2 c2] w fun e w' => e = .returned (.bool (decide (a = b))) ∧ New w w' := by
 have hl := hB.len
 have hl2 := hB2.len
 have HB := Lib.hid hB
 have HB2 := Lib.hid hB2
 clear hB hB2
 by_cases hne : n = n2
 ·subst hne
  have HL := Lib.hid hl
  have HL2 := Lib.hid hl2
  clear hl hl2
  go_enter Tryz.func45, Tryz.ntmps45
  go_wp2_with fail
  go_loopw [5] (fun i wx => ∃ k : Nat, k ≤ n ∧ i = .int .i64 (k : Int) ∧ a.take k = b.take k ∧ New w wx) (fun i _ => n - (intOf i).toNat)
  case atStart => exact ⟨0, Nat.zero_le _, rfl, rfl, New.refl _⟩
  case round =>
   obtain ⟨k, hk, rfl, hab, hK⟩ := hrel
   have HAB := Lib.hid hab
   clear hab
   by_cases hlt : k < n
   ·obtain ⟨b1, off1, A1', c1', hA1, g1, hc1, hbs1⟩ := (HB.out.new hK).at_ (k := k) (by have := HL.out; omega)
    obtain ⟨b2, off2, A2', c2', hA2, g2, hc2, hbs2⟩ := (HB2.out.new hK).at_ (k := k) (by have := HL2.out; omega)
    subst hA1
    subst hA2
    have k1 : ∀ m, (convert 31 9 (.slice A1' (a[k]'(by have := HL.out; omega)).length c1')).run Tryz.prog (wr.drewN m) = .ok (.string (strOf (a[k]'(by have := HL.out; omega)))) (wr.drewN m) := fun m => run_str (hbs1.new ((New.refl wr).drewN m))
    have k2 : ∀ m, (convert 31 9 (.slice A2' (b[k]'(by have := HL2.out; omega)).length c2')).run Tryz.prog (wr.drewN m) = .ok (.string (strOf (b[k]'(by have := HL2.out; omega)))) (wr.drewN m) := fun m => run_str (hbs2.new ((New.refl wr).drewN m))
    have HS1 := Lib.hid (List.take_succ_eq_append_getElem (l := a) (i := k) (by have := HL.out; omega))
    have HS2 := Lib.hid (List.take_succ_eq_append_getElem (l := b) (i := k) (by have := HL2.out; omega))
    clear hbs1 hbs2
    have HX : Hid (a[k]'(by have := HL.out; omega) ≠ b[k]'(by have := HL2.out; omega) → a ≠ b) := Lib.hid (fun h e => h (by subst e; rfl))
    generalize a[k]'_ = x at *
    generalize b[k]'_ = y at *
    by_cases hxy : x = y
    ·have hne' : (x == y) = true := by simpa using hxy
     have HXY := Lib.hid hxy
     clear hxy
     go_wp2_with fail
     go_quiet (fail)
     go_wp2_with fail
     go_roundw
     case rel => exact ⟨k + 1, by omega, by go_num, by rw [HS1.out, HS2.out, HAB.out, HXY.out], hK.drewN _⟩
     case measure => simp [intOf]; omega
    ·have hne' : (x == y) = false := by simpa using hxy
     have HXY := Lib.hid hxy
     clear hxy
     go_wp2_with fail
     go_quiet (fail)
     go_wp2_with fail
     go_ret
     exact ⟨by rw [decide_eq_false (HX.out HXY.out)]; rfl, hK.drewN _⟩
   ·obtain rfl : k = n := by omega
    go_wp2_with fail
    go_ret
    have e := HAB.out
    rw [List.take_of_length_le (by rw [HL.out]; exact Nat.le_refl _), List.take_of_length_le (by rw [HL2.out]; exact Nat.le_refl _)] at e
    exact ⟨by rw [decide_eq_true e]; rfl, hK⟩
 ·have hne' : ((n : Int) != n2) = true := by simp; omega
  have HX : Hid (a ≠ b) := Lib.hid (fun e => by subst e; omega)
  clear hl hl2 hne
  go_enter Tryz.func45, Tryz.ntmps45
  go_wp2_with fail
  go_ret
  exact ⟨by rw [decide_eq_false HX.out]; rfl, New.refl _⟩
theorem OwnRecs.keepE {w w' : World} {base : Nat} {D E : Nat → Prop} {A : Option Addr} {n c : Nat} {rs : List RecP} (h : OwnRecs w base D A n c rs) (hk : Keep E w w') (hb : ∀ k, blk A = some k → E k) (hD : ∀ b, D b → E b) : OwnRecs w' base D A n c rs := by
 obtain ⟨vs, h1, h2, h3⟩ := h
 exact ⟨vs, own_keep h1 hk hb, h2, fun k hk' => (h3 k hk').keep hk fun b _ hd => hD b hd.1⟩
theorem OwnRefs.keepE {w w' : World} {base : Nat} {D E : Nat → Prop} {A : Option Addr} {n c : Nat} {rs : List RecP} (h : OwnRefs w base D A n c rs) (hk : Keep E w w') (hb : ∀ k, blk A = some k → E k) (hD : ∀ b, D b → E b) : OwnRefs w' base D A n c rs := by
 obtain ⟨vs, h1, h2, h3⟩ := h
 exact ⟨vs, own_keep h1 hk hb, h2, fun k hk' => (h3 k hk').keep hk fun b _ hd => hD b hd.1⟩
end Go.Proofs.YtfegdgaanmcecaaGreatDoor
