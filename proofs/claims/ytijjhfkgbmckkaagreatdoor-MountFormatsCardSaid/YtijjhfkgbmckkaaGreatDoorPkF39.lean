/-
  PROVED HERE: what disk.Dirty answers where nothing is unsafe: no sector; condition: the disk is as Clean says.
-/
import Derived.Test.YtijjhfkgbmckkaaGreatDoorPkF36
namespace Go.Proofs.YtijjhfkgbmckkaaGreatDoor
open Go.RowKit Go.Shelf
open Go.Maps (Keyed)
attribute [local go_sem] Oper.semAt_some
set_option maxRecDepth 100000 in
theorem keys1_clean {w : World} {q : DiskB} {S : List UInt8} (h : Clean w q S) (l B1 : Nat) (h1 : w.cell? ⟨B1, 0, none⟩ = some (.map (some q.bm))) :
  Calls Tryz.prog 130 #[.func (.yield l) #[] #[], .pointer (some ⟨B1, 0, none⟩)] w fun e w' => (∃ v, e = .returned v) ∧ New w w' := by
 obtain ⟨wr0, hd⟩ := h
 have hlt := hd.lt
 obtain ⟨E, hown, hs⟩ := hd.dirty
 have HS : Hid (∀ x : Int, Maps.has E (.int .i64 x) = false) := Lib.hid fun x => (hs x).1 rfl
 have hbm := hlt q.bm (.inr (.inr rfl))
 clear hd hlt hs
 go_enter Tryz.func130, Tryz.ntmps130
 go_wp2_with (first
  | (at_range; refine wpList_range_own _ rfl _ 86 rfl 3 22 keyI Tryz.underlying86 _ q.bm 0 _ rfl hown ?_; intro w0 hrg0 hg0 hs0)
  | fail)
 go_frame
 clear h1
 go_loopw [3] (fun _ wr => ∃ (left : Lit → Bool) (cnt : Nat), wr.ranges Tryz.prog 3 heldR q.bm w.heap.size 0 E left cnt ∧ (∀ kl, left kl = true → Maps.has E kl = true) ∧ Keep (fun b => b < w.heap.size) w wr)
  (fun _ wr => wr.rangeLeft q.bm w.heap.size)
 case atStart => exact ⟨_, _, hrg0, fun _ h => h, ⟨hg0.os, hg0.tape, hg0.output, hg0.size, fun j hj _ => hg0.block j hj (by simp)⟩⟩
 case round =>
  obtain ⟨left, cnt, hrg, hle, hK⟩ := hrel
  go_wp2_with (first
   | (at_next; refine wpList_next_ranges _ rfl _ rfl 3 keyI heldR (Value.int .i64) (fun c : Value => c) (fun key kl hkey => by obtain ⟨x, rfl, _⟩ := Maps.keyOf_int_inv Tryz.underlying3 hkey; exact ⟨x, rfl⟩) (fun v y hv => ⟨v, rfl⟩) q.bm w.heap.size 0 _ _ _ rfl hrg ?_ ?_)
   | fail)
  ·intro _ hl0
   go_wp2_with fail
   go_end0
   exact ⟨⟨_, rfl⟩, hK.toNew fun j hj => hj⟩
  ·intro x c kl y ps w2 cnt1 hkey hlk hR hat hrg1 hlt1 hg1 hs1 hen
   exfalso
   obtain ⟨x', ex, rfl, hwx⟩ := Maps.keyOf_int_inv Tryz.underlying3 hkey
   have h1 := hle _ hlk
   rw [HS.out] at h1
   cases h1
theorem keys_any (bm : Nat) (w : World) : Calls Tryz.prog 51 #[.map (some bm)] w fun e w' => e = .returned (.func (.func 130) #[] #[.pointer (some ⟨w.heap.size, 0, none⟩)]) ∧ w' = w.alloc (.cells #[.map (some bm)] 86) := by
 go_enter Tryz.func51, Tryz.ntmps51
 go_wp2_with fail
 go_ret
 exact ⟨rfl, rfl⟩
set_option maxRecDepth 100000 in
set_option maxHeartbeats 1000000 in
theorem appendseq_clean {w : World} {q : DiskB} {S : List UInt8} (h : Clean w q S) (B1 : Nat) (h1 : w.heap[B1]? = some (.cells #[.map (some q.bm)] 86 (0, 0))) :
  Calls Tryz.prog 221 #[.slice none 0 0, .func (.func 130) #[] #[.pointer (some ⟨B1, 0, none⟩)]] w fun e w' => e = .returned (.slice none 0 0) ∧ New w w' := by
 refine (callsIn_wide (n := 6)).1 ?_
 refine callsIn_of_wp_marks Tryz.func221 rfl trivial ?_ rfl
 simp only [Tryz.ntmps221, List.size_toArray, List.length_cons, List.length_nil, Nat.reduceAdd, Nat.reduceSub, Array.replicate_succ, Array.replicate_zero, List.push_toArray, List.append_toArray, List.nil_append, List.cons_append]
 have kA := (New.refl w).alloc (.cells #[.slice none 0 0] 31)
 have xA := heap_alloc_new w (.cells #[.slice none 0 0] 31)
 gi_wp2
 generalize w.alloc (.cells #[.slice none 0 0] 31) = w2 at *
 have hC := h.new kA
 have x1 := kA.blockAt h1 trivial
 have hseq : SeqStopsK Fence.wide (6 - 1) Tryz.prog 130 #[.pointer (some ⟨B1, 0, none⟩)] (fun _ : { x : Nat // x < 0 } => #[Value.int .i64 0])
   (fun _ _ => True) (fun xs => xs = []) (fun _ => True) 0 w2 := fun l J Jx W hW hJ _ hY hJ0 => by
  have hk : New w2 W := (Keep.below hW).toNew fun j hj => hj
  refine (callsIn_wide.2 (keys1_clean (hC.new hk) l B1 (cellOf (hk.blockAt x1 trivial) (k := 0) rfl))).mono ?_
  rintro e W' ⟨he, hN⟩
  exact ⟨he, .inl ⟨[], rfl, hJ _ _ _ none hJ0 ⟨hN.os, hN.tape, hN.output, hN.size, fun j hj _ => hN.block j hj trivial⟩ (fun r e => by cases e)⟩⟩
 refine wpIn_rangeFunc_ownG (α := { x : Nat // x < 0 }) rfl (by decide) (gf := 130) (lb := #[.pointer (some ⟨B1, 0, none⟩)]) rfl trivial (enters_of Tryz.func130 (by kernel_rfl) rfl)
  hseq (fun _ _ => trivial) (fun _ _ _ _ _ _ _ _ => trivial) (Below.refl _ _) (fun _ => rfl)
  (fun _ W => Keep (fun j => j < w2.heap.size) w2 W) (fun _ _ _ => False) ?hI (fun _ _ _ _ _ hs _ _ => hs) (Keep.refl _ _)
  (fun x => absurd x.2 (Nat.not_lt_zero _)) (fun l x => absurd x.2 (Nat.not_lt_zero _)) (fun l pre x => absurd x.2 (Nat.not_lt_zero _)) ?done (fun _ _ _ _ _ _ hf => hf.elim)
 case hI =>
  rintro pre A C row hkk hg hr
  exact hkk.trans ⟨hg.os, hg.tape, hg.output, hg.size, fun j hjl hj => hg.block j hjl (fun e => by have := (hr j e.symm).1; omega)⟩
 case done =>
  rintro Db xs W hDb rfl hkk hKd
  have c2 : W.cell? ⟨w.heap.size, 0, none⟩ = some (.slice none 0 0) := cellOf (hkk.blockAt xA (Array.getElem?_eq_some_iff.1 xA).1) (k := 0) rfl
  have HR := Lib.hid (And.intro hkk hKd)
  clear hkk hKd
  gi_wp2
  obtain ⟨hkk, hKd⟩ := HR.out
  refine ⟨by simp, .inl ⟨_, _, rfl, run_takeDeferred hKd, ?_⟩⟩
  refine ⟨.slice none 0 0, by simp [results, Tryz.results221, go_sem], rfl, ?_⟩
  have hg := grownBy_putObj' W Db (.deferred none)
  have hwl : w.heap.size < w2.heap.size := (Array.getElem?_eq_some_iff.1 xA).1
  refine kA.new ((hkk.grown hg (fun j e hd => ?_)).toNew fun j hj => hj)
  injection e with e
  omega
set_option maxRecDepth 100000 in
theorem len64_zero (w : World) : Calls Tryz.prog 311 #[.int .u64 0] w fun e w' => (∃ k, e = .returned (.int .i64 k)) ∧ New w w' := by
 go_enter Tryz.func311, Tryz.ntmps311
 go_wp2_with fail
 go_ret
 exact ⟨⟨_, rfl⟩, New.refl _⟩
set_option maxRecDepth 100000 in
theorem len_zero (w : World) : Calls Tryz.prog 223 #[.int .u64 0] w fun e w' => (∃ k, e = .returned (.int .i64 k)) ∧ New w w' := by
 have HL := Lib.hid (fun W => len64_zero W)
 go_enter Tryz.func223, Tryz.ntmps223
 go_wp2_with fail
 refine (HL.out _).mono ?_
 rintro e w1 ⟨⟨k, rfl⟩, k1⟩
 go_wp2_with fail
 go_ret
 exact ⟨⟨_, rfl⟩, k1⟩
set_option maxRecDepth 100000 in
theorem insertion_none (w : World) : Calls Tryz.prog 301 #[.slice none 0 0, .int .i64 0, .int .i64 0] w fun e w' => e = .returned (.tuple #[]) ∧ New w w' := by
 go_enter Tryz.func301, Tryz.ntmps301
 go_wp2_with fail
 go_loopw [6] (fun i wx => i = .int .i64 1 ∧ wx = w) (fun _ _ => 0)
 case atStart => exact ⟨rfl, rfl⟩
 case round =>
  obtain ⟨rfl, rfl⟩ := hrel
  go_wp2_with fail
  go_end0
  exact ⟨rfl, New.refl _⟩
set_option maxRecDepth 100000 in
theorem pdq_none (k : Int) (w : World) : Calls Tryz.prog 222 #[.slice none 0 0, .int .i64 0, .int .i64 0, .int .i64 k] w fun e w' => e = .returned (.tuple #[]) ∧ New w w' := by
 have HL := Lib.hid (fun W => insertion_none W)
 go_enter Tryz.func222, Tryz.ntmps222
 go_wp2_with fail
 go_loopw [1, 2] (fun i j wx => i = .int .i64 0 ∧ j = .int .i64 0 ∧ wx = w) (fun _ _ _ => 0)
 case atStart => exact ⟨rfl, rfl, rfl⟩
 case round =>
  obtain ⟨rfl, rfl, rfl⟩ := hrel
  go_wp2_with fail
  refine (HL.out _).mono ?_
  rintro e w1 ⟨rfl, k1⟩
  go_wp2_with fail
  refine bodyPost_ret (results_none rfl _ _ _) rfl ?_
  exact ⟨rfl, k1⟩
theorem sort_none (w : World) : Calls Tryz.prog 129 #[.slice none 0 0] w fun e w' => e = .returned (.tuple #[]) ∧ New w w' := by
 have HL := Lib.hid (fun W => len_zero W)
 have HP := Lib.hid (fun k W => pdq_none k W)
 go_enter Tryz.func129, Tryz.ntmps129
 go_wp2_with fail
 refine (HL.out _).mono ?_
 rintro e w1 ⟨⟨k, rfl⟩, k1⟩
 go_wp2_with fail
 refine (HP.out _ _).mono ?_
 rintro e w2 ⟨rfl, k2⟩
 go_wp2_with fail
 go_end0
 exact ⟨rfl, k1.new k2⟩
theorem collect_clean {w : World} {q : DiskB} {S : List UInt8} (h : Clean w q S) (B1 : Nat) (h1 : w.heap[B1]? = some (.cells #[.map (some q.bm)] 86 (0, 0))) :
  Calls Tryz.prog 128 #[.func (.func 130) #[] #[.pointer (some ⟨B1, 0, none⟩)]] w fun e w' => e = .returned (.slice none 0 0) ∧ New w w' := by
 have HL := Lib.hid (appendseq_clean h B1 h1)
 go_enter Tryz.func128, Tryz.ntmps128
 go_wp2_with fail
 refine HL.out.mono ?_
 rintro e w1 ⟨rfl, k1⟩
 go_wp2_with fail
 go_ret
 exact ⟨rfl, k1⟩
theorem sorted_clean {w : World} {q : DiskB} {S : List UInt8} (h : Clean w q S) (B1 : Nat) (h1 : w.heap[B1]? = some (.cells #[.map (some q.bm)] 86 (0, 0))) :
  Calls Tryz.prog 50 #[.func (.func 130) #[] #[.pointer (some ⟨B1, 0, none⟩)]] w fun e w' => e = .returned (.slice none 0 0) ∧ New w w' := by
 have HL := Lib.hid (collect_clean h B1 h1)
 have HS := Lib.hid (fun W => sort_none W)
 go_enter Tryz.func50, Tryz.ntmps50
 go_wp2_with fail
 refine HL.out.mono ?_
 rintro e w1 ⟨rfl, k1⟩
 go_wp2_with fail
 refine (HS.out _).mono ?_
 rintro e w2 ⟨rfl, k2⟩
 go_wp2_with fail
 go_ret
 exact ⟨rfl, k1.new k2⟩
theorem dirty_clean {w : World} {q : DiskB} {S : List UInt8} (h : Clean w q S) :
  Calls Tryz.prog 14 #[.pointer (some ⟨q.bd, 0, none⟩)] w fun e w' => e = .returned (.slice none 0 0) ∧ New w w' := by
 have k1 := (New.refl w).alloc (.cells #[.map (some q.bm)] 86)
 have HL := Lib.hid (sorted_clean (h.new k1) _ (heap_alloc_new w _))
 have HM := Lib.hid (keys_any q.bm w)
 have c1 : w.cell? ⟨q.bd, 1, none⟩ = some (.map (some q.bm)) := by obtain ⟨_, hd⟩ := h; exact cellOf hd.disk (k := 1) rfl
 clear h
 go_enter Tryz.func14, Tryz.ntmps14
 go_wp2_with fail
 refine HM.out.mono ?_
 rintro e w1 ⟨rfl, rfl⟩
 go_wp2_with fail
 refine HL.out.mono ?_
 rintro e w2 ⟨rfl, k2⟩
 go_wp2_with fail
 go_ret
 exact ⟨rfl, k1.new k2⟩
end Go.Proofs.YtijjhfkgbmckkaaGreatDoor
