/-
  PROVED HERE: chapter 17's known runs; a row of bytes as a string; no condition.
-/
import Derived.Test.YtpbbfbgmpidgnaaDoorBuild
import Derived.Laws.BytesArg
import Derived.Lib.SlBytesRow
namespace Go.Proofs.YtpbbfbgmpidgnaaDoor
open Go.RowKit

def strOf (bs : List UInt8) : ByteArray := ⟨bs.toArray⟩
theorem strOf_inj {a b : List UInt8} (h : strOf a = strOf b) : a = b := by
  have := congrArg (fun s : ByteArray => s.data.toList) h
  simpa [strOf] using this
@[go_sem] theorem strOf_toList (bs : List UInt8) : (strOf bs).toList = bs := by rw [ByteArray.toList_eq]; rfl
theorem strOf_beq (a b : List UInt8) : (strOf a == strOf b) = decide (a = b) := by
  show (a.toArray == b.toArray) = _
  by_cases h : a = b
  · subst h; simp
  · simp [h]
theorem strOf_bne (a b : List UInt8) : (strOf a != strOf b) = !decide (a = b) := by
  show (!(strOf a == strOf b)) = _
  rw [strOf_beq]
theorem run_str {D : Nat → Prop} {A : Option Addr} {n c : Nat} {bs : List UInt8} {w : World} (h : Bs w D A n bs) :
    (convert 24 9 (.slice A n c)).run Tryd.prog w = .ok (.string (strOf bs)) w := by
  have hl := h.len
  rcases Nat.eq_zero_or_pos n with h0 | h0
  · subst h0
    obtain rfl : bs = [] := List.eq_nil_of_length_eq_zero hl
    rw [run_convert_bytes_string w _ _ 5 A 0 c Tryd.underlying24 Tryd.underlying5 Tryd.underlying9]
    rcases A with _ | a
    · simp [Conv.bytesToString, Sem.run_pure]; rfl
    · rw [run_bytesToString w a 0 c [] (by rw [loadCells, loadCellsFrom]; rfl)]; rfl
  · obtain ⟨b, off, rfl, _, _, hc⟩ := h.cellAt h0
    subst hl
    exact Lib.run_convert_whole w 24 5 9 Tryd.underlying24 Tryd.underlying5 Tryd.underlying9 b off (strOf bs) (fun i hi => hc i hi) c
set_option maxRecDepth 100000 in
theorem known17_any (w : World) : Calls Tryd.prog 12 #[] w fun e w' => e = .returned (.bool true) ∧ New w w' := by
  have hmk : ∀ w, (Instr.makeSlice 24 (.int .i64 32) (.int .i64 32)).run Tryd.prog w = .ok (.slice (some ⟨w.heap.size, 0, none⟩) 32 32) (w.alloc (.cells (List.replicate 32 (Value.int .u8 0)).toArray 5)) := fun _ => by kernel_rfl
  go_enter Tryd.func12, Tryd.ntmps12
  go_wp2_with fail
  have hz := (Row.made w 5 (List.replicate 32 (Value.int .u8 0)).toArray 32 1 rfl).alloc (.cells #[.int .i64 2, .int .u64 1, .slice none 0 0] 43)
  have hz' : Bs ((w.alloc (.cells (List.replicate 32 (Value.int .u8 0)).toArray 5)).alloc (.cells #[.int .i64 2, .int .u64 1, .slice none 0 0] 43)) (fun b => w.heap.size ≤ b) (some ⟨w.heap.size, 0, none⟩) 32 (List.replicate 32 0) := hz
  have hr : Recs ((w.alloc (.cells (List.replicate 32 (Value.int .u8 0)).toArray 5)).alloc (.cells #[.int .i64 2, .int .u64 1, .slice none 0 0] 43)) (fun b => w.heap.size ≤ b) (some ⟨w.heap.size + 1, 0, none⟩) 1 [⟨2, 1, []⟩] := by
    have hrow := (Row.made (w.alloc (.cells (List.replicate 32 (Value.int .u8 0)).toArray 5)) 43 #[.int .i64 2, .int .u64 1, .slice none 0 0] 1 3 rfl).imp (E := fun b => w.heap.size ≤ b) (fun b _ h => Nat.le_trans (by simp) h)
    rw [World.size_alloc] at hrow
    refine ⟨_, hrow, rfl, fun k hk => ?_⟩
    match k, hk with
    | 0, _ => exact ⟨none, 0, rfl, rfl, rfl, Nat.le_refl _, Row.nil _ _ _ _, (by decide : (0 : Int) ≤ 1), (by decide : (1 : Int) ≤ 18446744073709551615), (by decide : (0 : Nat) ≤ 9223372036854770000), (by decide : (0 : Nat) ≤ 9223372036854775807)⟩
  have hK0 : New w ((w.alloc (.cells (List.replicate 32 (Value.int .u8 0)).toArray 5)).alloc (.cells #[.int .i64 2, .int .u64 1, .slice none 0 0] 43)) := ((New.refl w).alloc _).alloc _
  have hb := build_ok _ _ 0 1 _ _ 32 32 1 1 _ _ _ hz' (Nat.le_refl _) hr (by decide) (by decide) (by decide) (by decide)
  clear hz hz' hr
  refine hb.mono ?_
  rintro e w1 ⟨⟨A1, c1, rfl, hown⟩, hK1⟩
  have hK01 := hK0.new hK1
  clear hb hK0 hK1
  go_wp2_with fail
  have hb2 := build_arg (fun _ => True) (fun _ => True) 0 1 (some ⟨w1.heap.size, 0, none⟩) none 32 32 0 0 [] (w1.alloc (.cells (List.replicate 32 (Value.int .u8 0)).toArray 5)) (Recs.nil _ _ _) (by decide) (by decide)
  refine hb2.mono ?_
  rintro e w2 ⟨rfl, hK2⟩
  have hK02 := (hK01.alloc _).new hK2
  clear hb2 hK2 hK01 hown
  go_wp2_with fail
  go_ret
  exact ⟨rfl, hK02⟩
end Go.Proofs.YtpbbfbgmpidgnaaDoor
