/-
  PROVED HERE: texts that belong together, one behind the other; what each proves, and under which conditions, its own opening remark says: ShelfK, SurvLaw21, Crash21, SizeK, Sized21, CLack.
-/
import Derived.Shelf.SlIterI.Nil
import Derived.Shelf.SortM.Plain
import Derived.Shelf.SortM.SortNone
import Derived.Test.YtajnkbfcnmajoaaGreatDoorChecked
import Derived.Laws.IdiomCopy
import Derived.SizedLaws
import Derived.Test.YtajnkbfcnmajoaaGreatDoorPkB00
import Derived.Test.YtajnkbfcnmajoaaGreatDoorPkB04
import Derived.Test.YtajnkbfcnmajoaaGreatDoorPkB05
import Derived.Test.YtajnkbfcnmajoaaGreatDoorPkB08
import Derived.Test.YtajnkbfcnmajoaaGreatDoorPkB31
import Derived.Test.YtajnkbfcnmajoaaGreatDoorPkB34
import Derived.Test.YtajnkbfcnmajoaaGreatDoorPkH03
import Derived.Test.YtajnkbfcnmajoaaGreatDoorPkH05
/-
  PROVED HERE: the library's contracts on generic functions (the kit's shelf) at this program: tables of numbers, each field compared with the program. No condition.
-/
namespace Go.Proofs.YtajnkbfcnmajoaaGreatDoor
open Go.Shelf
def keysA_ren : Go.Shelf.Ren := ⟨fun | 7 => 58 | 10 => 99 | n => n, fun | 23 => 90 | 26 => 3 | 3 => 25 | 28 => 107 | 0 => 0 | 27 => 106 | 33 => 65 | 4 => 4 | n => n, fun | n => n⟩
theorem keysA : Go.Proofs.SlLaysZI.n7 Tryz.prog keysA_ren := {
  mixed := by kernel_rfl
  f7 := ⟨Tryz.f58.name, by decide, Tryz.func58.trans (congrArg some (by kernel_rfl))⟩
  f10 := ⟨Tryz.f99.name, by decide, Tryz.func99.trans (congrArg some (by kernel_rfl))⟩
  t0 := Tryz.underlying0
  a0 := Tryz.isAgg0
  z0 := Tryz.sizeOf0
  v0 := Tryz.zeroValue0
  t4 := Tryz.underlying4
  a4 := Tryz.isAgg4
  z4 := Tryz.sizeOf4
  v4 := Tryz.zeroValue4
  t23 := Tryz.underlying90
  a23 := Tryz.isAgg90
  z23 := Tryz.sizeOf90
  v23 := Tryz.zeroValue90
  t26 := Tryz.underlying3
  a26 := Tryz.isAgg3
  z26 := Tryz.sizeOf3
  v26 := Tryz.zeroValue3
  t27 := Tryz.underlying106
  a27 := Tryz.isAgg106
  z27 := Tryz.sizeOf106
  v27 := Tryz.zeroValue106
  t28 := Tryz.underlying107
  a28 := Tryz.isAgg107
  z28 := Tryz.sizeOf107
  v28 := Tryz.zeroValue107
  t33 := Tryz.underlying65
  a33 := Tryz.isAgg65
  z33 := Tryz.sizeOf65
  v33 := Tryz.zeroValue65 }
def sortedA_ren : Go.Shelf.Ren := ⟨fun | 6 => 57 | 8 => 97 | 9 => 98 | 11 => 129 | 13 => 131 | 12 => 130 | 23 => 156 | 24 => 157 | 14 => 147 | 15 => 148 | 16 => 149 | 17 => 150 | 18 => 151 | 19 => 152 | 20 => 153 | 21 => 154 | 22 => 155 | 25 => 163 | 26 => 164 | 27 => 165 | 28 => 166 | 29 => 167 | 30 => 168 | 31 => 171 | n => n, fun | 26 => 3 | 28 => 107 | 24 => 73 | 0 => 0 | 3 => 3 | 37 => 150 | 48 => 115 | 50 => 34 | 4 => 4 | 40 => 183 | 39 => 182 | 45 => 187 | 5 => 5 | 9 => 9 | 51 => 198 | 55 => 201 | 57 => 210 | 58 => 211 | 33 => 65 | n => n, fun | n => n⟩
theorem sortedA : Go.Proofs.SlLaysZI.n6 Tryz.prog sortedA_ren := {
  mixed := by kernel_rfl
  f6 := ⟨Tryz.f57.name, by decide, Tryz.func57.trans (congrArg some (by kernel_rfl))⟩
  f8 := ⟨Tryz.f97.name, by decide, Tryz.func97.trans (congrArg some (by kernel_rfl))⟩
  f11 := ⟨Tryz.f129.name, by decide, Tryz.func129.trans (congrArg some (by kernel_rfl))⟩
  t0 := Tryz.underlying0
  a0 := Tryz.isAgg0
  z0 := Tryz.sizeOf0
  v0 := Tryz.zeroValue0
  t24 := Tryz.underlying73
  a24 := Tryz.isAgg73
  z24 := Tryz.sizeOf73
  v24 := Tryz.zeroValue73
  t26 := Tryz.underlying3
  a26 := Tryz.isAgg3
  z26 := Tryz.sizeOf3
  v26 := Tryz.zeroValue3
  t28 := Tryz.underlying107
  a28 := Tryz.isAgg107
  z28 := Tryz.sizeOf107
  v28 := Tryz.zeroValue107
  i26 := by kernel_rfl }
def sortA_ren : Go.Shelf.Ren := ⟨fun | 5 => 98 | 8 => 131 | 7 => 130 | 19 => 156 | 20 => 157 | 10 => 147 | 11 => 148 | 12 => 149 | 13 => 150 | 14 => 151 | 15 => 152 | 16 => 153 | 17 => 154 | 18 => 155 | 30 => 163 | 31 => 164 | 32 => 165 | 33 => 166 | 34 => 167 | 35 => 168 | 40 => 171 | n => n, fun | 23 => 73 | 25 => 3 | 3 => 3 | 32 => 150 | 22 => 73 | 0 => 0 | 44 => 115 | 46 => 34 | 4 => 4 | 36 => 183 | 35 => 182 | 41 => 187 | 5 => 5 | 9 => 9 | 53 => 198 | 57 => 201 | 63 => 210 | 64 => 211 | n => n, fun | n => n⟩
theorem sortA : Go.Proofs.SlLaysM.n5 Tryz.prog sortA_ren := {
  mixed := by kernel_rfl
  f5 := ⟨Tryz.f98.name, by decide, Tryz.func98.trans (congrArg some (by kernel_rfl))⟩
  f7 := ⟨Tryz.f130.name, by decide, Tryz.func130.trans (congrArg some (by kernel_rfl))⟩
  f8 := Tryz.func131.trans (congrArg some (by kernel_rfl))
  f10 := ⟨Tryz.f147.name, by decide, Tryz.func147.trans (congrArg some (by kernel_rfl))⟩
  f11 := ⟨Tryz.f148.name, by decide, Tryz.func148.trans (congrArg some (by kernel_rfl))⟩
  f12 := ⟨Tryz.f149.name, by decide, Tryz.func149.trans (congrArg some (by kernel_rfl))⟩
  f13 := ⟨Tryz.f150.name, by decide, Tryz.func150.trans (congrArg some (by kernel_rfl))⟩
  f14 := ⟨Tryz.f151.name, by decide, Tryz.func151.trans (congrArg some (by kernel_rfl))⟩
  f15 := ⟨Tryz.f152.name, by decide, Tryz.func152.trans (congrArg some (by kernel_rfl))⟩
  f16 := ⟨Tryz.f153.name, by decide, Tryz.func153.trans (congrArg some (by kernel_rfl))⟩
  f17 := ⟨Tryz.f154.name, by decide, Tryz.func154.trans (congrArg some (by kernel_rfl))⟩
  f18 := ⟨Tryz.f155.name, by decide, Tryz.func155.trans (congrArg some (by kernel_rfl))⟩
  f19 := Tryz.func156.trans (congrArg some (by kernel_rfl))
  f20 := Tryz.func157.trans (congrArg some (by kernel_rfl))
  f30 := ⟨Tryz.f163.name, by decide, Tryz.func163.trans (congrArg some (by kernel_rfl))⟩
  f31 := Tryz.func164.trans (congrArg some (by kernel_rfl))
  f32 := Tryz.func165.trans (congrArg some (by kernel_rfl))
  f33 := ⟨Tryz.f166.name, by decide, Tryz.func166.trans (congrArg some (by kernel_rfl))⟩
  f34 := ⟨Tryz.f167.name, by decide, Tryz.func167.trans (congrArg some (by kernel_rfl))⟩
  f35 := ⟨Tryz.f168.name, by decide, Tryz.func168.trans (congrArg some (by kernel_rfl))⟩
  f40 := ⟨Tryz.f171.name, by decide, Tryz.func171.trans (congrArg some (by kernel_rfl))⟩
  t0 := Tryz.underlying0
  a0 := Tryz.isAgg0
  z0 := Tryz.sizeOf0
  v0 := Tryz.zeroValue0
  t3 := Tryz.underlying3
  a3 := Tryz.isAgg3
  z3 := Tryz.sizeOf3
  v3 := Tryz.zeroValue3
  t4 := Tryz.underlying4
  a4 := Tryz.isAgg4
  z4 := Tryz.sizeOf4
  v4 := Tryz.zeroValue4
  t5 := Tryz.underlying5
  a5 := Tryz.isAgg5
  z5 := Tryz.sizeOf5
  v5 := Tryz.zeroValue5
  t9 := Tryz.underlying9
  a9 := Tryz.isAgg9
  z9 := Tryz.sizeOf9
  v9 := Tryz.zeroValue9
  t22 := Tryz.underlying73
  a22 := Tryz.isAgg73
  z22 := Tryz.sizeOf73
  v22 := Tryz.zeroValue73
  t23 := Tryz.underlying73
  a23 := Tryz.isAgg73
  z23 := Tryz.sizeOf73
  v23 := Tryz.zeroValue73
  t25 := Tryz.underlying3
  a25 := Tryz.isAgg3
  z25 := Tryz.sizeOf3
  v25 := Tryz.zeroValue3
  t32 := Tryz.underlying150
  a32 := Tryz.isAgg150
  z32 := Tryz.sizeOf150
  v32 := Tryz.zeroValue150
  t35 := Tryz.underlying182
  a35 := Tryz.isAgg182
  z35 := Tryz.sizeOf182
  v35 := Tryz.zeroValue182
  t36 := Tryz.underlying183
  a36 := Tryz.isAgg183
  z36 := Tryz.sizeOf183
  v36 := Tryz.zeroValue183
  t41 := Tryz.underlying187
  a41 := Tryz.isAgg187
  z41 := Tryz.sizeOf187
  v41 := Tryz.zeroValue187
  t44 := Tryz.underlying115
  a44 := Tryz.isAgg115
  z44 := Tryz.sizeOf115
  v44 := Tryz.zeroValue115
  t46 := Tryz.underlying34
  a46 := Tryz.isAgg34
  z46 := Tryz.sizeOf34
  v46 := Tryz.zeroValue34
  t53 := Tryz.underlying198
  a53 := Tryz.isAgg198
  z53 := Tryz.sizeOf198
  v53 := Tryz.zeroValue198
  t57 := Tryz.underlying201
  a57 := Tryz.isAgg201
  z57 := Tryz.sizeOf201
  v57 := Tryz.zeroValue201
  t63 := Tryz.underlying210
  a63 := Tryz.isAgg210
  z63 := Tryz.sizeOf210
  v63 := Tryz.zeroValue210
  t64 := Tryz.underlying211
  a64 := Tryz.isAgg211
  z64 := Tryz.sizeOf211
  v64 := Tryz.zeroValue211 }
end Go.Proofs.YtajnkbfcnmajoaaGreatDoor
/-
  PROVED HERE: plain law on a disk that crashed: what its sectors are, and that a place that begins with 1 or with noughts is no segment of a small index; no program is in sight.
-/
namespace Go.Proofs.YtajnkbfcnmajoaaGreatDoor
open Go.RowKit
theorem no_one (b : List UInt8) (h : b[0]? = some 1) {n : Nat} (hn : n < 256) : (segRead b).2.2 ≠ 0 ∨ (segRead b).1.index ≠ (n : Int) := by
 by_cases hl : b.length ≠ 1024
 ·left; unfold segRead; rw [if_pos hl]; decide
 ·have hl : b.length = 1024 := Decidable.of_not_not hl
  obtain ⟨y, r, rfl⟩ : ∃ y r, b = 1 :: y :: r := by
   cases b with
   | nil => cases hl
   | cons a t =>
    cases t with
    | nil => simp at hl
    | cons y r => simp at h; exact ⟨y, r, by rw [h]⟩
  have hi : (headOf (1 :: y :: r)).index = 256 + (y.toNat : Int) := by
   show ((((RdS.mk (1 :: y :: r) 0).num 2).1 : Nat) : Int) = _
   unfold RdS.num
   have hr : (RdS.mk (1 :: y :: r) 0).raw ((2 : Nat) : Int) = ((1 :: y :: r).take 2, ⟨(1 :: y :: r).drop 2, 0⟩) := RdS.raw_some _ 2 rfl (by decide) (by simp only [List.length_cons] at hl ⊢; omega)
   rw [hr]
   simp [beNat]
  unfold segRead
  split
  ·left; decide
  ·split
   ·left; simp
   ·split
    ·left; simp
    ·split
     ·left; simp
     ·split
      ·left; simp
      ·split
       ·left; simp
       ·right
        rw [hi]
        omega
def secOf (S : List UInt8) (i : Nat) : List UInt8 := (S.drop (i * 128)).take 128
def Torn (S : List UInt8) (M : Dirt) (S' : List UInt8) : Prop :=
 S'.length = S.length ∧ ∀ i : Nat, i * 128 + 128 ≤ S.length → match M i with | none => secOf S' i = secOf S i | some b => ∃ c, c ≤ 128 ∧ secOf S' i = b.take c ++ (secOf S i).drop c
theorem Torn.refl (S : List UInt8) (M : Dirt) : Torn S M S := ⟨rfl, fun i _ => by
 cases M i with
 | none => rfl
 | some b => exact ⟨0, by decide, by simp⟩⟩
theorem secOf_length {S : List UInt8} {i : Nat} (h : i * 128 + 128 ≤ S.length) : (secOf S i).length = 128 := by
 unfold secOf
 rw [List.length_take, List.length_drop]
 omega
theorem secOf_get (S : List UInt8) (i x : Nat) : (secOf S i)[x]? = if x < 128 then S[i * 128 + x]? else none := by
 unfold secOf
 rw [List.getElem?_take, List.getElem?_drop]
theorem secOf_splice {S b : List UInt8} {i j : Nat} (hb : b.length ≤ 128) (hi : i * 128 + 128 ≤ S.length) : secOf (splice S (i * 128) b) j = if j = i then b ++ (secOf S i).drop b.length else secOf S j := by
 apply List.ext_getElem?
 intro x
 rw [secOf_get, splice_get (by omega)]
 by_cases e : j = i
 ·subst e
  rw [if_pos rfl]
  by_cases hx : x < 128
  ·rw [if_pos hx]
   by_cases h2 : x < b.length
   ·rw [if_pos (by omega), List.getElem?_append_left h2]
    congr 1
    omega
   ·rw [if_neg (by omega), List.getElem?_append_right (by omega), List.getElem?_drop, secOf_get, if_pos (by omega)]
    congr 1
    omega
  ·rw [if_neg hx, List.getElem?_eq_none]
   rw [List.length_append, List.length_drop, secOf_length hi]
   omega
 ·rw [if_neg e, secOf_get]
  by_cases hx : x < 128
  ·rw [if_pos hx, if_pos hx, if_neg (by omega)]
  ·rw [if_neg hx, if_neg hx]
theorem take_get {b s : List UInt8} {c : Nat} (hc : c ≤ b.length) (x : Nat) : (b.take c ++ s.drop c)[x]? = if x < c then b[x]? else s[x]? := by
 by_cases h : x < c
 ·rw [List.getElem?_append_left (by rw [List.length_take]; omega), List.getElem?_take, if_pos h, if_pos h]
 ·rw [List.getElem?_append_right (by rw [List.length_take]; omega), List.getElem?_drop, List.length_take, if_neg h]
  congr 1
  omega
theorem take_over {b s : List UInt8} {c d : Nat} (hb : b.length = 128) (hc : c ≤ 128) (hd : d ≤ 128) : b.take d ++ (b.take c ++ s.drop c).drop d = b.take (max c d) ++ s.drop (max c d) := by
 apply List.ext_getElem?
 intro x
 rw [take_get (b := b) (s := s) (c := max c d) (by omega) x]
 by_cases h : x < d
 ·rw [List.getElem?_append_left (by rw [List.length_take]; omega), List.getElem?_take, if_pos h, if_pos (by omega)]
 ·rw [List.getElem?_append_right (by rw [List.length_take]; omega), List.getElem?_drop, List.length_take]
  have e : d + (x - min d b.length) = x := by omega
  rw [e, take_get (by omega)]
  by_cases h2 : x < c
  ·rw [if_pos h2, if_pos (by omega)]
  ·rw [if_neg h2, if_neg (by omega)]
theorem Torn.step {S SL : List UInt8} {M : Dirt} (h : Torn S M SL) {i d : Nat} {b : List UInt8} (hb : M i = some b) (hl : b.length = 128) (hd : d ≤ 128) (hi : i * 128 + 128 ≤ S.length) : Torn S M (splice SL (i * 128) (b.take d)) := by
 have hdl : (b.take d).length = d := by rw [List.length_take]; omega
 refine ⟨by rw [splice_length (by rw [hdl, h.1]; omega)]; exact h.1, fun j hj => ?_⟩
 have hs := h.2 j hj
 rw [secOf_splice (by omega) (by rw [h.1]; exact hi), hdl]
 by_cases e : j = i
 ·subst e
  rw [hb] at hs ⊢
  obtain ⟨c, hc, hs⟩ := hs
  rw [if_pos rfl]
  refine ⟨max c d, by omega, ?_⟩
  rw [hs, take_over hl hc hd]
 ·rw [if_neg e]; exact hs
theorem Torn.place {S S' : List UInt8} {M : Dirt} (h : Torn S M S') {p i : Nat} (hfit : placeAt p i + 1024 ≤ S.length) (hM : ∀ j : Nat, j < 8 → M ((1 + 2 * p + i * 8 + j : Nat) : Int) = none) : placeOf S' p i = placeOf S p i := by
 apply List.ext_getElem?
 intro x
 rw [placeOf_get, placeOf_get]
 by_cases hx : x < 1024
 ·rw [if_pos hx, if_pos hx]
  unfold placeAt at hfit ⊢
  have h1 := h.2 (1 + 2 * p + i * 8 + x / 128) (by omega)
  rw [hM (x / 128) (by omega)] at h1
  have h2 := congrArg (fun l => l[x % 128]?) h1
  simp only [secOf_get] at h2
  rw [if_pos (by omega), if_pos (by omega)] at h2
  rw [show (1 + 2 * p + i * 8) * 128 + x = (1 + 2 * p + i * 8 + x / 128) * 128 + x % 128 by omega]
  exact h2
 ·rw [if_neg hx, if_neg hx]
theorem Torn.none {S S' : List UInt8} {M : Dirt} (h : Torn S M S') {p n : Nat} (hfit : placeAt p n + 1024 ≤ S.length) (hz : placeOf S p n = List.replicate 1024 0) (hM : ∀ b, M ((1 + 2 * p + n * 8 : Nat) : Int) = some b → b[0]? = some 1) (hn : n < 256) :
  (segRead (placeOf S' p n)).2.2 ≠ 0 ∨ (segRead (placeOf S' p n)).1.index ≠ (n : Int) := by
 have hs0 : ∀ x, x < 128 → (secOf S (1 + 2 * p + n * 8))[x]? = some 0 := fun x hx => by
  have h2 := congrArg (fun l => l[x]?) hz
  simp only [placeOf_get] at h2
  rw [if_pos (by omega), List.getElem?_replicate, if_pos (by omega)] at h2
  rw [secOf_get, if_pos hx]
  exact h2
 have hp : ∀ x, x < 128 → (placeOf S' p n)[x]? = (secOf S' (1 + 2 * p + n * 8))[x]? := fun x hx => by
  rw [placeOf_get, if_pos (by omega), secOf_get, if_pos hx]; rfl
 have h1 := h.2 (1 + 2 * p + n * 8) (by unfold placeAt at hfit; omega)
 have nought : (∀ x, x < 128 → (secOf S' (1 + 2 * p + n * 8))[x]? = some 0) → (segRead (placeOf S' p n)).2.2 ≠ 0 := fun hx => by
  refine no_nought _ ?_
  apply List.ext_getElem?
  intro x
  rw [List.getElem?_take, List.getElem?_replicate]
  by_cases h3 : x < 16
  ·rw [if_pos h3, if_pos h3, hp x (by omega), hx x (by omega)]
  ·rw [if_neg h3, if_neg h3]
 rcases hm : M ((1 + 2 * p + n * 8 : Nat) : Int) with _ | b
 ·rw [hm] at h1
  exact .inl (nought fun x hx => by rw [h1]; exact hs0 x hx)
 ·rw [hm] at h1
  obtain ⟨c, hc, h1⟩ := h1
  by_cases e : c = 0
  ·subst e
   rw [List.take_zero, List.nil_append, List.drop_zero] at h1
   exact .inl (nought fun x hx => by rw [h1]; exact hs0 x hx)
  ·refine no_one _ ?_ hn
   rw [hp 0 (by omega), h1]
   have hb := hM b hm
   cases b with
   | nil => cases hb
   | cons a t =>
    obtain ⟨c, rfl⟩ : ∃ c', c = c' + 1 := ⟨c - 1, by omega⟩
    simpa using hb
end Go.Proofs.YtajnkbfcnmajoaaGreatDoor
/-
  PROVED HERE: what disk.Dirty and disk.Crash answer on a disk of which some sectors are unsafe; conditions: the disk is as DiskAt says, its unsafe sectors are sectors of it.
-/
namespace Go.Proofs.YtajnkbfcnmajoaaGreatDoor
open Go.RowKit Go.Maps Go.Sort Go.Shelf
theorem sortsA (m : Nat) : AnyZI.SortsIn Tryz.prog sortedA_ren Fence.wide m :=
 ⟨fun blk off cap ss W hH hblk hsz => callsIn_wide.2 (AnyM.slices_Sort_int sortA blk off cap ss W hH hblk hsz), fun p cap W => callsIn_wide.2 (AnyM.slices_Sort_int_none sortA p cap W)⟩
theorem mem_intKeys {H : Type} {P : Program} {k : TypeId} {R : Value → Option (DataW H × List MemPlace)} {w : World} {b n : Nat} {D0 : DataW H} (hown : w.ownsMap P k R b n D0) (hk : P.underlying k = some (.int .i64)) : ∀ x ∈ intKeys D0, Maps.has D0 (.int .i64 x) = true := by
 obtain ⟨es, rfl, hko⟩ := hown.keysOf
 intro x hx
 obtain ⟨p, hp, rfl⟩ := List.mem_map.1 hx
 obtain ⟨v, hv⟩ := hko p hp
 obtain ⟨y, _, hy, _⟩ := Maps.keyOf_i64 hk hv
 rw [Maps.has_eq, List.any_eq_true]
 exact ⟨p, hp, by rw [hy]; simp [Lit.sameKey, Go.intOf]⟩
theorem perm_intKeys_sort {l l' : List Int} (h : l.Perm l') : ∀ x ∈ l.mergeSort (fun x y => decide (x ≤ y)), x ∈ l' := fun _ hx => h.subset ((List.mergeSort_perm l _).subset hx)
section
variable {w : World} {D : Nat → Prop} {q : DiskB} {S : List UInt8} {M : Dirt} {n : Nat} {wq : Int}
theorem sorted_dirty {bm : Nat} {E : DataW Value} (hown : w.ownsMap Tryz.prog 3 heldR bm n E) (hn : n ≤ 1000000) (B1 : Nat) (h1 : w.heap[B1]? = some (.cells #[.map (some bm)] 90 (0, 0))) :
  Calls Tryz.prog 57 #[.func (.func 99) #[] #[.pointer (some ⟨B1, 0, none⟩)]] w fun e w' => (∃ (A : Option Addr) (c : Nat) (ks : List Int), e = .returned (.slice A ks.length c) ∧ Own w' w.heap.size 3 1 A ks.length c (ks.map (Value.int .i64)) ∧ ∀ k ∈ ks, Maps.has E (.int .i64 k) = true) ∧ New w w' := by
 have hs := hown.size_le
 have hseq : SeqGives Fence.wide 2 Tryz.prog 99 #[.pointer (some ⟨B1, 0, none⟩)] encZ (fun ss => ss.Perm (intKeys E)) (Maps.size E) w :=
  AnyZI.keys_gives (ρ := keysA_ren) { keysA with } Fence.wide _ trivial rfl (by omega) B1 bm n E w (Array.getElem?_eq_some_iff.1 h1).1 (cellOf h1 (k := 0) rfl) hown
 have cS := AnyZI.sorted_in sortedA Fence.wide 5 trivial trivial trivial trivial rfl (by omega) (sortsA _) (enters_of Tryz.func98 (by kernel_rfl) rfl) 99 #[.pointer (some ⟨B1, 0, none⟩)] trivial (enters_of Tryz.func99 (by kernel_rfl) rfl) _ _ (by unfold maxLen; omega) (by omega) _ hseq
 change CallsIn _ _ Tryz.prog 57 _ _ _ at cS
 refine (callsIn_wide.1 cS).mono ?_
 rintro e w' ⟨v, ss, rfl, hp, hrow, _, hb⟩
 refine ⟨?_, ⟨hb.os, hb.tape, hb.output, hb.size, fun k hk _ => hb.block k hk⟩⟩
 have hl : (ss.mergeSort fun x y => decide (x ≤ y)).length = ss.length := List.length_mergeSort ss
 have hv : ∃ A c, v = .slice A ss.length c := by
  rcases hrow.2 with ⟨h0, h2⟩ | ⟨g, cap, cur, h0, _⟩
  ·exact ⟨none, 0, by rw [h0, h2]⟩
  ·exact ⟨_, _, h0⟩
 obtain ⟨A, c, rfl⟩ := hv
 refine ⟨A, c, ss.mergeSort fun x y => decide (x ≤ y), by rw [hl], ?_, fun k hk => mem_intKeys hown Tryz.underlying3 k (perm_intKeys_sort hp k hk)⟩
 rw [hl]
 exact hrow
theorem dirty_any (h : DiskAt w D q S M n wq) (hn : n ≤ 1000000) :
  Calls Tryz.prog 34 #[.pointer (some ⟨q.bd, 0, none⟩)] w fun e w' => (∃ (A : Option Addr) (c : Nat) (ks : List Int), e = .returned (.slice A ks.length c) ∧ Own w' w.heap.size 3 1 A ks.length c (ks.map (Value.int .i64)) ∧ ∀ k ∈ ks, ∃ (i : Nat) (b : List UInt8), k = (i : Int) ∧ M k = some b) ∧ New w w' := by
 have k1 := (New.refl w).alloc (.cells #[.map (some q.bm)] 90)
 have c1 : w.cell? ⟨q.bd, 1, none⟩ = some (.map (some q.bm)) := cellOf h.disk (k := 1) rfl
 obtain ⟨E, hown, hs⟩ := h.dirty
 have HL := Lib.hid (sorted_dirty (hown.alloc (.cells #[.map (some q.bm)] 90)) hn _ (heap_alloc_new w _))
 have HM := Lib.hid (keys_any q.bm w)
 have HS := Lib.hid hs
 clear h hown hs
 go_enter Tryz.func34, Tryz.ntmps34
 go_wp2_with fail
 refine HM.out.mono ?_
 rintro e w1 ⟨rfl, rfl⟩
 go_wp2_with fail
 refine HL.out.mono ?_
 rintro e w2 ⟨⟨A, c, ks, rfl, ho, hk⟩, k2⟩
 have HK := Lib.hid (And.intro ho (And.intro hk k2))
 clear ho hk k2
 go_wp2_with fail
 go_ret
 obtain ⟨ho, hk, k2⟩ := HK.out
 refine ⟨⟨A, c, ks, rfl, ownsRow_base_a ho (by simp), fun k hkk => ?_⟩, k1.new k2⟩
 have h1 := hk k hkk
 rcases hm : M k with _ | b
 ·rw [(HS.out k).1 hm] at h1; cases h1
 ·obtain ⟨_, h0, _⟩ := (HS.out k).2 b hm
  exact ⟨k.toNat, b, by omega, rfl⟩
theorem setRow_same {w : World} {g : Nat} {cur : Array Value} {t : TypeId} (hg : w.heap[g]? = some (.cells cur t (0, 0))) : w.setRow g cur = w := by
 have hh : (w.setRow g cur).heap = w.heap := by
  apply Array.ext_getElem?
  intro i
  by_cases e : i = g
  ·subst e; rw [setRow_block hg, hg]
  ·exact setRow_other w g i cur e
 have h1 : w.setRow g cur = { w with heap := (w.setRow g cur).heap } := rfl
 rw [h1, hh]
theorem run_copy_part {g off : Nat} {L b : List UInt8} {A : Option Addr} (hg : w.heap[g]? = some (.cells (L.map byteVal).toArray 5 (0, 0))) (hB : Bs w D A 128 b) (d dLen dCap cap : Nat) (hd : d ≤ 128) (hl : d ≤ dLen) (hfit : off + 128 ≤ L.length) (ty : TypeId) :
  (Builtin.copy_ #[25, 25] ty #[.slice (some ⟨g, off, none⟩) dLen dCap, .slice A d cap]).run Tryz.prog w = .ok (goInt d) (w.setRow g ((splice L off (b.take d)).map byteVal).toArray) := by
 rcases Nat.eq_zero_or_pos d with rfl | h0
 ·have e : splice L off (b.take 0) = L := by simp [splice]
  rw [e, setRow_same hg]
  have := run_copy_none (P := Tryz.prog) w 25 25 ty 5 (some ⟨g, off, none⟩) A dLen dCap 0 cap Tryz.underlying25 (by obtain ⟨i, hi, _, hz1, _⟩ := info_parts info_u8; rw [hi]; exact congrArg some hz1) (by simp)
  exact this
 ·exact run_copy_bytes hg (Bs.cutTo hB hd) h0 dLen dCap cap hl (by omega) ty
theorem look_held {P : Program} {t k e : TypeId} {bm : Nat} {E : DataW Value} (hown : w.ownsMap P k heldR bm n E) (K : Keyed P k) (ht : P.underlying t = some (.map k e)) {z : Value} (hz : (zeroValue e).run P w = .ok z w) {key : Value} {kl : Lit} (hkey : keyOf P k key = some kl) {v : Value} (hat : ∀ zd, E.atKey kl zd = .held v) :
  (Instr.lookup t (.map (some bm)) key false).run P w = .ok v w := by
 obtain ⟨v', ps, hrun, hv⟩ := hown.lookup K ht hz (zd := .held z) (zp := []) rfl hkey
 rw [hat] at hv
 have : v' = v := by injection hv with hv; injection hv with hv; injection hv
 rw [← this]; exact hrun
set_option maxRecDepth 100000 in
set_option maxHeartbeats 4000000 in
theorem crash_any (h : DiskAt w D q S M n wq) (hn : n ≤ 1000000) (hM : ∀ (i : Nat) b, M i = some b → i * 128 + 128 ≤ S.length) (A : Option Addr) (m c : Nat) (ls : List Bool) (hB : Sl boolElt w (fun b => b ≠ q.bs ∧ b ≠ q.bm) A m ls) (hm : m ≤ 9223372036854775807) (torn cut : Int) :
  Calls Tryz.prog 23 #[.pointer (some ⟨q.bd, 0, none⟩), .slice A m c, .int .i64 torn, .int .i64 cut] w fun e w' => e = .returned (.tuple #[]) ∧ Keep (fun b => b ≠ q.bs ∧ b ≠ q.bm) w w' ∧ ∃ S', Torn S M S' ∧ DiskAt w' D q S' Dirt.no 0 wq := by
 have hne := h.ne
 have hout := h.out
 have hlt := h.lt
 obtain ⟨k, hk, hk0, hk1⟩ := h.size
 have HD := Lib.hid (dirty_any h hn)
 have HH := Lib.hid h
 obtain ⟨E, hown, hs⟩ := h.dirty
 have hdisk := h.disk
 have hsafe := h.safe
 rw [hk] at hdisk
 have HW := Lib.hid hown
 have HS := Lib.hid hs
 have HM := Lib.hid hM
 have HL := Lib.hid hk
 have HO := Lib.hid hout
 have HZ : Hid (∀ b, b = q.bd ∨ b = q.bs ∨ b = q.bm → b < w.heap.size) := Lib.hid hlt
 have HB := Lib.hid hB
 have hml := hB.len
 have HX := Lib.hid (And.intro hdisk hsafe)
 obtain ⟨dd, hdd, hd1⟩ : ∃ dd : Nat, min (max cut 0) 128 = (dd : Int) ∧ dd ≤ 128 := ⟨(min (max cut 0) 128).toNat, by omega, by omega⟩
 clear h hown hs hM hk hout hlt hB hdisk hsafe
 go_enter Tryz.func23, Tryz.ntmps23
 go_wp2_with fail
 refine HD.out.mono ?_
 rintro e w1 ⟨⟨A1, c1, ks, rfl, o1, hks⟩, k1⟩
 have HO1 := Lib.hid o1
 have HKS := Lib.hid hks
 have HK1 := Lib.hid k1
 have hkl : ks.length ≤ 9223372036854775807 := by have := own_cap o1; have := own_capMax o1; omega
 clear o1 hks k1 HD
 go_wp2_with fail
 go_loopw [14] (fun s14 wx => ∃ (j : Nat) (SL : List UInt8), s14 = .int .i64 (j : Int) ∧ j ≤ ks.length ∧ Torn S M SL ∧ Keep (fun b => b ≠ q.bs) w1 wx ∧ wx.heap[q.bs]? = some (.cells (SL.map byteVal).toArray 5 (0, 0)))
  (fun s14 _ => ks.length - (intOf s14).toNat)
 case atStart =>
  obtain ⟨hdisk, hsafe⟩ := HX.out
  exact ⟨0, S, rfl, Nat.zero_le _, Torn.refl S M, Keep.refl _ _, (HK1.out.blockAt hsafe trivial)⟩
 case round =>
  obtain ⟨j, SL, rfl, hj, hT, hK1, hSr⟩ := hrel
  have hK : Keep (fun b => b ≠ q.bs) w wr := (Keep.of_new HK1.out).trans hK1
  have HR := Lib.hid (And.intro hT (And.intro hK hSr))
  have hdr := (hK.block q.bd (HZ.out _ (.inl rfl)) hne.1).trans HX.out.1
  obtain ⟨w9, hrun9, hown9, hk9, hz9⟩ := run_clear Tryz.underlying90 (ownsMap_keep HW.out hK (Ne.symm hne.2.2))
  have c0 : wr.cell? ⟨q.bd, 0, none⟩ = some (.slice (some ⟨q.bs, 0, none⟩) (k * 128) (k * 128)) := by rw [cell_of_row _ _ _ _ _ (0, 0) hdr]; rfl
  have c1 : wr.cell? ⟨q.bd, 1, none⟩ = some (.map (some q.bm)) := by rw [cell_of_row _ _ _ _ _ (0, 0) hdr]; rfl
  by_cases hlt : j < ks.length
  ·have hl2 : (j : Int) < (ks.length : Int) := by omega
   obtain ⟨i, b, hi, hMi⟩ := HKS.out _ (List.getElem_mem hlt)
   rw [hi] at hMi
   obtain ⟨_, hki0, hki1, hbl, Ab, cb, hcb, hcm, hat, hBb⟩ := (HS.out (i : Int)).2 b hMi
   have hfit := HM.out i b hMi
   have hrw := (Row.of_own HO1.out)
   obtain ⟨g, off, hA1, hgb, _, hcell⟩ := hrw.2 (by omega)
   subst hA1
   have cj0 : wr.cell? ⟨g, off + j, none⟩ = some (.int .i64 (i : Int)) := hK1.cell_some (hcell j _ (by rw [List.getElem?_map, List.getElem?_eq_getElem hlt, hi]; rfl)) (fun e => by have := HZ.out q.bs (.inr (.inl rfl)); have e : g = q.bs := e; omega)
   have hlk := look_held (ownsMap_keep HW.out hK (Ne.symm hne.2.2)) keyI Tryz.underlying90 (zero_bytes wr) (keyOfI (wfI (k := (i : Int)) (by omega) (by omega))) hat
   have HA := Lib.hid (at_raw c0 hk1 i (by have := HL.out; omega))
   have hBk : Bs wr D Ab 128 b := hBb.keep hK fun j _ hj e => HO.out j (.inr (.inl e)) hj
   have hTl : SL.length = k * 128 := hT.1.trans HL.out
   obtain ⟨dk, hdk⟩ : ∃ dk : Nat, dk = k * 128 - i * 128 := ⟨_, rfl⟩
   have hcp := run_copy_part (off := i * 128) hSr hBk dd 128 (k * 128 - i * 128) cb hd1 hd1 (by rw [hTl]; have := HL.out; omega)
   have hcp2 := run_copy_part (off := i * 128) hSr hBk 128 128 (k * 128 - i * 128) cb (by decide) (by decide) (by rw [hTl]; have := HL.out; omega)
   have HT1 := Lib.hid (hT.step hMi hbl hd1 hfit)
   have HT2 := Lib.hid (hT.step hMi hbl (Nat.le_refl 128) hfit)
   have HR2 := Lib.hid (And.intro hK1 (And.intro hSr hT))
   have HBK := Lib.hid hBk
   have HMI := Lib.hid hMi
   have HFT : Hid (i * 128 + 128 ≤ SL.length) := Lib.hid (by rw [hTl]; have := HL.out; omega)
   clear hrw hcell hat hBb hBk hT hi hMi hdr hrun9 hown9 hk9 hz9 hK hK1 hSr hfit hTl hdk HR
   by_cases htn : torn = (j : Int)
   ·have htj : ((j : Int) == torn) = true := by rw [htn]; exact beq_self_eq_true _
    clear htn
    clear hcp2
    have hcpd : ∀ ty, (Builtin.copy_ #[25, 25] ty #[.slice (some ⟨q.bs, i * 128, none⟩) 128 (k * 128 - i * 128), .slice Ab dd cb]).run Tryz.prog wr.drew = .ok (goInt dd) (wr.drew.setRow q.bs ((splice SL (i * 128) (b.take dd)).map byteVal).toArray) :=
     run_copy_part (w := wr.drew) (off := i * 128) HR2.out.2.1 HBK.out dd 128 (k * 128 - i * 128) cb hd1 hd1 HFT.out
    have HAD := Lib.hid (at_raw (w := wr.drew) c0 hk1 i (by have := HM.out i b HMI.out; have := HL.out; omega))
    have hdd2 : (if cut < 0 then 0 else cut) = max cut 0 := by split <;> omega
    have hddc : dd ≤ cb := Nat.le_trans hd1 hcb
    clear hcp
    go_wp2_with fail
    refine hold_beginS (Keep (fun b => b ≠ q.bs) wr.drew) (by kernel_rfl) ?_
    have n0 : Keep (fun b => b ≠ q.bs) wr.drew wr.drew := Keep.refl _ _
    refine take0 0 n0 ?_
    refine take0 1 n0 ?_
    refine take0 3 n0 ?_
    refine take0 4 n0 ?_
    refine take0 5 n0 ?_
    refine take0 6 n0 ?_
    refine take0 7 n0 ?_
    refine hold_step0 (i := 2) (by kernel_rfl) rfl rfl (fun K hK => ?_)
    go_simp
    refine HAD.out.mono ?_
    rintro e w' ⟨rfl, rfl⟩
    go_wp2_with fail
    refine hK.out _ _ n0 ?_
    clear hK K
    try simp only [Act.put, ly1, ly2, ly3, ly4, ly5, ly6]
    refine hold_step0 (i := 8) (by kernel_rfl) rfl rfl (fun K hK => ?_)
    have n1 : Keep (fun b => b ≠ q.bs) wr.drew (wr.drew.setRow q.bs ((splice SL (i * 128) (b.take dd)).map byteVal).toArray) := keep_setRow _ _ _
    go_simp
    refine hK.out _ _ n1 ?_
    clear hK K n0
    try simp only [Act.put, ly1, ly2, ly3, ly4, ly5, ly6]
    refine wpAnyH_done (by kernel_rfl) ?_ _
    have HN1 := Lib.hid n1
    clear n1 hcpd
    go_wp2_with fail
    go_roundw
    case rel => exact ⟨j + 1, _, by go_num, hlt, HT1.out, (HR2.out.1.drew).trans HN1.out, setRow_block (w := wr.drew) HR2.out.2.1 _⟩
    case measure => simp [intOf]; omega
   ·have htj : ((j : Int) == torn) = false := beq_eq_false_iff_ne.2 (Ne.symm htn)
    clear hcp
    by_cases hjm : j < m
    ·obtain ⟨bb, ob, us, hA, _, _, e0, _, hcl⟩ := (HB.out.keep ((Keep.of_new HK1.out).trans HR2.out.1) fun b _ hb => hb.1).at_ (k := j) (by omega)
     subst hA
     have cb0 : wr.cell? ⟨bb, ob + j, none⟩ = some (.bool ls[j]) := by simpa [boolElt] using hcl 0 _ e0
     have hjm2 : (j : Int) < (m : Int) := by omega
     clear e0 hcl
     cases hlsj : ls[j] with
     | true =>
      rw [hlsj] at cb0
      go_wp2_with fail
      refine HA.out.mono ?_
      rintro e w' ⟨rfl, rfl⟩
      go_wp2_with fail
      go_roundw
      case rel => exact ⟨j + 1, _, by go_num, hlt, HT2.out, HR2.out.1.trans (keep_setRow _ _ _), setRow_block HR2.out.2.1 _⟩
      case measure => simp [intOf]; omega
     | false =>
      rw [hlsj] at cb0
      go_wp2_with fail
      go_roundw
      case rel => exact ⟨j + 1, SL, by go_num, hlt, HR2.out.2.2, HR2.out.1, HR2.out.2.1⟩
      case measure => simp [intOf]; omega
    ·have hjm2 : ¬ (j : Int) < (m : Int) := by omega
     go_wp2_with fail
     go_roundw
     case rel => exact ⟨j + 1, SL, by go_num, hlt, HR2.out.2.2, HR2.out.1, HR2.out.2.1⟩
     case measure => simp [intOf]; omega
  ·have hl2 : ¬ (j : Int) < (ks.length : Int) := by omega
   have HF := Lib.hid (And.intro hdr (And.intro hk9 (And.intro hown9 (And.intro hT (And.intro hK hSr)))))
   clear hdr hk9 hown9 hT hK hK1 hSr HR
   go_wp2_with fail
   go_end0
   obtain ⟨hdr, hk9, hown9, hT, hK, hSr⟩ := HF.out
   refine ⟨rfl, (hK.imp (E := fun b => b ≠ q.bs ∧ b ≠ q.bm) fun _ _ hd => hd.1).trans2 hk9 fun _ _ hd => hd.2, SL, hT, (hk9.block q.bd (Array.getElem?_eq_some_iff.1 hdr).1 hne.2.1).trans ?_, (hk9.block q.bs (Array.getElem?_eq_some_iff.1 hSr).1 hne.2.2).trans hSr, ⟨_, hown9, shows_no _ _⟩, ⟨k, hT.1.trans HL.out, hk0, hk1⟩, HO.out⟩
   rw [hT.1, HL.out]
   exact hdr
end
end Go.Proofs.YtajnkbfcnmajoaaGreatDoor
/-
  PROVED HERE: what permafrostkeep.Sized answers (as XKeepF has it; under names of its own, for a base that lacks it); conditions: lengths that a slice may have.
-/
namespace Go.Proofs.YtajnkbfcnmajoaaGreatDoor
open Go.RowKit
set_option maxRecDepth 100000 in
theorem cutK_any (A : Option Addr) (n c m : Nat) (bs : List UInt8) (D : Nat → Prop) (w : World) (_hB : Bs w D A n bs) (_hn : n ≤ 9223372036854775807) (hnc : n ≤ c) (hm : m ≤ 9223372036854775807) :
  Calls Tryz.prog 48 #[.slice A n c, .int .i64 m] w fun e w' => e = .returned (.slice A (min n m) c) ∧ w = w' := by
 by_cases hlt : m < n
 ·have e : min n m = m := by omega
  rw [e]
  clear e
  go_enter Tryz.func48, Tryz.ntmps48
  go_wp2
  go_ret
  exact ⟨rfl, rfl⟩
 ·have e : min n m = n := by omega
  rw [e]
  clear e
  go_enter Tryz.func48, Tryz.ntmps48
  go_wp2
  go_ret
  exact ⟨rfl, rfl⟩
theorem Bs.cutMinK {w : World} {D : Nat → Prop} {A : Option Addr} {n : Nat} {bs : List UInt8} (h : Bs w D A n bs) (m : Nat) : Bs w D A (min n m) (bs.take m) := by
 have := Bs.cutTo h (hi := min n m) (by omega)
 rwa [show bs.take (min n m) = bs.take m from by rw [← h.len, Nat.min_comm]; exact List.take_eq_take_min.symm] at this
def sizedK (bs : List UInt8) (m : Nat) : List UInt8 := bs.take m ++ List.replicate (m - bs.length) 0
set_option maxRecDepth 100000 in
set_option maxHeartbeats 1000000 in
theorem sizedK_any (A : Option Addr) (n c m : Nat) (bs : List UInt8) (D : Nat → Prop) (w : World) (hB : Bs w D A n bs) (hn : n ≤ 9223372036854775807) (hnc : n ≤ c) (hm : m ≤ 1099511627776) :
  Calls Tryz.prog 22 #[.slice A n c, .int .i64 m] w fun e w' => (∃ A' c', e = .returned (.slice A' m c') ∧ OwnB w' w.heap.size 5 A' m c' (sizedK bs m)) ∧ New w w' := by
 have hl := hB.len
 have hown0 : OwnB (w.alloc (.cells #[] 5)) w.heap.size 5 (some ⟨w.heap.size, 0, none⟩) 0 0 [] := World.ownsRow_made w #[] 0 (Nat.le_refl _) (by decide) rfl
 have hK0 : New w (w.alloc (.cells #[] 5)) := (New.refl w).alloc _
 have hcut := (Bs.cutMinK hB m).alloc (.cells #[] 5)
 have hbd : 0 + min n m ≤ 140737488355328 := by omega
 have hmin : min n m ≤ m := Nat.min_le_right _ _
 have HS : Hid (min n m + (m - bs.length) = m) := Lib.hid (by omega)
 go_enter Tryz.func22, Tryz.ntmps22
 go_wp2_with fail
 refine (cutK_any A n c m bs D _ (hB.alloc _) hn hnc (by omega)).mono ?_
 rintro e w' ⟨rfl, rfl⟩
 generalize min n m = mn at *
 go_wp2_with (at_builtin; refine app_bytes _ rfl (.tmp 6) (.tmp 9) rfl w.heap.size _ 0 0 [] rfl hown0 D A mn c _ rfl hcut hbd hK0.size ?_; intro A1 c1 w1 hown1 hg1 hbk1)
 have hK1 := new_app0 hK0 hown0 hg1
 rw [Nat.zero_add, List.nil_append] at hown1
 clear hown0 hK0 hg1 hbk1 hcut
 go_loopw [5] (fun s5 wx => ∃ (A : Option Addr) (c k mm : Nat), s5 = .slice A mm c ∧ mm = mn + k ∧ mm ≤ m ∧ OwnB wx w.heap.size 5 A mm c (bs.take m ++ List.replicate k 0) ∧ New w wx) (fun s5 _ => m - sliceLen s5)
 case atStart => exact ⟨_, _, 0, _, rfl, rfl, hmin, by simpa using hown1, hK1⟩
 case round =>
  clear hown1 hK1
  obtain ⟨A2, c2, k, mm, rfl, hmm, hle, hown, hK⟩ := hrel
  have HM := Lib.hid hmm
  clear hmm
  by_cases hlt : mm < m
  ·have hb2 : mm + 1 ≤ 140737488355328 := by omega
   go_wp2_with (at_builtin; refine app_bytes _ rfl (.tmp 15) (.tmp 16) rfl w.heap.size A2 mm c2 _ rfl (hown.alloc _) (fun g => wr.heap.size ≤ g) _ 1 1 [0] rfl (bs_one wr 5 0 _ rfl) hb2 ((hK.alloc _).size) ?_; intro A3 c3 w3 hown3 hg3 hbk3)
   have hK3 := new_app hK hown hg3
   clear hg3 hbk3 hown hK
   go_roundw
   case rel => exact ⟨_, _, k + 1, _, rfl, by have := HM.out; omega, by omega, by rw [List.replicate_succ', ← List.append_assoc]; exact hown3, hK3⟩
   case measure => simp [sliceLen]; omega
  ·obtain rfl : mm = m := by omega
   have hk : k = mm - bs.length := by have h1 := HM.out; have h2 := HS.out; omega
   have HK := Lib.hid hk
   clear hk
   go_wp2_with fail
   go_ret
   exact ⟨⟨_, _, rfl, by unfold sizedK; rw [← HK.out]; exact hown⟩, hK⟩
end Go.Proofs.YtajnkbfcnmajoaaGreatDoor
/-
  PROVED HERE: what an argument's size in bytes tells of its slices; no condition; no program is in sight but for numbers of types.
-/
namespace Go.Proofs.YtajnkbfcnmajoaaGreatDoor
open Go.RowKit Go.Deep
section
variable {H : Type} {enc : TypeId × Value → H} {W : World} {base : Nat} {sp : Nat → Bool} {held : Bool} {fuel : Nat} {x : DataW H × List MemPlace}
theorem slice_weight {P : Program} {t e : TypeId} {A : Option Addr} {n c : Nat} (ht : P.underlying t = some (.slice e)) (h : DataW.trod enc P W base sp held fuel t [.slice A n c] = some x) (hw : ∀ k ∈ x.1.weights P t, k ≤ reachBytes) : n * P.bytesOf e ≤ reachBytes := by
 rcases open_slice ht h with ⟨hc, _⟩ | ⟨a, len, cap, m, nn, D, Pl, hc, _, hl, hm, hmm, hx, _⟩
 ·injection hc with hc
  injection hc with _ h2
  rw [h2]; simp [reachBytes]
 ·injection hc with hc
  injection hc with _ h2
  subst hx
  subst h2
  have := hw ((n + (m - n)) * P.bytesOf e) (by simp [DataW.weights, ht])
  exact Nat.le_trans (Nat.mul_le_mul_right _ (by omega)) this
theorem mem_weightsAll {P : Program} {e : TypeId} {k : Nat} : ∀ {ds : List (DataW H)} {d : DataW H}, d ∈ ds → k ∈ d.weights P e → k ∈ DataW.weightsAll P e ds
 | [], _, h, _ => by cases h
 | d0 :: ds, d, h, hk => by
  unfold DataW.weightsAll
  rw [List.mem_append]
  rcases List.mem_cons.1 h with rfl | h
  ·exact .inl hk
  ·exact .inr (mem_weightsAll h hk)
set_option maxRecDepth 100000 in
theorem asks_small {A : Option Addr} {n c : Nat} {ls : List AskP} (h : DataW.trod enc Tryz.prog W base sp held fuel 54 [.slice A n c] = some x) (hB : Sl askElt W (fun _ => True) A n ls) (hw : ∀ k ∈ x.1.weights Tryz.prog 54, k ≤ reachBytes) :
  ∀ r ∈ ls, r.body.length ≤ 140737488351232 := by
 have hln := hB.len
 rcases open_slice Tryz.underlying54 h with ⟨hc, _⟩ | ⟨a, len, cap, m, nn, D, Pl, hc, _, hl, hm, hmm, hx, hat⟩
 ·injection hc with hc
  injection hc with _ h2
  intro r hr
  have := List.length_pos_of_mem hr
  omega
 ·injection hc with hc
  injection hc with h1 h2
  subst hx
  subst h2
  intro r hr
  obtain ⟨i, hi, rfl⟩ := List.getElem_of_mem hr
  have ce : Tryz.prog.cellsOf 27 = 4 := by kernel_rfl
  have c3 : Tryz.prog.cellsOf 25 = 1 := by kernel_rfl
  have hlm : n ≤ m := by rw [hmm]; split <;> omega
  obtain ⟨cs', h3, h4⟩ := hat i (by omega)
  rw [ce] at h3
  obtain ⟨_, hlen, hcell⟩ := World.cells?_some h3
  obtain ⟨xs, k, hk, hxy, _, hxl, hf⟩ := DataW.trod_struct Tryz.underlying27 h4
  match xs, hxl, cs', hlen with
  | [y0, y1, y2, y3], _, [v0, v1, v2, v3], _ =>
   have g3 := hf 3 _ rfl
   simp [c3] at g3
   have e3 := hcell 3 (by omega)
   rw [add_add] at e3
   obtain ⟨b, off, us, hA, _, _, ⟨Ab, cb, _, _, _, q3, _⟩, _, hcc⟩ := hB.at_ hi
   subst hA
   injection h1 with h1
   subst h1
   have q := hcc 3 _ q3
   rw [Addr.add_lit] at e3
   have hv : v3 = .slice Ab ls[i].body.length cb := by
    have e3' : W.cell? ⟨b, off + (i * 4 + 3), none⟩ = some v3 := e3
    rw [← Nat.add_assoc] at e3'
    have := e3'.symm.trans q
    injection this
   subst hv
   have hs := slice_weight Tryz.underlying25 g3 fun k hk2 => hw k (by
    unfold DataW.weights
    rw [Tryz.underlying54]
    refine List.mem_cons_of_mem _ (List.mem_append_left _ (mem_weightsAll (d := D i) (List.mem_map.2 ⟨i, List.mem_range.2 (by omega), rfl⟩) ?_))
    have hD : D i = .agg ([y0, y1, y2, y3].map (·.1)) := congrArg Prod.fst hxy
    rw [hD]
    unfold DataW.weights
    rw [Tryz.underlying27]
    simp [DataW.weightsEach, hk2])
   have hb : Tryz.prog.bytesOf 5 = 1 := by kernel_rfl
   rw [hb, Nat.mul_one] at hs
   exact hs
end
end Go.Proofs.YtajnkbfcnmajoaaGreatDoor
/-
  PROVED HERE: what a claim over a base without them asks for beside it (XRow has the same: never build both); each says its own conditions.
-/
namespace Go.Proofs.YtajnkbfcnmajoaaGreatDoor
open Go.ChangeShapes Go.WideShapes Go.ChangeAt Go.RowKit Go.Joins Go.Deep
theorem laid_out : laidOutB Tryz.prog = true := by kernel_rfl
theorem own_knob : ownKnob Tryz.prog.godebug = none := by kernel_rfl
section
variable {H : Type} {enc : TypeId × Value → H} {P : Program} {W W' : World}
theorem trodAll_stays (hl : laidOutB P = true) {sp' : Nat → Bool} : ∀ {ts : List TypeId} {vs : List Value} {ds : List (DataW H)} {ps : List MemPlace}, (ts.all fun t => P.readableRec t && decide (t < P.types.size)) = true →
  DataW.TrodAll enc P W 0 (fun _ => true) true ts vs ds ps → (∀ p ∈ ps, W.sameAt W' p) → (∀ p ∈ ps, sp' p.block = true) → DataW.TrodAll enc P W' 0 sp' true ts vs ds ps
 | [], [], [], _, _, h, _, _ => h
 | t :: ts, v :: vs, d :: ds, ps, hr, h, hs, hp => by
  obtain ⟨p, q, h1, h2, rfl⟩ := h
  simp only [List.all_cons, Bool.and_eq_true, decide_eq_true_eq] at hr
  refine ⟨p, q, WideElems.Trod_stays hl hr.1.1 hr.1.2 h1 (fun x hx => hs x (by simp [hx])) (fun x hx => hp x (by simp [hx])), trodAll_stays hl (by simpa using hr.2) h2 (fun x hx => hs x (by simp [hx])) (fun x hx => hp x (by simp [hx])), rfl⟩
theorem post_of_below {f : Func} {s : ChangeSpec} {apart fresh handsOn again : Bool} {args : Array Value} {v : Value} {ds gs : List (DataW H)} {before pa pv : List MemPlace}
  (hW : DataW.Whole enc P f.params.toList s.vars apart W args.toList ds gs before)
  (hres : ∀ (b : Nat) (sp : Nat → Bool) (hd : Bool), DataW.TrodAll enc P W' b sp hd f.resultTypes.toList (v.resultList f.resultTypes.size) (s.fn H (ds ++ gs)).results [])
  (hargs : ∀ sp : Nat → Bool, (∀ p ∈ before, sp p.block = true) → DataW.TrodAll enc P W' 0 sp true f.params.toList args.toList (s.fn H (ds ++ gs)).args pa)
  (hvars : ∀ sp : Nat → Bool, (∀ p ∈ before, sp p.block = true) → DataW.TrodVars enc P W' sp s.vars (s.fn H (ds ++ gs)).vars pv)
  (hps : before = pa ++ pv) (hb : Below W.heap.size W W')
  (hok : ∀ (j : Nat) (t : TypeId) (r : Value), f.resultTypes[j]? = some t → (v.resultList f.resultTypes.size)[j]? = some r → Value.okWide P W' .any 0 t r) :
  s.post enc P f apart fresh handsOn again W args v W' := by
 have hlt : ∀ p ∈ before, p.block < W.heap.size := fun p hp => hW.lt p hp
 have hold : ∀ p ∈ before, (fun b => decide (b < W.heap.size)) p.block = true := fun p hp => by simpa using hlt p hp
 refine ⟨ds, gs, before, [], pa, pv, hW, hres _ _ _, hargs _ hold, hvars _ hold, World.keptBut_mono (fun p hp => ⟨hp, ?_⟩) (hb.frame (· ∈ before)), fun _ => ?_⟩
 ·rw [hps, List.mem_append] at hp
  exact Or.inr hp
 ·obtain ⟨_, _, _, _, _, hz, hn⟩ := hW
  refine ⟨hok, _, _, ([] ++ pa) ++ pv, ⟨[] ++ pa, pv, trodAll_append (hargs _ (fun _ _ => rfl)) (hres _ _ _), hvars _ (fun _ _ => rfl), rfl, ?_, ?_⟩, ?_⟩
  ·intro b off hp
   have hin : MemPlace.cell b off ∈ before := by rw [hps]; simpa using hp
   rw [hb.frozen (hlt _ hin)]
   exact hz b off hin
  ·intro ha
   have := hn ha
   rw [hps] at this
   simpa using this
  ·intro p hp _
   rw [hps]
   simpa using hp
theorem law_post {f : Func} {s : ChangeSpec} {apart fresh handsOn again : Bool} {args : Array Value} {tb : TypeId} {ds gs : List (DataW H)} {before : List MemPlace}
  (hl : laidOutB P = true) (hts : (f.params.toList.all fun t => P.readableRec t && decide (t < P.types.size)) = true) (hv : s.vars = []) (hrt : f.resultTypes = #[tb]) (htb : P.underlying tb = some .bool)
  (hW : DataW.Whole enc P f.params.toList s.vars apart W args.toList ds gs before)
  (hr : (s.fn H (ds ++ gs)).results = [.lit (.bool true)]) (ha : (s.fn H (ds ++ gs)).args = ds) (hva : (s.fn H (ds ++ gs)).vars = []) (hN : New W W') :
  s.post enc P f apart fresh handsOn again W args (.bool true) W' := by
 have hW' := hW
 obtain ⟨p, q, hA, hV, rfl, hfz, hnd⟩ := hW
 rw [hv] at hV
 have hq : gs = [] ∧ q = [] := by
  cases gs with
  | nil => exact ⟨rfl, hV⟩
  | cons _ _ => exact hV.elim
 obtain ⟨rfl, rfl⟩ := hq
 have hb : Below W.heap.size W W' := hN.below
 refine post_of_below (pa := p) (pv := []) hW' (fun _ _ _ => ?_) (fun sp hsp => ?_) (fun _ _ => ?_) rfl hb ?_
 ·rw [hr, hrt]; exact trodAll_cons_mk (shut_bool htb _) trodAll_mk0
 ·rw [ha]; exact trodAll_stays hl hts hA (fun x hx => hb.same (hW'.lt x (by simp [hx]))) (fun x hx => hsp x (by simp [hx]))
 ·rw [hva, hv]; rfl
 ·exact ok_one hrt rfl (okWide_bool_mk htb _)
end
end Go.Proofs.YtajnkbfcnmajoaaGreatDoor
