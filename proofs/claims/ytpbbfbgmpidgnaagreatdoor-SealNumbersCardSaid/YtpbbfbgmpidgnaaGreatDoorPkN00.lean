/-
  PROVED HERE: texts that belong together, one behind the other; what each proves, and under which conditions, its own opening remark says: Hold5, ImgsPart, Numbers, ClaimNumbers.
-/
import Derived.Test.YtpbbfbgmpidgnaaGreatDoorPkW25
import Derived.Test.YtpbbfbgmpidgnaaGreatDoorPkW32
import Derived.Test.YtpbbfbgmpidgnaaGreatDoorPkW33
import Derived.Test.YtpbbfbgmpidgnaaGreatDoorPkW34
/-
  PROVED HERE: a law for a region in which several operations may come up in any order: an induction over the sets of those that have; no condition; no program is named.
-/
namespace Go.Proofs.YtpbbfbgmpidgnaaGreatDoor
open Go.RowKit

section
variable {P : Program} {ops : Array Oper} {Q : Exit → Act → World → Prop} {md : Region.Mode} {S : World → Prop} {σ : Type}
/-- several operations that may come up in any order: the states say which have; 'G': what may come up now. -/
theorem held_masks {F : Nat} (lst : σ → Array Bool) (G : σ → Nat → Prop) (nx : σ → Nat → σ) (left : σ → Nat) (ok : σ → Prop) (I : σ → Act → World → Prop)
    (h0 : ∀ m a w, ok m → left m = 0 → I m a w → wpAnyH P md ops Q S F (lst m) a w)
    (h1 : ∀ m, ok m → 0 < left m → Region.ready md ops (lst m) ≠ [] ∧ ∀ i ∈ Region.ready md ops (lst m), G m i ∧ ok (nx m i) ∧ left (nx m i) + 1 = left m ∧ (lst m).setIfInBounds i true = lst (nx m i))
    (h2 : ∀ m i a w, G m i → I m a w → ∀ K : Act → World → Prop, Hid (∀ a' w', S w' → I (nx m i) a' w' → K a' w') → wpOp P ops Q i K a w) :
    ∀ (k : Nat) (m : σ) (a : Act) (w : World), ok m → left m = k → I m a w → wpAnyH P md ops Q S (F + k) (lst m) a w
  | 0, m, a, w, hm, hl, hI => h0 m a w hm hl hI
  | k + 1, m, a, w, hm, hl, hI => by
    obtain ⟨hne, hall⟩ := h1 m hm (by omega)
    refine ⟨fun h => absurd h hne, fun i hi => ?_⟩
    obtain ⟨hg, hok, hll, hst⟩ := hall i hi
    refine h2 m i a w hg hI _ (Lib.hid fun a' w' hS hI' => ⟨hS, ?_⟩)
    rw [hst]
    exact held_masks lst G nx left ok I h0 h1 h2 k (nx m i) a' w' hok (by omega) hI'
/-- one operation that is wanted. -/
theorem wpOp_wanted {i : Nat} {o : Oper} {a : Act} {w : World} {K : Act → World → Prop} (ho : ops[i]? = some o) (hw : Region.wanted o (yielded ops a.tmps) = true) (h : Oper.wp P o a w K Q) : wpOp P ops Q i K a w := by
  unfold wpOp
  simp only [ho, hw, if_true]
  exact .inl h
end
/-- number i waits for number j. -/
def waits (md : Region.Mode) (ops : Array Oper) (i j : Nat) : Bool := (ops[i]?).any fun o => o.after.any fun e => Region.binds md e && e.on == j
/-- number i waits for none beyond L. -/
def only (md : Region.Mode) (ops : Array Oper) (i : Nat) (L : List Nat) : Bool := (ops[i]?).any fun o => o.after.all fun e => !Region.binds md e || L.contains e.on
theorem ready_waits {md : Region.Mode} {ops : Array Oper} {listed : Array Bool} {i j : Nat} (h : i ∈ Region.ready md ops listed) (hw : waits md ops i j = true) : listed.getD j false = true := by
  obtain ⟨_, o, ho, hall⟩ := mem_ready.1 h
  unfold waits at hw
  rw [ho] at hw
  simp only [Option.any_some, Array.any_eq_true', Bool.and_eq_true, beq_iff_eq] at hw
  obtain ⟨e, he, hb, rfl⟩ := hw
  exact hall e he hb
theorem ready_only {md : Region.Mode} {ops : Array Oper} {listed : Array Bool} {i : Nat} {L : List Nat} (hu : listed.getD i true = false) (ho : only md ops i L = true) (hL : ∀ j ∈ L, listed.getD j false = true) : i ∈ Region.ready md ops listed := by
  unfold only at ho
  cases h : ops[i]? with
  | none => rw [h] at ho; cases ho
  | some o =>
    rw [h] at ho
    simp only [Option.any_some, Array.all_eq_true', Bool.or_eq_true, Bool.not_eq_true', List.contains_iff_mem] at ho
    refine mem_ready.2 ⟨hu, o, h, fun e he hb => ?_⟩
    rcases ho e he with h1 | h1
    · rw [hb] at h1; cases h1
    · exact hL _ h1
end Go.Proofs.YtpbbfbgmpidgnaaGreatDoor
/-
  PROVED HERE: parts of a slice of images, and slices of images whose images are not named; no condition.
-/
namespace Go.Proofs.YtpbbfbgmpidgnaaGreatDoor
open Go.RowKit

theorem imgs_someP {w : World} {D : Nat → Prop} {A : Option Addr} {m : Nat} {vs : List Value} (hr : Row w D A m 1 vs) (h : ∀ i, i < m → ∃ b, ImgAt w D vs i b) : ∃ ls, Imgs w D A m ls := by
  have hc : ∃ f : Nat → List UInt8, ∀ i, i < m → ImgAt w D vs i (f i) := by
    refine ⟨fun i => if hi : i < m then Classical.choose (h i hi) else [], fun i hi => ?_⟩
    dsimp only
    rw [dif_pos hi]
    exact Classical.choose_spec (h i hi)
  obtain ⟨f, hf⟩ := hc
  refine ⟨(List.range m).map f, vs, hr, by simp, fun k hk => ?_⟩
  have hk' : k < m := by simpa using hk
  have hg : ((List.range m).map f)[k] = f k := by simp
  rw [hg]
  exact hf k hk'
theorem high_rowP {w : World} {D : Nat → Prop} {O A' : Option Addr} {k kk : Nat} {us : List Value} (h : Row w D O k 1 us) (hk : kk < k) (hA : k - (kk + 1) = 0 ∨ A' = Option.map (fun x => { block := x.block, off := x.off + (kk + 1) }) O) : Row w D A' (k - (kk + 1)) 1 (us.drop (kk + 1)) := by
  refine ⟨by rw [List.length_drop, h.1]; omega, fun hn => ?_⟩
  obtain ⟨b, off, rfl, hd, hlt, hc⟩ := h.2 (by omega)
  rcases hA with h0 | rfl
  · omega
  · refine ⟨b, off + (kk + 1), rfl, hd, hlt, fun j u hu => ?_⟩
    rw [List.getElem?_drop] at hu
    rw [Nat.add_assoc]
    exact hc _ u hu
theorem imgAt_takeP {w : World} {D : Nat → Prop} {us : List Value} {i m : Nat} {b : List UInt8} (h : ImgAt w D us i b) (hi : i < m) : ImgAt w D (us.take m) i b := by
  obtain ⟨A', c', e, r⟩ := h
  exact ⟨A', c', by rw [List.getElem?_take, if_pos hi]; exact e, r⟩
theorem imgAt_dropP {w : World} {D : Nat → Prop} {us : List Value} {i l : Nat} {b : List UInt8} (h : ImgAt w D us (l + i) b) : ImgAt w D (us.drop l) i b := by
  obtain ⟨A', c', e, r⟩ := h
  exact ⟨A', c', by rw [List.getElem?_drop]; exact e, r⟩
end Go.Proofs.YtpbbfbgmpidgnaaGreatDoor
/-
  PROVED HERE: the law SealNumbers answers true; no condition.
-/
namespace Go.Proofs.YtpbbfbgmpidgnaaGreatDoor
open Go.RowKit

theorem bs_cells {w : World} {g : Nat} {t : TypeId} {C : Array Value} (bs : List UInt8) (hC : C.toList = bs.map byteVal) (h : w.heap[g]? = some (.cells C t (0, 0))) : Bs w (fun _ => True) (some ⟨g, 0, none⟩) bs.length bs := by
  refine ⟨by simp, fun _ => ⟨g, 0, rfl, trivial, (Array.getElem?_eq_some_iff.1 h).1, fun k u hu => ?_⟩⟩
  rw [cell_of_row _ _ _ _ _ (0, 0) h]
  rw [← hC] at hu
  simpa using hu
/-- a slice of bytes, whichever. -/
def IsB (w : World) (v : Value) : Prop := ∃ A c b, v = .slice A b.length c ∧ b.length ≤ c ∧ c ≤ 9223372036854775807 ∧ Bs w (fun _ => True) A b.length b
/-- a slice of images, whichever. -/
def IsL (w : World) (v : Value) : Prop := ∃ A n c ls, v = .slice A n c ∧ Imgs w (fun _ => True) A n ls ∧ n ≤ 12
theorem IsB.new {w w' : World} {v : Value} (h : IsB w v) (k : New w w') : IsB w' v := by
  obtain ⟨A, c, b, h1, h2, h3, h4⟩ := h
  exact ⟨A, c, b, h1, h2, h3, Row.new h4 k⟩
theorem IsL.new {w w' : World} {v : Value} (h : IsL w v) (k : New w w') : IsL w' v := by
  obtain ⟨A, n, c, ls, h1, h2, h3⟩ := h
  exact ⟨A, n, c, ls, h1, Imgs.new h2 k, h3⟩
theorem IsB.nil (w : World) : IsB w (.slice none 0 0) := ⟨none, 0, [], rfl, Nat.le_refl _, by decide, Row.nil _ _ _ _⟩
theorem IsL.nil (w : World) : IsL w (.slice none 0 0) := ⟨none, 0, 0, [], rfl, Imgs.none _, by decide⟩
theorem IsB.row {w : World} {A : Option Addr} {c : Nat} {b : List UInt8} {n : Nat} (hn : b.length = n) (hc : n ≤ c) (hc9 : c ≤ 9223372036854775807) {D : Nat → Prop} (h : Bs w D A n b) : IsB w (.slice A n c) := by
  subst hn
  exact ⟨A, c, b, rfl, hc, hc9, h.imp fun _ _ _ => trivial⟩
/-- a slice of images that is laid at once. -/
theorem IsL.made {w : World} (t : TypeId) (vs : List Value) (hn : vs.length ≤ 12) (h : ∀ v ∈ vs, IsB w v) : IsL (w.alloc (.cells vs.toArray t)) (.slice (some ⟨w.heap.size, 0, none⟩) vs.length vs.length) := by
  have kk := (New.refl w).alloc (.cells vs.toArray t)
  have hr := Row.made w t vs.toArray vs.length 1 (by simp)
  obtain ⟨ls, hl⟩ := imgs_someP (D := fun _ => True) (hr.imp fun _ _ _ => trivial) (fun i hi => by
    obtain ⟨A, c, b, h1, h2, h3, h4⟩ := (h vs[i] (List.getElem_mem hi)).new kk
    exact ⟨b, A, c, by rw [← h1]; simp [List.getElem?_eq_getElem hi], h2, h3, h4⟩)
  exact ⟨_, _, _, ls, rfl, hl, hn⟩
theorem IsL.drew {w : World} {v : Value} (h : IsL w v) : IsL w.drew v := h.new ((New.refl w).drew)
theorem IsL.of {w : World} {D : Nat → Prop} {A : Option Addr} {n c : Nat} {us : List Value} (hn : n ≤ 12) (hr : Row w D A n 1 us) (h : ∀ i, i < n → ∃ b, ImgAt w D us i b) : IsL w (.slice A n c) := by
  obtain ⟨ls, hl⟩ := imgs_someP (D := fun _ => True) (hr.imp fun _ _ _ => trivial) (fun i hi => by
    obtain ⟨b, h1⟩ := h i hi
    exact ⟨b, h1.imp fun _ _ _ => trivial⟩)
  exact ⟨A, n, c, ls, rfl, hl, hn⟩
theorem raw_nil {w : World} : ∀ k (hk : k < ([[], [], [], []] : List (List (List UInt8))).length), ∃ A c, ([.slice none 0 0, .slice none 0 0, .slice none 0 0, .slice none 0 0] : List Value)[k]? = some (.slice A (([[], [], [], []] : List (List (List UInt8)))[k]).length c) ∧ (([[], [], [], []] : List (List (List UInt8)))[k]).length ≤ c ∧ c ≤ 9223372036854775807 ∧ Imgs w (fun _ => True) A (([[], [], [], []] : List (List (List UInt8)))[k]).length (([[], [], [], []] : List (List (List UInt8)))[k]) := by
  intro k hk
  have hk4 : k = 0 ∨ k = 1 ∨ k = 2 ∨ k = 3 := by simp at hk; omega
  rcases hk4 with rfl | rfl | rfl | rfl
  all_goals exact ⟨none, 0, rfl, Nat.le_refl _, by decide, Imgs.none _⟩
def zeroCells : Array Value := madeCells #[.int .u8 0] (1024 * 1)
theorem zeroCells_list : zeroCells.toList = (List.replicate 1024 (0 : UInt8)).map byteVal := by unfold zeroCells; rw [toList_madeCells_one, List.map_replicate]; rfl
theorem zeroCells_size : zeroCells.size = 1024 * 1 := by unfold zeroCells; rw [size_madeCells]
theorem make_zeros (w : World) : (Instr.makeSlice 22 (.int .i64 1024) (.int .i64 1024)).run Tryz.prog w = .ok (.slice (some ⟨w.heap.size, 0, none⟩) 1024 1024) (w.alloc (.cells zeroCells 5)) := by
  obtain ⟨i, hi, hz0, hz1, hz2⟩ := info_parts info_u8
  have h := run_makeSlice (P := Tryz.prog) w 22 5 i (.int .u8 0) Tryz.underlying22 hi hz0 .i64 .i64 1024 1024 (by decide) (by decide) (by rw [hz1]; decide) (by rw [hz2]; decide) (by decide)
  rw [hz1] at h
  exact h
/-- which makings have come up. -/
abbrev B8 := Bool × Bool × Bool × Bool × Bool × Bool × Bool × Bool
def lstN (m : B8) : Array Bool := #[true, true, true, true, true, true, true, true, true, true, true, m.1, true, true, true, true, true, true, m.2.1, true, true, true, true, true, true, m.2.2.1, true, true, true, true, true, true, m.2.2.2.1, true, m.2.2.2.2.1, true, true, true, m.2.2.2.2.2.1, true, true, true, m.2.2.2.2.2.2.1, m.2.2.2.2.2.2.2, false, false, true]
def nxN (m : B8) (i : Nat) : B8 := if i = 11 then (true, m.2.1, m.2.2.1, m.2.2.2.1, m.2.2.2.2.1, m.2.2.2.2.2.1, m.2.2.2.2.2.2.1, m.2.2.2.2.2.2.2) else if i = 18 then (m.1, true, m.2.2.1, m.2.2.2.1, m.2.2.2.2.1, m.2.2.2.2.2.1, m.2.2.2.2.2.2.1, m.2.2.2.2.2.2.2) else if i = 25 then (m.1, m.2.1, true, m.2.2.2.1, m.2.2.2.2.1, m.2.2.2.2.2.1, m.2.2.2.2.2.2.1, m.2.2.2.2.2.2.2) else if i = 32 then (m.1, m.2.1, m.2.2.1, true, m.2.2.2.2.1, m.2.2.2.2.2.1, m.2.2.2.2.2.2.1, m.2.2.2.2.2.2.2) else if i = 34 then (m.1, m.2.1, m.2.2.1, m.2.2.2.1, true, m.2.2.2.2.2.1, m.2.2.2.2.2.2.1, m.2.2.2.2.2.2.2) else if i = 38 then (m.1, m.2.1, m.2.2.1, m.2.2.2.1, m.2.2.2.2.1, true, m.2.2.2.2.2.2.1, m.2.2.2.2.2.2.2) else if i = 42 then (m.1, m.2.1, m.2.2.1, m.2.2.2.1, m.2.2.2.2.1, m.2.2.2.2.2.1, true, m.2.2.2.2.2.2.2) else if i = 43 then (m.1, m.2.1, m.2.2.1, m.2.2.2.1, m.2.2.2.2.1, m.2.2.2.2.2.1, m.2.2.2.2.2.2.1, true) else m
def leftN (m : B8) : Nat := cond m.1 0 1 + cond m.2.1 0 1 + cond m.2.2.1 0 1 + cond m.2.2.2.1 0 1 + cond m.2.2.2.2.1 0 1 + cond m.2.2.2.2.2.1 0 1 + cond m.2.2.2.2.2.2.1 0 1 + cond m.2.2.2.2.2.2.2 0 1
def okN (m : B8) : Bool := m.2.2.2.2.2.2.1 || !m.2.2.2.2.2.2.2
def goodN (m : B8) (i : Nat) : Prop := (i = 11 ∧ m.1 = false) ∨ (i = 18 ∧ m.2.1 = false) ∨ (i = 25 ∧ m.2.2.1 = false) ∨ (i = 32 ∧ m.2.2.2.1 = false) ∨ (i = 34 ∧ m.2.2.2.2.1 = false) ∨ (i = 38 ∧ m.2.2.2.2.2.1 = false) ∨ (i = 42 ∧ m.2.2.2.2.2.2.1 = false) ∨ (i = 43 ∧ m.2.2.2.2.2.2.2 = false ∧ m.2.2.2.2.2.2.1 = true)
theorem unl_at (m : B8) : ∀ i, (lstN m).getD i true = false → ((i = 11 ∧ m.1 = false) ∨ (i = 18 ∧ m.2.1 = false) ∨ (i = 25 ∧ m.2.2.1 = false) ∨ (i = 32 ∧ m.2.2.2.1 = false) ∨ (i = 34 ∧ m.2.2.2.2.1 = false) ∨ (i = 38 ∧ m.2.2.2.2.2.1 = false) ∨ (i = 42 ∧ m.2.2.2.2.2.2.1 = false) ∨ (i = 43 ∧ m.2.2.2.2.2.2.2 = false)) ∨ i = 44 ∨ i = 45
  | 0, h => Bool.noConfusion (show true = false from h)
  | 1, h => Bool.noConfusion (show true = false from h)
  | 2, h => Bool.noConfusion (show true = false from h)
  | 3, h => Bool.noConfusion (show true = false from h)
  | 4, h => Bool.noConfusion (show true = false from h)
  | 5, h => Bool.noConfusion (show true = false from h)
  | 6, h => Bool.noConfusion (show true = false from h)
  | 7, h => Bool.noConfusion (show true = false from h)
  | 8, h => Bool.noConfusion (show true = false from h)
  | 9, h => Bool.noConfusion (show true = false from h)
  | 10, h => Bool.noConfusion (show true = false from h)
  | 11, h => .inl (.inl ⟨rfl, h⟩)
  | 12, h => Bool.noConfusion (show true = false from h)
  | 13, h => Bool.noConfusion (show true = false from h)
  | 14, h => Bool.noConfusion (show true = false from h)
  | 15, h => Bool.noConfusion (show true = false from h)
  | 16, h => Bool.noConfusion (show true = false from h)
  | 17, h => Bool.noConfusion (show true = false from h)
  | 18, h => .inl (.inr (.inl ⟨rfl, h⟩))
  | 19, h => Bool.noConfusion (show true = false from h)
  | 20, h => Bool.noConfusion (show true = false from h)
  | 21, h => Bool.noConfusion (show true = false from h)
  | 22, h => Bool.noConfusion (show true = false from h)
  | 23, h => Bool.noConfusion (show true = false from h)
  | 24, h => Bool.noConfusion (show true = false from h)
  | 25, h => .inl (.inr (.inr (.inl ⟨rfl, h⟩)))
  | 26, h => Bool.noConfusion (show true = false from h)
  | 27, h => Bool.noConfusion (show true = false from h)
  | 28, h => Bool.noConfusion (show true = false from h)
  | 29, h => Bool.noConfusion (show true = false from h)
  | 30, h => Bool.noConfusion (show true = false from h)
  | 31, h => Bool.noConfusion (show true = false from h)
  | 32, h => .inl (.inr (.inr (.inr (.inl ⟨rfl, h⟩))))
  | 33, h => Bool.noConfusion (show true = false from h)
  | 34, h => .inl (.inr (.inr (.inr (.inr (.inl ⟨rfl, h⟩)))))
  | 35, h => Bool.noConfusion (show true = false from h)
  | 36, h => Bool.noConfusion (show true = false from h)
  | 37, h => Bool.noConfusion (show true = false from h)
  | 38, h => .inl (.inr (.inr (.inr (.inr (.inr (.inl ⟨rfl, h⟩))))))
  | 39, h => Bool.noConfusion (show true = false from h)
  | 40, h => Bool.noConfusion (show true = false from h)
  | 41, h => Bool.noConfusion (show true = false from h)
  | 42, h => .inl (.inr (.inr (.inr (.inr (.inr (.inr (.inl ⟨rfl, h⟩)))))))
  | 43, h => .inl (.inr (.inr (.inr (.inr (.inr (.inr (.inr (⟨rfl, h⟩))))))))
  | 44, _ => .inr (.inl rfl)
  | 45, _ => .inr (.inr rfl)
  | 46, h => Bool.noConfusion (show true = false from h)
  | n + 47, h => by
    have : (lstN m).getD (n + 47) true = true := by simp [lstN, Array.getD]; intro h; omega
    rw [this] at h
    cases h
def readsN : List Nat := [0, 1, 2, 3, 4, 5, 6, 7, 8, 9, 10, 12, 13, 14, 15, 16, 17, 19, 20, 21, 22, 23, 24, 26, 27, 28, 29, 30, 31, 33, 35, 36, 37, 39, 40, 41, 46]
theorem reads_on (m : B8) : ∀ j ∈ readsN, (lstN m).getD j false = true := by
  unfold readsN
  simp only [List.forall_mem_cons]
  exact ⟨rfl, rfl, rfl, rfl, rfl, rfl, rfl, rfl, rfl, rfl, rfl, rfl, rfl, rfl, rfl, rfl, rfl, rfl, rfl, rfl, rfl, rfl, rfl, rfl, rfl, rfl, rfl, rfl, rfl, rfl, rfl, rfl, rfl, rfl, rfl, rfl, rfl, by simp⟩
def chkN (md : Region.Mode) (ops : Array Oper) : Bool := ([11, 18, 25, 32, 34, 38, 43] : List Nat).all (fun j => waits md ops 44 j) && waits md ops 45 44 && waits md ops 43 42 && ([11, 18, 25, 32, 34, 38, 42] : List Nat).all (fun i => only md ops i readsN) && only md ops 43 (42 :: readsN)
theorem cond_on : ∀ {b : Bool}, cond b 0 1 = 0 → b = true
  | true, _ => rfl
  | false, h => by simp at h
theorem all_on {b0 b1 b2 b3 b4 b5 b6 b7 : Bool} (h : leftN (b0, b1, b2, b3, b4, b5, b6, b7) = 0) : b0 = true ∧ b1 = true ∧ b2 = true ∧ b3 = true ∧ b4 = true ∧ b5 = true ∧ b6 = true ∧ b7 = true := by
  unfold leftN at h
  dsimp only at h
  exact ⟨cond_on (by omega), cond_on (by omega), cond_on (by omega), cond_on (by omega), cond_on (by omega), cond_on (by omega), cond_on (by omega), cond_on (by omega)⟩
theorem masks_h1 {md : Region.Mode} {ops : Array Oper} (hc : chkN md ops = true) (m : B8) (hok : okN m = true) (hl : 0 < leftN m) :
    Region.ready md ops (lstN m) ≠ [] ∧ ∀ i ∈ Region.ready md ops (lstN m), goodN m i ∧ okN (nxN m i) = true ∧ leftN (nxN m i) + 1 = leftN m ∧ (lstN m).setIfInBounds i true = lstN (nxN m i) := by
  unfold chkN at hc
  simp only [Bool.and_eq_true, List.all_eq_true] at hc
  obtain ⟨⟨⟨⟨w44, w45⟩, w43⟩, o7⟩, o43⟩ := hc
  refine ⟨fun he => ?_, fun i hi => ?_⟩
  · have hno : ∀ i, i ∉ Region.ready md ops (lstN m) := fun i h => by rw [he] at h; cases h
    have h0 : m.1 = true := by
      cases h : m.1
      · exact absurd (ready_only (listed := lstN m) (i := 11) h (o7 11 (by simp)) (reads_on m)) (hno 11)
      · rfl
    have h1 : m.2.1 = true := by
      cases h : m.2.1
      · exact absurd (ready_only (listed := lstN m) (i := 18) h (o7 18 (by simp)) (reads_on m)) (hno 18)
      · rfl
    have h2 : m.2.2.1 = true := by
      cases h : m.2.2.1
      · exact absurd (ready_only (listed := lstN m) (i := 25) h (o7 25 (by simp)) (reads_on m)) (hno 25)
      · rfl
    have h3 : m.2.2.2.1 = true := by
      cases h : m.2.2.2.1
      · exact absurd (ready_only (listed := lstN m) (i := 32) h (o7 32 (by simp)) (reads_on m)) (hno 32)
      · rfl
    have h4 : m.2.2.2.2.1 = true := by
      cases h : m.2.2.2.2.1
      · exact absurd (ready_only (listed := lstN m) (i := 34) h (o7 34 (by simp)) (reads_on m)) (hno 34)
      · rfl
    have h5 : m.2.2.2.2.2.1 = true := by
      cases h : m.2.2.2.2.2.1
      · exact absurd (ready_only (listed := lstN m) (i := 38) h (o7 38 (by simp)) (reads_on m)) (hno 38)
      · rfl
    have h6 : m.2.2.2.2.2.2.1 = true := by
      cases h : m.2.2.2.2.2.2.1
      · exact absurd (ready_only (listed := lstN m) (i := 42) h (o7 42 (by simp)) (reads_on m)) (hno 42)
      · rfl
    have h7 : m.2.2.2.2.2.2.2 = true := by
      cases h : m.2.2.2.2.2.2.2
      · refine absurd (ready_only (listed := lstN m) (i := 43) h o43 fun j hj => ?_) (hno 43)
        rcases List.mem_cons.1 hj with rfl | hj
        · exact h6
        · exact reads_on m j hj
      · rfl
    obtain ⟨b0, b1, b2, b3, b4, b5, b6, b7⟩ := m
    dsimp only at h0 h1 h2 h3 h4 h5 h6 h7
    subst h0 h1 h2 h3 h4 h5 h6 h7
    exact absurd hl (by decide)
  · have hu := (mem_ready.1 hi).1
    have hg : goodN m i := by
      rcases unl_at m i hu with h | rfl | rfl
      · rcases h with h | h | h | h | h | h | h | ⟨rfl, h⟩
        · exact .inl h
        · exact .inr (.inl h)
        · exact .inr (.inr (.inl h))
        · exact .inr (.inr (.inr (.inl h)))
        · exact .inr (.inr (.inr (.inr (.inl h))))
        · exact .inr (.inr (.inr (.inr (.inr (.inl h)))))
        · exact .inr (.inr (.inr (.inr (.inr (.inr (.inl h))))))
        · exact .inr (.inr (.inr (.inr (.inr (.inr (.inr ⟨rfl, h, ready_waits hi w43⟩))))))
      · have hj := fun j hj => ready_waits hi (w44 j hj)
        obtain ⟨b0, b1, b2, b3, b4, b5, b6, b7⟩ := m
        have q0 : b0 = true := hj 11 (by simp)
        have q1 : b1 = true := hj 18 (by simp)
        have q2 : b2 = true := hj 25 (by simp)
        have q3 : b3 = true := hj 32 (by simp)
        have q4 : b4 = true := hj 34 (by simp)
        have q5 : b5 = true := hj 38 (by simp)
        have q7 : b7 = true := hj 43 (by simp)
        subst q7
        have q6 : b6 = true := by simpa [okN] using hok
        subst q0 q1 q2 q3 q4 q5 q6
        exact absurd hl (by decide)
      · exact Bool.noConfusion (show false = true from ready_waits hi w45)
    refine ⟨hg, ?_⟩
    clear hu hi w44 w45 w43 o7 o43 hl
    obtain ⟨b0, b1, b2, b3, b4, b5, b6, b7⟩ := m
    rcases hg with ⟨rfl, h⟩ | ⟨rfl, h⟩ | ⟨rfl, h⟩ | ⟨rfl, h⟩ | ⟨rfl, h⟩ | ⟨rfl, h⟩ | ⟨rfl, h⟩ | ⟨rfl, h, h6⟩
    · dsimp only at h
      subst h
      refine ⟨hok, ?_, rfl⟩
      · show leftN (true, b1, b2, b3, b4, b5, b6, b7) + 1 = leftN (false, b1, b2, b3, b4, b5, b6, b7)
        unfold leftN
        dsimp only [cond]
        omega
    · dsimp only at h
      subst h
      refine ⟨hok, ?_, rfl⟩
      · show leftN (b0, true, b2, b3, b4, b5, b6, b7) + 1 = leftN (b0, false, b2, b3, b4, b5, b6, b7)
        unfold leftN
        dsimp only [cond]
        omega
    · dsimp only at h
      subst h
      refine ⟨hok, ?_, rfl⟩
      · show leftN (b0, b1, true, b3, b4, b5, b6, b7) + 1 = leftN (b0, b1, false, b3, b4, b5, b6, b7)
        unfold leftN
        dsimp only [cond]
        omega
    · dsimp only at h
      subst h
      refine ⟨hok, ?_, rfl⟩
      · show leftN (b0, b1, b2, true, b4, b5, b6, b7) + 1 = leftN (b0, b1, b2, false, b4, b5, b6, b7)
        unfold leftN
        dsimp only [cond]
        omega
    · dsimp only at h
      subst h
      refine ⟨hok, ?_, rfl⟩
      · show leftN (b0, b1, b2, b3, true, b5, b6, b7) + 1 = leftN (b0, b1, b2, b3, false, b5, b6, b7)
        unfold leftN
        dsimp only [cond]
        omega
    · dsimp only at h
      subst h
      refine ⟨hok, ?_, rfl⟩
      · show leftN (b0, b1, b2, b3, b4, true, b6, b7) + 1 = leftN (b0, b1, b2, b3, b4, false, b6, b7)
        unfold leftN
        dsimp only [cond]
        omega
    · dsimp only at h
      subst h
      refine ⟨?_, ?_, rfl⟩
      · rfl
      · show leftN (b0, b1, b2, b3, b4, b5, true, b7) + 1 = leftN (b0, b1, b2, b3, b4, b5, false, b7)
        unfold leftN
        dsimp only [cond]
        omega
    · dsimp only at h
      subst h
      refine ⟨?_, ?_, rfl⟩
      · dsimp only at h6
        subst h6
        rfl
      · show leftN (b0, b1, b2, b3, b4, b5, b6, true) + 1 = leftN (b0, b1, b2, b3, b4, b5, b6, false)
        unfold leftN
        dsimp only [cond]
set_option maxRecDepth 100000 in
set_option maxHeartbeats 4000000 in
theorem numbers_any (w : World) : Calls Tryz.prog 3 #[] w fun e w' => e = .returned (.bool true) ∧ New w w' := by
  obtain ⟨w0, e0, k0, l0⟩ := conv_mark 16 16 (heap_alloc_new w (.cells #[.int .u8 48, .int .u8 49, .int .u8 50, .int .u8 51, .int .u8 52, .int .u8 53, .int .u8 54, .int .u8 55, .int .u8 56, .int .u8 57, .int .u8 97, .int .u8 98, .int .u8 99, .int .u8 100, .int .u8 101, .int .u8 102] 5))
  have b0 : Bs w0 (fun _ => True) (some ⟨w.heap.size, 0, none⟩) 16 [48, 49, 50, 51, 52, 53, 54, 55, 56, 57, 97, 98, 99, 100, 101, 102] := Row.like (bs_cells [48, 49, 50, 51, 52, 53, 54, 55, 56, 57, 97, 98, 99, 100, 101, 102] (by simp [byteVal, bv]) (heap_alloc_new w (.cells #[.int .u8 48, .int .u8 49, .int .u8 50, .int .u8 51, .int .u8 52, .int .u8 53, .int .u8 54, .int .u8 55, .int .u8 56, .int .u8 57, .int .u8 97, .int .u8 98, .int .u8 99, .int .u8 100, .int .u8 101, .int .u8 102] 5))) l0
  have n00 : New w w0 := keep_off ((New.refl w).alloc (.cells #[.int .u8 48, .int .u8 49, .int .u8 50, .int .u8 51, .int .u8 52, .int .u8 53, .int .u8 54, .int .u8 55, .int .u8 56, .int .u8 57, .int .u8 97, .int .u8 98, .int .u8 99, .int .u8 100, .int .u8 101, .int .u8 102] 5)) k0 (Nat.le_refl _)
  have kr0 : New w0 (w0.alloc (.cells #[.slice none 0 0, .slice none 0 0, .slice none 0 0, .slice none 0 0] 105)) := (New.refl w0).alloc _
  have hr0 : Raws8 (w0.alloc (.cells #[.slice none 0 0, .slice none 0 0, .slice none 0 0, .slice none 0 0] 105)) (fun _ => True) (some ⟨w0.heap.size, 0, none⟩) 4 [[], [], [], []] := ⟨_, (Row.made w0 _ _ 4 1 rfl).imp fun _ _ _ => trivial, rfl, fun k hk => raw_nil k hk⟩
  have HC1 : Hid (Calls Tryz.prog 14 #[.slice (some ⟨w.heap.size, 0, none⟩) 16 16, .slice (some ⟨w0.heap.size, 0, none⟩) 4 4] (w0.alloc (.cells #[.slice none 0 0, .slice none 0 0, .slice none 0 0, .slice none 0 0] 105)) (ChainRet (chainTo [48, 49, 50, 51, 52, 53, 54, 55, 56, 57, 97, 98, 99, 100, 101, 102] [[], [], [], []] 4) (w0.alloc (.cells #[.slice none 0 0, .slice none 0 0, .slice none 0 0, .slice none 0 0] 105)))) := Lib.hid (chain_any _ (fun _ => True) _ _ 16 16 4 4 _ _ _ (Row.new b0 kr0) (by decide) hr0 (by decide))
  have HOK := Lib.hid (chain_ok [48, 49, 50, 51, 52, 53, 54, 55, 56, 57, 97, 98, 99, 100, 101, 102] [[], [], [], []] 4 (by decide))
  have HB0 := Lib.hid (Row.new b0 kr0)
  have HN0 := Lib.hid (n00.new kr0)
  clear hr0 l0 k0 b0 n00 kr0
  generalize ([48, 49, 50, 51, 52, 53, 54, 55, 56, 57, 97, 98, 99, 100, 101, 102] : List UInt8) = i0 at *
  generalize chainTo i0 [[], [], [], []] 4 = s at *
  obtain ⟨im, hs, rs, pv, nx⟩ := s
  have hil := HOK.out.images
  have hsz := HOK.out.sizes
  dsimp only at hil hsz
  clear HOK
  have mkr : ∀ W, (Instr.makeSlice 27 (.int .i64 4) (.int .i64 4)).run Tryz.prog W = .ok (.slice (some ⟨W.heap.size, 0, none⟩) 4 4) (W.alloc (.cells #[.slice none 0 0, .slice none 0 0, .slice none 0 0, .slice none 0 0] 105)) := fun _ => by kernel_rfl
  go_enter Tryz.func3, Tryz.ntmps3
  go_wp2_with fail
  refine HC1.out.mono ?_
  rintro e w1 ⟨⟨O, oc, R, rc, rfl, hch⟩, hK1⟩
  dsimp only at hch ⊢
  rw [hil] at hch ⊢
  have hO := hch.imgs
  have HN1 := Lib.hid (HN0.out.new hK1)
  have HB1 := Lib.hid (Row.new HB0.out hK1)
  clear hch hK1 HN0 HB0 HC1 e0
  generalize w0.alloc (.cells #[.slice none 0 0, .slice none 0 0, .slice none 0 0, .slice none 0 0] 105) = w00 at *
  obtain ⟨us, uo, ul, ui⟩ := hO
  obtain ⟨g, cp, hA, hg, hgl⟩ := uo.form (by decide)
  injection hA with hA _ hcp
  subst hA
  subst hcp
  have hoc := own_cap uo
  have HU := Lib.hid (Row.of_own uo)
  have HI := Lib.hid (fun i (h : i < 4) => show ∃ b, b.length = 1024 ∧ ImgAt w1 (fun _ => True) us i b from ⟨im[i]'(by omega), hsz _ (List.getElem_mem _), (ui i (by omega)).imp fun _ _ _ => trivial⟩)
  have HUC := Lib.hid (fun i v (e : us[i]? = some v) => show w1.cell? ⟨g, i, none⟩ = some v from by simpa [Addr.add_lit] using uo.cells (g := g) rfl i v e)
  clear uo ul ui hil hsz hg
  -- another one
  obtain ⟨w2, e2, k2, l2⟩ := conv_mark 7 7 (heap_alloc_new w1 (.cells #[.int .u8 97, .int .u8 110, .int .u8 111, .int .u8 116, .int .u8 104, .int .u8 101, .int .u8 114] 5))
  have b2 : Bs w2 (fun _ => True) (some ⟨w1.heap.size, 0, none⟩) 7 [97, 110, 111, 116, 104, 101, 114] := Row.like (bs_cells [97, 110, 111, 116, 104, 101, 114] (by simp [byteVal, bv]) (heap_alloc_new w1 (.cells #[.int .u8 97, .int .u8 110, .int .u8 111, .int .u8 116, .int .u8 104, .int .u8 101, .int .u8 114] 5))) l2
  have n12 : New w1 w2 := keep_off ((New.refl w1).alloc (.cells #[.int .u8 97, .int .u8 110, .int .u8 111, .int .u8 116, .int .u8 104, .int .u8 101, .int .u8 114] 5)) k2 (Nat.le_refl _)
  have kr2 : New w2 (w2.alloc (.cells #[.slice none 0 0, .slice none 0 0, .slice none 0 0, .slice none 0 0] 105)) := (New.refl w2).alloc _
  have hr2 : Raws8 (w2.alloc (.cells #[.slice none 0 0, .slice none 0 0, .slice none 0 0, .slice none 0 0] 105)) (fun _ => True) (some ⟨w2.heap.size, 0, none⟩) 4 [[], [], [], []] := ⟨_, (Row.made w2 _ _ 4 1 rfl).imp fun _ _ _ => trivial, rfl, fun k hk => raw_nil k hk⟩
  have HC2 : Hid (Calls Tryz.prog 14 #[.slice (some ⟨w1.heap.size, 0, none⟩) 7 7, .slice (some ⟨w2.heap.size, 0, none⟩) 4 4] (w2.alloc (.cells #[.slice none 0 0, .slice none 0 0, .slice none 0 0, .slice none 0 0] 105)) (ChainRet (chainTo [97, 110, 111, 116, 104, 101, 114] [[], [], [], []] 4) (w2.alloc (.cells #[.slice none 0 0, .slice none 0 0, .slice none 0 0, .slice none 0 0] 105)))) := Lib.hid (chain_any _ (fun _ => True) _ _ 7 7 4 4 _ _ _ (Row.new b2 kr2) (by decide) hr2 (by decide))
  have HOK := Lib.hid (chain_ok [97, 110, 111, 116, 104, 101, 114] [[], [], [], []] 4 (by decide))
  have HN2 := Lib.hid (n12.new kr2)
  clear hr2 l2 k2 b2 n12 kr2
  generalize chainTo [97, 110, 111, 116, 104, 101, 114] [[], [], [], []] 4 = s2 at *
  obtain ⟨im2, hs2, rs2, pv2, nx2⟩ := s2
  have hil := HOK.out.images
  have hsz := HOK.out.sizes
  dsimp only at hil hsz
  clear HOK
  go_wp2_with fail
  refine HC2.out.mono ?_
  rintro e w3 ⟨⟨O2, oc2, R2, rc2, rfl, hch⟩, hK3⟩
  dsimp only at hch ⊢
  rw [hil] at hch ⊢
  have hO := hch.imgs
  have HN3 := Lib.hid (HN2.out.new hK3)
  clear hch hK3 HN2 HC2 e2
  generalize w2.alloc (.cells #[.slice none 0 0, .slice none 0 0, .slice none 0 0, .slice none 0 0] 105) = w22 at *
  obtain ⟨us2, uo, ul, ui⟩ := hO
  obtain ⟨g2, cp2, hA, hg, hgl2⟩ := uo.form (by decide)
  injection hA with hA _ hcp
  subst hA
  subst hcp
  have hoc2 := own_cap uo
  have HU2 := Lib.hid (Row.of_own uo)
  have HI2 := Lib.hid (fun i (h : i < 4) => show ∃ b, b.length = 1024 ∧ ImgAt w3 (fun _ => True) us2 i b from ⟨im2[i]'(by omega), hsz _ (List.getElem_mem _), (ui i (by omega)).imp fun _ _ _ => trivial⟩)
  have HUC2 := Lib.hid (fun i v (e : us2[i]? = some v) => show w3.cell? ⟨g2, i, none⟩ = some v from by simpa [Addr.add_lit] using uo.cells (g := g2) rfl i v e)
  clear uo ul ui hil hsz hg
  -- the images that are read
  obtain ⟨x0, xl0, X0, xc0, xe0, xh0, xk0, xb0⟩ := HI.out 0 (by decide)
  obtain ⟨x1, xl1, X1, xc1, xe1, xh1, xk1, xb1⟩ := HI.out 1 (by decide)
  obtain ⟨x2, xl2, X2, xc2, xe2, xh2, xk2, xb2⟩ := HI.out 2 (by decide)
  obtain ⟨y1, yl1, Y1, yc1, ye1, yh1, yk1, yb1⟩ := HI2.out 1 (by decide)
  rw [xl0] at xe0 xh0 xb0
  rw [xl1] at xe1 xh1 xb1
  rw [xl2] at xe2 xh2 xb2
  rw [yl1] at ye1 yh1 yb1
  have r0 : ∀ W, New w3.drew W → W.cell? ⟨g, 0, none⟩ = some (.slice X0 1024 xc0) := fun W q => q.cell_some (a := w3.drew) (HN3.out.cell_some (HUC.out 0 _ xe0) trivial) trivial
  have r1 : ∀ W, New w3.drew W → W.cell? ⟨g, 1, none⟩ = some (.slice X1 1024 xc1) := fun W q => q.cell_some (a := w3.drew) (HN3.out.cell_some (HUC.out 1 _ xe1) trivial) trivial
  have r2 : ∀ W, New w3.drew W → W.cell? ⟨g, 2, none⟩ = some (.slice X2 1024 xc2) := fun W q => q.cell_some (a := w3.drew) (HN3.out.cell_some (HUC.out 2 _ xe2) trivial) trivial
  have r3 : ∀ W, New w3.drew W → W.cell? ⟨g2, 1, none⟩ = some (.slice Y1 1024 yc1) := fun W q => q.cell_some (a := w3.drew) (HUC2.out 1 _ ye1) trivial
  have V0 := Lib.hid (fun W (q : New w3.drew W) => IsB.row xl0 xh0 xk0 (Row.new (w := w3.drew) (Row.drew (Row.new xb0 HN3.out)) q))
  have V1 := Lib.hid (fun W (q : New w3.drew W) => IsB.row xl1 xh1 xk1 (Row.new (w := w3.drew) (Row.drew (Row.new xb1 HN3.out)) q))
  have V2 := Lib.hid (fun W (q : New w3.drew W) => IsB.row xl2 xh2 xk2 (Row.new (w := w3.drew) (Row.drew (Row.new xb2 HN3.out)) q))
  have V3 := Lib.hid (fun W (q : New w3.drew W) => IsB.row yl1 yh1 yk1 (Row.new (w := w3.drew) (Row.drew yb1) q))
  have M1 : Hid (IsL w1 (.slice (some ⟨g, 0, none⟩) 4 oc)) := Lib.hid (IsL.of (by decide) (HU.out.imp fun _ _ _ => trivial) fun i hi => let ⟨b, _, h⟩ := HI.out i hi; ⟨b, h⟩)
  have M2 : Hid (IsL w1 (.slice (some ⟨g, 0, none⟩) 1 oc)) := Lib.hid (IsL.of (by decide) (Row.cutTo (HU.out.imp fun _ _ _ => trivial) (hi := 1) (by decide)) fun i hi => let ⟨b, _, h⟩ := HI.out i (by omega); ⟨b, imgAt_takeP h (by omega)⟩)
  have M3 : Hid (IsL w1 (.slice (some ⟨g, 1, none⟩) 3 (oc - 1))) := Lib.hid (IsL.of (by decide) (high_rowP (kk := 0) (HU.out.imp fun _ _ _ => trivial) (by decide) (.inr rfl)) fun i hi => let ⟨b, _, h⟩ := HI.out (0 + 1 + i) (by omega); ⟨b, imgAt_dropP h⟩)
  have M8 : Hid (IsL w3 (.slice (some ⟨g2, 0, none⟩) 4 oc2)) := Lib.hid (IsL.of (by decide) (HU2.out.imp fun _ _ _ => trivial) fun i hi => let ⟨b, _, h⟩ := HI2.out i hi; ⟨b, h⟩)
  have hz := make_zeros
  clear mkr
  have hoc1 : ¬ oc = 1 := by omega
  have hoc3 : (1 : Int) ≤ (oc : Int) := by omega
  clear xe0 xe1 xe2 ye1 xb0 xb1 xb2 yb1 xl0 xl1 xl2 yl1 HI HI2 HUC HUC2 HU HU2
  go_wp2_with fail
  refine hold_beginS (New w3.drew) (by kernel_rfl) ?_
  have n0 : New w3.drew w3.drew := New.refl _
  refine hold_read0 (i := 0) (v := ?_) n0 rfl (by kernel_rfl) (by kernel_rfl) (by kernel_rfl) (fun _ _ _ h => h) rfl ?_ ?_
  rotate_left
  · intro w' hN
    go_simp
    try with_reducible rfl
  simp only [Act.put, List.getElem_toArray, List.getElem_cons_zero, List.setIfInBounds_toArray, List.set_cons_zero, List.set_cons_succ]
  refine hold_read0 (i := 1) (v := ?_) n0 rfl (by kernel_rfl) (by kernel_rfl) (by kernel_rfl) (fun _ _ _ h => h) rfl ?_ ?_
  rotate_left
  · intro w' hN
    go_simp
    try with_reducible rfl
  simp only [Act.put, List.getElem_toArray, List.getElem_cons_succ, List.getElem_cons_zero, List.setIfInBounds_toArray, List.set_cons_zero, List.set_cons_succ]
  refine hold_read0 (i := 2) (v := ?_) n0 rfl (by kernel_rfl) (by kernel_rfl) (by kernel_rfl) (fun _ _ _ h => h) rfl ?_ ?_
  rotate_left
  · intro w' hN
    go_simp
    try with_reducible rfl
  simp only [Act.put, List.getElem_toArray, List.getElem_cons_succ, List.getElem_cons_zero, List.setIfInBounds_toArray, List.set_cons_zero, List.set_cons_succ]
  refine hold_read0 (i := 3) (v := ?_) n0 rfl (by kernel_rfl) (by kernel_rfl) (by kernel_rfl) (fun _ _ _ h => h) rfl ?_ ?_
  rotate_left
  · intro w' hN
    go_simp
    try with_reducible rfl
  simp only [Act.put, List.getElem_toArray, List.getElem_cons_succ, List.getElem_cons_zero, List.setIfInBounds_toArray, List.set_cons_zero, List.set_cons_succ]
  refine hold_read0 (i := 4) (v := ?_) n0 rfl (by kernel_rfl) (by kernel_rfl) (by kernel_rfl) (fun _ _ _ h => h) rfl ?_ ?_
  rotate_left
  · intro w' hN
    go_simp
    try with_reducible rfl
  simp only [Act.put, List.getElem_toArray, List.getElem_cons_succ, List.getElem_cons_zero, List.setIfInBounds_toArray, List.set_cons_zero, List.set_cons_succ]
  refine hold_read0 (i := 5) (v := ?_) n0 rfl (by kernel_rfl) (by kernel_rfl) (by kernel_rfl) (fun _ _ _ h => h) rfl ?_ ?_
  rotate_left
  · intro w' hN
    go_simp
    try with_reducible rfl
  simp only [Act.put, List.getElem_toArray, List.getElem_cons_succ, List.getElem_cons_zero, List.setIfInBounds_toArray, List.set_cons_zero, List.set_cons_succ]
  refine hold_read0 (i := 6) (v := ?_) n0 rfl (by kernel_rfl) (by kernel_rfl) (by kernel_rfl) (fun _ _ _ h => h) rfl ?_ ?_
  rotate_left
  · intro w' hN
    go_simp
    try with_reducible rfl
  simp only [Act.put, List.getElem_toArray, List.getElem_cons_succ, List.getElem_cons_zero, List.setIfInBounds_toArray, List.set_cons_zero, List.set_cons_succ]
  refine hold_read0 (i := 7) (v := ?_) n0 rfl (by kernel_rfl) (by kernel_rfl) (by kernel_rfl) (fun _ _ _ h => h) rfl ?_ ?_
  rotate_left
  · intro w' hN
    go_simp
    try with_reducible rfl
  simp only [Act.put, List.getElem_toArray, List.getElem_cons_succ, List.getElem_cons_zero, List.setIfInBounds_toArray, List.set_cons_zero, List.set_cons_succ]
  refine hold_read0 (i := 8) (v := ?_) n0 rfl (by kernel_rfl) (by kernel_rfl) (by kernel_rfl) (fun _ _ _ h => h) rfl ?_ ?_
  rotate_left
  · intro w' hN
    go_simp
    try with_reducible rfl
  simp only [Act.put, List.getElem_toArray, List.getElem_cons_succ, List.getElem_cons_zero, List.setIfInBounds_toArray, List.set_cons_zero, List.set_cons_succ]
  refine hold_read0 (i := 9) (v := ?_) n0 rfl (by kernel_rfl) (by kernel_rfl) (by kernel_rfl) (fun _ _ _ h => h) rfl ?_ ?_
  rotate_left
  · intro w' hN
    go_simp
    try with_reducible rfl
  simp only [Act.put, List.getElem_toArray, List.getElem_cons_succ, List.getElem_cons_zero, List.setIfInBounds_toArray, List.set_cons_zero, List.set_cons_succ]
  refine hold_read0 (i := 10) (v := ?_) n0 rfl (by kernel_rfl) (by kernel_rfl) (by kernel_rfl) (fun _ _ _ h => h) rfl ?_ ?_
  rotate_left
  · intro w' hN
    go_simp
    try with_reducible rfl
  simp only [Act.put, List.getElem_toArray, List.getElem_cons_succ, List.getElem_cons_zero, List.setIfInBounds_toArray, List.set_cons_zero, List.set_cons_succ]
  refine hold_read0 (i := 12) (v := ?_) n0 rfl (by kernel_rfl) (by kernel_rfl) (by kernel_rfl) (fun _ _ _ h => h) rfl ?_ ?_
  rotate_left
  · intro w' hN
    go_simp
    try with_reducible rfl
  simp only [Act.put, List.getElem_toArray, List.getElem_cons_succ, List.getElem_cons_zero, List.setIfInBounds_toArray, List.set_cons_zero, List.set_cons_succ]
  refine hold_read0 (i := 13) (v := ?_) n0 rfl (by kernel_rfl) (by kernel_rfl) (by kernel_rfl) (fun _ _ _ h => h) rfl ?_ ?_
  rotate_left
  · intro w' hN
    go_simp
    try with_reducible rfl
  simp only [Act.put, List.getElem_toArray, List.getElem_cons_succ, List.getElem_cons_zero, List.setIfInBounds_toArray, List.set_cons_zero, List.set_cons_succ]
  refine hold_read0 (i := 14) (v := ?_) n0 rfl (by kernel_rfl) (by kernel_rfl) (by kernel_rfl) (fun _ _ _ h => h) rfl ?_ ?_
  rotate_left
  · intro w' hN
    go_simp
    try with_reducible rfl
  simp only [Act.put, List.getElem_toArray, List.getElem_cons_succ, List.getElem_cons_zero, List.setIfInBounds_toArray, List.set_cons_zero, List.set_cons_succ]
  refine hold_read0 (i := 15) (v := ?_) n0 rfl (by kernel_rfl) (by kernel_rfl) (by kernel_rfl) (fun _ _ _ h => h) rfl ?_ ?_
  rotate_left
  · intro w' hN
    go_simp
    try with_reducible rfl
  simp only [Act.put, List.getElem_toArray, List.getElem_cons_succ, List.getElem_cons_zero, List.setIfInBounds_toArray, List.set_cons_zero, List.set_cons_succ]
  refine hold_read0 (i := 16) (v := ?_) n0 rfl (by kernel_rfl) (by kernel_rfl) (by kernel_rfl) (fun _ _ _ h => h) rfl ?_ ?_
  rotate_left
  · intro w' hN
    go_simp
    try with_reducible rfl
  simp only [Act.put, List.getElem_toArray, List.getElem_cons_succ, List.getElem_cons_zero, List.setIfInBounds_toArray, List.set_cons_zero, List.set_cons_succ]
  refine hold_read0 (i := 17) (v := ?_) n0 rfl (by kernel_rfl) (by kernel_rfl) (by kernel_rfl) (fun _ _ _ h => h) rfl ?_ ?_
  rotate_left
  · intro w' hN
    go_simp
    try with_reducible rfl
  simp only [Act.put, List.getElem_toArray, List.getElem_cons_succ, List.getElem_cons_zero, List.setIfInBounds_toArray, List.set_cons_zero, List.set_cons_succ]
  refine hold_read0 (i := 19) (v := ?_) n0 rfl (by kernel_rfl) (by kernel_rfl) (by kernel_rfl) (fun _ _ _ h => h) rfl ?_ ?_
  rotate_left
  · intro w' hN
    go_simp
    try with_reducible rfl
  simp only [Act.put, List.getElem_toArray, List.getElem_cons_succ, List.getElem_cons_zero, List.setIfInBounds_toArray, List.set_cons_zero, List.set_cons_succ]
  refine hold_read0 (i := 20) (v := ?_) n0 rfl (by kernel_rfl) (by kernel_rfl) (by kernel_rfl) (fun _ _ _ h => h) rfl ?_ ?_
  rotate_left
  · intro w' hN
    go_simp
    try with_reducible rfl
  simp only [Act.put, List.getElem_toArray, List.getElem_cons_succ, List.getElem_cons_zero, List.setIfInBounds_toArray, List.set_cons_zero, List.set_cons_succ]
  refine hold_read0 (i := 21) (v := ?_) n0 rfl (by kernel_rfl) (by kernel_rfl) (by kernel_rfl) (fun _ _ _ h => h) rfl ?_ ?_
  rotate_left
  · intro w' hN
    go_simp
    try with_reducible rfl
  simp only [Act.put, List.getElem_toArray, List.getElem_cons_succ, List.getElem_cons_zero, List.setIfInBounds_toArray, List.set_cons_zero, List.set_cons_succ]
  refine hold_read0 (i := 22) (v := ?_) n0 rfl (by kernel_rfl) (by kernel_rfl) (by kernel_rfl) (fun _ _ _ h => h) rfl ?_ ?_
  rotate_left
  · intro w' hN
    go_simp
    try with_reducible rfl
  simp only [Act.put, List.getElem_toArray, List.getElem_cons_succ, List.getElem_cons_zero, List.setIfInBounds_toArray, List.set_cons_zero, List.set_cons_succ]
  refine hold_read0 (i := 23) (v := ?_) n0 rfl (by kernel_rfl) (by kernel_rfl) (by kernel_rfl) (fun _ _ _ h => h) rfl ?_ ?_
  rotate_left
  · intro w' hN
    go_simp
    try with_reducible rfl
  simp only [Act.put, List.getElem_toArray, List.getElem_cons_succ, List.getElem_cons_zero, List.setIfInBounds_toArray, List.set_cons_zero, List.set_cons_succ]
  refine hold_read0 (i := 24) (v := ?_) n0 rfl (by kernel_rfl) (by kernel_rfl) (by kernel_rfl) (fun _ _ _ h => h) rfl ?_ ?_
  rotate_left
  · intro w' hN
    go_simp
    try with_reducible rfl
  simp only [Act.put, List.getElem_toArray, List.getElem_cons_succ, List.getElem_cons_zero, List.setIfInBounds_toArray, List.set_cons_zero, List.set_cons_succ]
  refine hold_read0 (i := 26) (v := ?_) n0 rfl (by kernel_rfl) (by kernel_rfl) (by kernel_rfl) (fun _ _ _ h => h) rfl ?_ ?_
  rotate_left
  · intro w' hN
    go_simp
    try with_reducible rfl
  simp only [Act.put, List.getElem_toArray, List.getElem_cons_succ, List.getElem_cons_zero, List.setIfInBounds_toArray, List.set_cons_zero, List.set_cons_succ]
  refine hold_read0 (i := 27) (v := ?_) n0 rfl (by kernel_rfl) (by kernel_rfl) (by kernel_rfl) (fun _ _ _ h => h) rfl ?_ ?_
  rotate_left
  · intro w' hN
    go_simp
    try with_reducible rfl
  simp only [Act.put, List.getElem_toArray, List.getElem_cons_succ, List.getElem_cons_zero, List.setIfInBounds_toArray, List.set_cons_zero, List.set_cons_succ]
  refine hold_read0 (i := 28) (v := ?_) n0 rfl (by kernel_rfl) (by kernel_rfl) (by kernel_rfl) (fun _ _ _ h => h) rfl ?_ ?_
  rotate_left
  · intro w' hN
    go_simp
    try with_reducible rfl
  simp only [Act.put, List.getElem_toArray, List.getElem_cons_succ, List.getElem_cons_zero, List.setIfInBounds_toArray, List.set_cons_zero, List.set_cons_succ]
  refine hold_read0 (i := 29) (v := ?_) n0 rfl (by kernel_rfl) (by kernel_rfl) (by kernel_rfl) (fun _ _ _ h => h) rfl ?_ ?_
  rotate_left
  · intro w' hN
    go_simp
    try with_reducible rfl
  simp only [Act.put, List.getElem_toArray, List.getElem_cons_succ, List.getElem_cons_zero, List.setIfInBounds_toArray, List.set_cons_zero, List.set_cons_succ]
  refine hold_read0 (i := 30) (v := ?_) n0 rfl (by kernel_rfl) (by kernel_rfl) (by kernel_rfl) (fun _ _ _ h => h) rfl ?_ ?_
  rotate_left
  · intro w' hN
    go_simp
    try with_reducible rfl
  simp only [Act.put, List.getElem_toArray, List.getElem_cons_succ, List.getElem_cons_zero, List.setIfInBounds_toArray, List.set_cons_zero, List.set_cons_succ]
  refine hold_read0 (i := 31) (v := ?_) n0 rfl (by kernel_rfl) (by kernel_rfl) (by kernel_rfl) (fun _ _ _ h => h) rfl ?_ ?_
  rotate_left
  · intro w' hN
    go_simp
    try with_reducible rfl
  simp only [Act.put, List.getElem_toArray, List.getElem_cons_succ, List.getElem_cons_zero, List.setIfInBounds_toArray, List.set_cons_zero, List.set_cons_succ]
  refine hold_read0 (i := 33) (v := ?_) n0 rfl (by kernel_rfl) (by kernel_rfl) (by kernel_rfl) (fun _ _ _ h => h) rfl ?_ ?_
  rotate_left
  · intro w' hN
    go_simp
    try with_reducible rfl
  simp only [Act.put, List.getElem_toArray, List.getElem_cons_succ, List.getElem_cons_zero, List.setIfInBounds_toArray, List.set_cons_zero, List.set_cons_succ]
  refine hold_read0 (i := 35) (v := ?_) n0 rfl (by kernel_rfl) (by kernel_rfl) (by kernel_rfl) (fun _ _ _ h => h) rfl ?_ ?_
  rotate_left
  · intro w' hN
    go_simp
    try with_reducible rfl
  simp only [Act.put, List.getElem_toArray, List.getElem_cons_succ, List.getElem_cons_zero, List.setIfInBounds_toArray, List.set_cons_zero, List.set_cons_succ]
  refine hold_read0 (i := 36) (v := ?_) n0 rfl (by kernel_rfl) (by kernel_rfl) (by kernel_rfl) (fun _ _ _ h => h) rfl ?_ ?_
  rotate_left
  · intro w' hN
    go_simp
    try with_reducible rfl
  simp only [Act.put, List.getElem_toArray, List.getElem_cons_succ, List.getElem_cons_zero, List.setIfInBounds_toArray, List.set_cons_zero, List.set_cons_succ]
  refine hold_read0 (i := 37) (v := ?_) n0 rfl (by kernel_rfl) (by kernel_rfl) (by kernel_rfl) (fun _ _ _ h => h) rfl ?_ ?_
  rotate_left
  · intro w' hN
    go_simp
    try with_reducible rfl
  simp only [Act.put, List.getElem_toArray, List.getElem_cons_succ, List.getElem_cons_zero, List.setIfInBounds_toArray, List.set_cons_zero, List.set_cons_succ]
  refine hold_read0 (i := 39) (v := ?_) n0 rfl (by kernel_rfl) (by kernel_rfl) (by kernel_rfl) (fun _ _ _ h => h) rfl ?_ ?_
  rotate_left
  · intro w' hN
    go_simp
    try with_reducible rfl
  simp only [Act.put, List.getElem_toArray, List.getElem_cons_succ, List.getElem_cons_zero, List.setIfInBounds_toArray, List.set_cons_zero, List.set_cons_succ]
  refine hold_read0 (i := 40) (v := ?_) n0 rfl (by kernel_rfl) (by kernel_rfl) (by kernel_rfl) (fun _ _ _ h => h) rfl ?_ ?_
  rotate_left
  · intro w' hN
    go_simp
    try with_reducible rfl
  simp only [Act.put, List.getElem_toArray, List.getElem_cons_succ, List.getElem_cons_zero, List.setIfInBounds_toArray, List.set_cons_zero, List.set_cons_succ]
  refine hold_read0 (i := 41) (v := ?_) n0 rfl (by kernel_rfl) (by kernel_rfl) (by kernel_rfl) (fun _ _ _ h => h) rfl ?_ ?_
  rotate_left
  · intro w' hN
    go_simp
    try with_reducible rfl
  simp only [Act.put, List.getElem_toArray, List.getElem_cons_succ, List.getElem_cons_zero, List.setIfInBounds_toArray, List.set_cons_zero, List.set_cons_succ]
  refine hold_read0 (i := 46) (v := ?_) n0 rfl (by kernel_rfl) (by kernel_rfl) (by kernel_rfl) (fun _ _ _ h => h) rfl ?_ ?_
  rotate_left
  · intro w' hN
    go_simp
    try with_reducible rfl
  simp only [Act.put, List.getElem_toArray, List.getElem_cons_succ, List.getElem_cons_zero, List.setIfInBounds_toArray, List.set_cons_zero, List.set_cons_succ]
  refine held_masks (F := 2) lstN goodN nxN leftN (fun m => okN m = true) (fun m a W => ∃ v34 v41 v48 v55 v57 v61 v65 v66 : Value, a = ({ tmps := #[Value.bool false, Value.slice (some { block := w.heap.size, off := 0 }) 16 16, Value.slice (some { block := g, off := 0 }) 4 oc, Value.slice R rs.length rc, Value.slice (some { block := g2, off := 0 }) 4 oc2, Value.slice R2 rs2.length rc2, undef, undef, Value.slice (some { block := w.heap.size, off := 0 }) 16 16, Value.slice (some { block := w.heap.size, off := 0 }) 16 16, Value.tuple #[Value.slice (some { block := g, off := 0 }) 4 oc, Value.slice R rs.length rc], Value.slice (some { block := w.heap.size, off := 0 }) 16 16, Value.slice (some { block := w0.heap.size, off := 0 }) 4 4, Value.tuple #[Value.slice (some { block := g, off := 0 }) 4 oc, Value.slice R rs.length rc], Value.slice (some { block := g, off := 0 }) 4 oc, Value.slice R rs.length rc, Value.tuple #[Value.slice (some { block := g2, off := 0 }) 4 oc2, Value.slice R2 rs2.length rc2], Value.slice (some { block := w1.heap.size, off := 0 }) 7 7, Value.slice (some { block := w1.heap.size, off := 0 }) 7 7, Value.slice (some { block := w2.heap.size, off := 0 }) 4 4, Value.tuple #[Value.slice (some { block := g2, off := 0 }) 4 oc2, Value.slice R2 rs2.length rc2], Value.slice (some { block := g2, off := 0 }) 4 oc2, Value.slice R2 rs2.length rc2, Value.slice (some { block := g, off := 0 }) 4 oc, Value.slice (some { block := g, off := 0 }) 4 oc, Value.slice (some { block := g, off := 0 }) 1 oc, Value.slice (some { block := g, off := 0 }) 4 oc, Value.slice (some { block := g, off := 1 }) 3 (oc - 1), Value.slice (some { block := g, off := 0 }) 4 oc, Value.pointer (some { block := g, off := 0 }), Value.slice X0 1024 xc0, Value.slice (some { block := g, off := 0 }) 4 oc, Value.pointer (some { block := g, off := 2 }), Value.slice X2 1024 xc2, v34, Value.slice (some { block := g, off := 0 }) 4 oc, Value.pointer (some { block := g, off := 1 }), Value.slice X1 1024 xc1, Value.slice (some { block := g, off := 0 }) 4 oc, Value.pointer (some { block := g, off := 0 }), Value.slice X0 1024 xc0, v41, Value.slice (some { block := g, off := 0 }) 4 oc, Value.pointer (some { block := g, off := 0 }), Value.slice X0 1024 xc0, Value.slice (some { block := g, off := 0 }) 4 oc, Value.pointer (some { block := g, off := 0 }), Value.slice X0 1024 xc0, v48, Value.slice (some { block := g, off := 0 }) 4 oc, Value.pointer (some { block := g, off := 0 }), Value.slice X0 1024 xc0, Value.slice (some { block := g2, off := 0 }) 4 oc2, Value.pointer (some { block := g2, off := 1 }), Value.slice Y1 1024 yc1, v55, Value.slice (some { block := g2, off := 0 }) 4 oc2, v57, Value.slice (some { block := g, off := 0 }) 4 oc, Value.pointer (some { block := g, off := 0 }), Value.slice X0 1024 xc0, v61, Value.slice (some { block := g, off := 0 }) 4 oc, Value.pointer (some { block := g, off := 0 }), Value.slice X0 1024 xc0, v65, v66, undef, undef, Value.int IntKind.i64 0, undef, undef, undef, undef, undef, undef, undef, undef, undef, undef, undef, undef, undef, undef], defers := [] } : Act) ∧ New w3.drew W ∧ (m.1 = true → IsL W v34) ∧ (m.2.1 = true → IsL W v41) ∧ (m.2.2.1 = true → IsL W v48) ∧ (m.2.2.2.1 = true → IsL W v55) ∧ (m.2.2.2.2.1 = true → IsL W v57) ∧ (m.2.2.2.2.2.1 = true → IsL W v61) ∧ (m.2.2.2.2.2.2.1 = true → IsB W v65) ∧ (m.2.2.2.2.2.2.2 = true → IsL W v66)) ?h0 (fun m hok hl => masks_h1 (by kernel_rfl) m hok hl) ?h2 8 (false, false, false, false, false, false, false, false) _ _ rfl rfl ⟨undef, undef, undef, undef, undef, undef, undef, undef, rfl, n0, fun h => absurd h (by decide), fun h => absurd h (by decide), fun h => absurd h (by decide), fun h => absurd h (by decide), fun h => absurd h (by decide), fun h => absurd h (by decide), fun h => absurd h (by decide), fun h => absurd h (by decide)⟩
  case h2 =>
    rintro ⟨b0, b1, b2, b3, b4, b5, b6, b7⟩ i a wj hg ⟨v34, v41, v48, v55, v57, v61, v65, v66, rfl, nj, f0, f1, f2, f3, f4, f5, f6, f7⟩ K hK
    clear n0
    rcases hg with ⟨rfl, -⟩ | ⟨rfl, -⟩ | ⟨rfl, -⟩ | ⟨rfl, -⟩ | ⟨rfl, -⟩ | ⟨rfl, -⟩ | ⟨rfl, -⟩ | ⟨rfl, -, hb6⟩
    · refine wpOp_wanted (i := 11) rfl rfl ?_
      have kk := (New.refl wj).alloc (.cells #[.slice X0 1024 xc0, .slice X2 1024 xc2] 22)
      have hn : IsL (wj.alloc (.cells #[.slice X0 1024 xc0, .slice X2 1024 xc2] 22)) (.slice (some ⟨wj.heap.size, 0, none⟩) 2 2) := IsL.made _ [.slice X0 1024 xc0, .slice X2 1024 xc2] (by simp) (by simp only [List.forall_mem_cons]; exact ⟨V0.out _ nj, V2.out _ nj, by simp⟩)
      go_simp
      go_wp2_with fail
      refine hK.out _ _ (nj.new kk) ⟨.slice (some ⟨wj.heap.size, 0, none⟩) 2 2, v41, v48, v55, v57, v61, v65, v66, ?_, nj.new kk, fun _ => hn, fun h => (f1 h).new kk, fun h => (f2 h).new kk, fun h => (f3 h).new kk, fun h => (f4 h).new kk, fun h => (f5 h).new kk, fun h => (f6 h).new kk, fun h => (f7 h).new kk⟩
      simp only 
    · refine wpOp_wanted (i := 18) rfl rfl ?_
      have kk := (New.refl wj).alloc (.cells #[.slice X1 1024 xc1, .slice X0 1024 xc0] 22)
      have hn : IsL (wj.alloc (.cells #[.slice X1 1024 xc1, .slice X0 1024 xc0] 22)) (.slice (some ⟨wj.heap.size, 0, none⟩) 2 2) := IsL.made _ [.slice X1 1024 xc1, .slice X0 1024 xc0] (by simp) (by simp only [List.forall_mem_cons]; exact ⟨V1.out _ nj, V0.out _ nj, by simp⟩)
      go_simp
      go_wp2_with fail
      refine hK.out _ _ (nj.new kk) ⟨v34, .slice (some ⟨wj.heap.size, 0, none⟩) 2 2, v48, v55, v57, v61, v65, v66, ?_, nj.new kk, fun h => (f0 h).new kk, fun _ => hn, fun h => (f2 h).new kk, fun h => (f3 h).new kk, fun h => (f4 h).new kk, fun h => (f5 h).new kk, fun h => (f6 h).new kk, fun h => (f7 h).new kk⟩
      simp only 
    · refine wpOp_wanted (i := 25) rfl rfl ?_
      have kk := (New.refl wj).alloc (.cells #[.slice X0 1024 xc0, .slice X0 1024 xc0] 22)
      have hn : IsL (wj.alloc (.cells #[.slice X0 1024 xc0, .slice X0 1024 xc0] 22)) (.slice (some ⟨wj.heap.size, 0, none⟩) 2 2) := IsL.made _ [.slice X0 1024 xc0, .slice X0 1024 xc0] (by simp) (by simp only [List.forall_mem_cons]; exact ⟨V0.out _ nj, V0.out _ nj, by simp⟩)
      go_simp
      go_wp2_with fail
      refine hK.out _ _ (nj.new kk) ⟨v34, v41, .slice (some ⟨wj.heap.size, 0, none⟩) 2 2, v55, v57, v61, v65, v66, ?_, nj.new kk, fun h => (f0 h).new kk, fun h => (f1 h).new kk, fun _ => hn, fun h => (f3 h).new kk, fun h => (f4 h).new kk, fun h => (f5 h).new kk, fun h => (f6 h).new kk, fun h => (f7 h).new kk⟩
      simp only 
    · refine wpOp_wanted (i := 32) rfl rfl ?_
      have kk := (New.refl wj).alloc (.cells #[.slice X0 1024 xc0, .slice Y1 1024 yc1] 22)
      have hn : IsL (wj.alloc (.cells #[.slice X0 1024 xc0, .slice Y1 1024 yc1] 22)) (.slice (some ⟨wj.heap.size, 0, none⟩) 2 2) := IsL.made _ [.slice X0 1024 xc0, .slice Y1 1024 yc1] (by simp) (by simp only [List.forall_mem_cons]; exact ⟨V0.out _ nj, V3.out _ nj, by simp⟩)
      go_simp
      go_wp2_with fail
      refine hK.out _ _ (nj.new kk) ⟨v34, v41, v48, .slice (some ⟨wj.heap.size, 0, none⟩) 2 2, v57, v61, v65, v66, ?_, nj.new kk, fun h => (f0 h).new kk, fun h => (f1 h).new kk, fun h => (f2 h).new kk, fun _ => hn, fun h => (f4 h).new kk, fun h => (f5 h).new kk, fun h => (f6 h).new kk, fun h => (f7 h).new kk⟩
      simp only 
    · refine wpOp_wanted (i := 34) rfl rfl ?_
      have kk := (New.refl wj).alloc (.cells #[.slice none 0 0] 22)
      have hn : IsL (wj.alloc (.cells #[.slice none 0 0] 22)) (.slice (some ⟨wj.heap.size, 0, none⟩) 1 1) := IsL.made _ [.slice none 0 0] (by simp) (by simp only [List.forall_mem_cons]; exact ⟨IsB.nil _, by simp⟩)
      go_simp
      go_wp2_with fail
      refine hK.out _ _ (nj.new kk) ⟨v34, v41, v48, v55, .slice (some ⟨wj.heap.size, 0, none⟩) 1 1, v61, v65, v66, ?_, nj.new kk, fun h => (f0 h).new kk, fun h => (f1 h).new kk, fun h => (f2 h).new kk, fun h => (f3 h).new kk, fun _ => hn, fun h => (f5 h).new kk, fun h => (f6 h).new kk, fun h => (f7 h).new kk⟩
      simp only 
    · refine wpOp_wanted (i := 38) rfl rfl ?_
      have kk := (New.refl wj).alloc (.cells #[.slice X0 1024 xc0, .slice none 0 0] 22)
      have hn : IsL (wj.alloc (.cells #[.slice X0 1024 xc0, .slice none 0 0] 22)) (.slice (some ⟨wj.heap.size, 0, none⟩) 2 2) := IsL.made _ [.slice X0 1024 xc0, .slice none 0 0] (by simp) (by simp only [List.forall_mem_cons]; exact ⟨V0.out _ nj, IsB.nil _, by simp⟩)
      go_simp
      go_wp2_with fail
      refine hK.out _ _ (nj.new kk) ⟨v34, v41, v48, v55, v57, .slice (some ⟨wj.heap.size, 0, none⟩) 2 2, v65, v66, ?_, nj.new kk, fun h => (f0 h).new kk, fun h => (f1 h).new kk, fun h => (f2 h).new kk, fun h => (f3 h).new kk, fun h => (f4 h).new kk, fun _ => hn, fun h => (f6 h).new kk, fun h => (f7 h).new kk⟩
      simp only 
    · refine wpOp_wanted (i := 42) rfl rfl ?_
      have kk := (New.refl wj).alloc (.cells zeroCells 5)
      have hn : IsB (wj.alloc (.cells zeroCells 5)) (.slice (some ⟨wj.heap.size, 0, none⟩) 1024 1024) := IsB.row (b := List.replicate 1024 0) List.length_replicate (Nat.le_refl _) (by decide) (by rw [Bs, ← zeroCells_list]; exact Row.made wj _ _ 1024 1 zeroCells_size)
      go_simp
      go_wp2_with fail
      refine hK.out _ _ (nj.new kk) ⟨v34, v41, v48, v55, v57, v61, .slice (some ⟨wj.heap.size, 0, none⟩) 1024 1024, v66, ?_, nj.new kk, fun h => (f0 h).new kk, fun h => (f1 h).new kk, fun h => (f2 h).new kk, fun h => (f3 h).new kk, fun h => (f4 h).new kk, fun h => (f5 h).new kk, fun _ => hn, fun h => (f7 h).new kk⟩
      simp only 
    · refine wpOp_wanted (i := 43) rfl rfl ?_
      have q6 := f6 hb6
      obtain ⟨ZA, zc, zb, rfl, -⟩ := id q6
      have kk := (New.refl wj).alloc (.cells #[.slice X0 1024 xc0, .slice ZA zb.length zc] 22)
      have hn : IsL (wj.alloc (.cells #[.slice X0 1024 xc0, .slice ZA zb.length zc] 22)) (.slice (some ⟨wj.heap.size, 0, none⟩) 2 2) := IsL.made _ [.slice X0 1024 xc0, .slice ZA zb.length zc] (by simp) (by simp only [List.forall_mem_cons]; exact ⟨V0.out _ nj, q6, by simp⟩)
      go_simp
      go_wp2_with fail
      refine hK.out _ _ (nj.new kk) ⟨v34, v41, v48, v55, v57, v61, .slice ZA zb.length zc, .slice (some ⟨wj.heap.size, 0, none⟩) 2 2, ?_, nj.new kk, fun h => (f0 h).new kk, fun h => (f1 h).new kk, fun h => (f2 h).new kk, fun h => (f3 h).new kk, fun h => (f4 h).new kk, fun h => (f5 h).new kk, fun h => (f6 h).new kk, fun _ => hn⟩
      simp only 
  case h0 =>
    rintro ⟨b0, b1, b2, b3, b4, b5, b6, b7⟩ a wj hok hl ⟨v34, v41, v48, v55, v57, v61, v65, v66, rfl, nj, f0, f1, f2, f3, f4, f5, f6, f7⟩
    obtain ⟨rfl, rfl, rfl, rfl, rfl, rfl, rfl, rfl⟩ := all_on hl
    clear n0 hl hok f6
    have q0 := f0 rfl
    obtain ⟨A0, m0, c0, -, rfl, -⟩ := id q0
    have q1 := f1 rfl
    obtain ⟨A1, m1, c1, -, rfl, -⟩ := id q1
    have q2 := f2 rfl
    obtain ⟨A2, m2, c2, -, rfl, -⟩ := id q2
    have q3 := f3 rfl
    obtain ⟨A3, m3, c3, -, rfl, -⟩ := id q3
    have q4 := f4 rfl
    obtain ⟨A4, m4, c4, -, rfl, -⟩ := id q4
    have q5 := f5 rfl
    obtain ⟨A5, m5, c5, -, rfl, -⟩ := id q5
    have q7 := f7 rfl
    obtain ⟨A7, m7, c7, -, rfl, -⟩ := id q7
    clear f0 f1 f2 f3 f4 f5 f7
    have kk := (New.refl wj).alloc (.cells #[.slice none 0 0, .slice (some ⟨g, 0, none⟩) 4 oc, .slice (some ⟨g, 0, none⟩) 1 oc, .slice (some ⟨g, 1, none⟩) 3 (oc - 1), .slice A0 m0 c0, .slice A1 m1 c1, .slice A2 m2 c2, .slice A3 m3 c3, .slice (some ⟨g2, 0, none⟩) 4 oc2, .slice A4 m4 c4, .slice A5 m5 c5, .slice A7 m7 c7] 23)
    have HROW : Hid (Row (wj.alloc (.cells #[.slice none 0 0, .slice (some ⟨g, 0, none⟩) 4 oc, .slice (some ⟨g, 0, none⟩) 1 oc, .slice (some ⟨g, 1, none⟩) 3 (oc - 1), .slice A0 m0 c0, .slice A1 m1 c1, .slice A2 m2 c2, .slice A3 m3 c3, .slice (some ⟨g2, 0, none⟩) 4 oc2, .slice A4 m4 c4, .slice A5 m5 c5, .slice A7 m7 c7] 23)) (fun b => wj.heap.size ≤ b) (some ⟨wj.heap.size, 0, none⟩) 12 1 [.slice none 0 0, .slice (some ⟨g, 0, none⟩) 4 oc, .slice (some ⟨g, 0, none⟩) 1 oc, .slice (some ⟨g, 1, none⟩) 3 (oc - 1), .slice A0 m0 c0, .slice A1 m1 c1, .slice A2 m2 c2, .slice A3 m3 c3, .slice (some ⟨g2, 0, none⟩) 4 oc2, .slice A4 m4 c4, .slice A5 m5 c5, .slice A7 m7 c7]) := Lib.hid (Row.made wj 23 #[.slice none 0 0, .slice (some ⟨g, 0, none⟩) 4 oc, .slice (some ⟨g, 0, none⟩) 1 oc, .slice (some ⟨g, 1, none⟩) 3 (oc - 1), .slice A0 m0 c0, .slice A1 m1 c1, .slice A2 m2 c2, .slice A3 m3 c3, .slice (some ⟨g2, 0, none⟩) 4 oc2, .slice A4 m4 c4, .slice A5 m5 c5, .slice A7 m7 c7] 12 1 rfl)
    have HALL : Hid (∀ v ∈ ([.slice none 0 0, .slice (some ⟨g, 0, none⟩) 4 oc, .slice (some ⟨g, 0, none⟩) 1 oc, .slice (some ⟨g, 1, none⟩) 3 (oc - 1), .slice A0 m0 c0, .slice A1 m1 c1, .slice A2 m2 c2, .slice A3 m3 c3, .slice (some ⟨g2, 0, none⟩) 4 oc2, .slice A4 m4 c4, .slice A5 m5 c5, .slice A7 m7 c7] : List Value), IsL (wj.alloc (.cells #[.slice none 0 0, .slice (some ⟨g, 0, none⟩) 4 oc, .slice (some ⟨g, 0, none⟩) 1 oc, .slice (some ⟨g, 1, none⟩) 3 (oc - 1), .slice A0 m0 c0, .slice A1 m1 c1, .slice A2 m2 c2, .slice A3 m3 c3, .slice (some ⟨g2, 0, none⟩) 4 oc2, .slice A4 m4 c4, .slice A5 m5 c5, .slice A7 m7 c7] 23)) v) := Lib.hid (by simp only [List.forall_mem_cons]; exact ⟨IsL.nil _, ((M1.out.new HN3.out).drew.new nj).new kk, ((M2.out.new HN3.out).drew.new nj).new kk, ((M3.out.new HN3.out).drew.new nj).new kk, q0.new kk, q1.new kk, q2.new kk, q3.new kk, (M8.out.drew.new nj).new kk, q4.new kk, q5.new kk, q7.new kk, by simp⟩)
    have HN4 : Hid (New w3 (wj.alloc (.cells #[.slice none 0 0, .slice (some ⟨g, 0, none⟩) 4 oc, .slice (some ⟨g, 0, none⟩) 1 oc, .slice (some ⟨g, 1, none⟩) 3 (oc - 1), .slice A0 m0 c0, .slice A1 m1 c1, .slice A2 m2 c2, .slice A3 m3 c3, .slice (some ⟨g2, 0, none⟩) 4 oc2, .slice A4 m4 c4, .slice A5 m5 c5, .slice A7 m7 c7] 23))) := Lib.hid (Keep.new (Keep.drew (New.refl w3)) (nj.new kk))
    refine hold_step0 (i := 44) (by kernel_rfl) rfl rfl (fun K hK => ?_)
    go_simp
    go_wp2_with fail
    have n1 := nj.new kk
    refine hK.out _ _ n1 ?_
    clear hK K
    try simp only [Act.put, List.getElem_toArray, List.getElem_cons_succ, List.getElem_cons_zero, List.setIfInBounds_toArray, List.set_cons_zero, List.set_cons_succ]
    refine hold_read0 (i := 45) (v := ?_) n1 rfl (by kernel_rfl) (by kernel_rfl) (by kernel_rfl) (fun _ _ _ h => h) rfl ?_ ?_
    rotate_left
    · intro w' hN
      go_simp
      try with_reducible rfl
    simp only [Act.put, List.getElem_toArray, List.getElem_cons_succ, List.getElem_cons_zero, List.setIfInBounds_toArray, List.set_cons_zero, List.set_cons_succ]
    refine wpAnyH_done (by kernel_rfl) ?_ _
    clear n1 kk nj q0 q1 q2 q3 q4 q5 q7 r0 r1 r2 r3
    generalize wj.alloc (.cells #[.slice none 0 0, .slice (some ⟨g, 0, none⟩) 4 oc, .slice (some ⟨g, 0, none⟩) 1 oc, .slice (some ⟨g, 1, none⟩) 3 (oc - 1), .slice A0 m0 c0, .slice A1 m1 c1, .slice A2 m2 c2, .slice A3 m3 c3, .slice (some ⟨g2, 0, none⟩) 4 oc2, .slice A4 m4 c4, .slice A5 m5 c5, .slice A7 m7 c7] 23) = w4 at *
    generalize wj.heap.size = g4 at *
    generalize hvs : ([.slice none 0 0, .slice (some ⟨g, 0, none⟩) 4 oc, .slice (some ⟨g, 0, none⟩) 1 oc, .slice (some ⟨g, 1, none⟩) 3 (oc - 1), .slice A0 m0 c0, .slice A1 m1 c1, .slice A2 m2 c2, .slice A3 m3 c3, .slice (some ⟨g2, 0, none⟩) 4 oc2, .slice A4 m4 c4, .slice A5 m5 c5, .slice A7 m7 c7] : List Value) = vs at HROW
    have HVM : Hid (∀ v ∈ vs, IsL w4 v) := Lib.hid (by rw [← hvs]; exact HALL.out)
    have HVL : Hid (vs.length = 12) := Lib.hid (by rw [← hvs]; rfl)
    clear hvs HALL
    go_wp2_with fail
    go_loopw [69] (fun i wx => ∃ k : Nat, k ≤ 12 ∧ i = .int .i64 (k : Int) ∧ New w4 wx) (fun i _ => 12 - (intOf i).toNat)
    case atStart => exact ⟨0, by decide, rfl, New.refl _⟩
    case round =>
      obtain ⟨k, hk, rfl, hK⟩ := hrel
      by_cases hlt : k < 12
      · have hkv : k < vs.length := by have := HVL.out; omega
        obtain ⟨A, n, c, ls, hv, hI, hn⟩ := (HVM.out vs[k] (List.getElem_mem hkv)).new hK
        obtain ⟨b', off, hA', _, _, hcell⟩ := (Row.new HROW.out hK).at_ (by decide)
        injection hA' with hA'
        injection hA' with hb' hof
        subst hb'
        subst hof
        have u0 : wr.cell? ⟨g4, k, none⟩ = some (.slice A n c) := by
          have h := hcell k vs[k] (List.getElem?_eq_getElem hkv)
          rw [hv, Nat.zero_add] at h
          exact h
        have HI := Lib.hid hI
        have HK := Lib.hid hK
        have HBr := Lib.hid (HB1.out.new (HN3.out.new (HN4.out.new hK)))
        clear hI hK hv hcell
        go_wp2_with fail
        refine (walklaw_any _ _ _ A 16 16 n c i0 ls wr HBr.out (by decide) (by decide) HI.out (by omega)).mono ?_
        rintro e w5 ⟨rfl, k5⟩
        go_wp2_with fail
        refine (walklaw_any (fun _ => True) _ none A 0 0 n c [] ls w5 (Row.nil _ _ _ _) (by decide) (by decide) (HI.out.new k5) (by omega)).mono ?_
        rintro e w6 ⟨rfl, k6⟩
        go_wp2_with fail
        go_roundw
        case rel => exact ⟨k + 1, by omega, by go_num, (HK.out.new k5).new k6⟩
        case measure => simp [intOf]; omega
      · obtain rfl : k = 12 := by omega
        have HK := Lib.hid hK
        clear hK
        go_wp2_with fail
        refine (known18_any _).mono ?_
        rintro e w9 ⟨rfl, k9⟩
        go_wp2_with fail
        go_ret
        exact ⟨rfl, (((HN1.out.new HN3.out).new HN4.out).new HK.out).new k9⟩
end Go.Proofs.YtpbbfbgmpidgnaaGreatDoor
/-
  PROVED HERE: SealNumbersCardSaid: for every input the law SealNumbers returns true, and each argument reads afterwards as before; the tables that the row lists are tied to the program's text. No condition.
-/
namespace Go.Proofs.YtpbbfbgmpidgnaaGreatDoor.sealNumbers
open Go.ChangeShapes Go.WideShapes Go.ChangeAt Go.RowKit Go.Joins Go.Deep

set_option maxRecDepth 100000 in
theorem contract (H : Type) (enc : TypeId × Value → H) (W : World) (base : Nat) (args : Array Value) (ds gs : List (DataW H)) (before : List MemPlace)
    (hval : ∀ (j : Nat) t v, Tryz.f3.params[j]? = some t → args[j]? = some v → Value.okWide Tryz.prog W .any base t v)
    (hW : DataW.Whole enc Tryz.prog Tryz.f3.params.toList Rows.sealNumbersSpec.vars false W args.toList ds gs before) :
    Calls Tryz.prog 3 args W fun e W' => ∃ v, e = .returned v ∧ Rows.sealNumbersSpec.post enc Tryz.prog Tryz.f3 false true false false W args v W' := by
  have hW' := hW
  obtain ⟨p, q, hA0, hV, rfl, hfz, hnd⟩ := hW
  have hA : DataW.TrodAll enc Tryz.prog W 0 (fun _ => true) true Tryz.f3.params.toList args.toList ds p := hA0
  rw [Tryz.params3] at hA hval
  obtain ⟨hargs, rfl, rfl⟩ := trodAll_nil hA
  obtain rfl : args = #[] := by cases args; simp_all
  obtain ⟨rfl, rfl⟩ := trodVars_none hV
  refine (numbers_any W).mono fun e W' ⟨he, hN⟩ => ?_
  subst he
  exact ⟨_, rfl, law_post laid_out (by kernel_rfl) rfl (by kernel_rfl) Tryz.underlying4 hW' rfl rfl rfl hN⟩

def args0 : Array Value := #[]
theorem laid_met (os : Os) : laidMet Tryz.prog Rows.sealNumbersRow.laid ((laidWorld os).forCall (fun _ _ => 0) ⟨#[], args0, []⟩).memory :=
  laidMet_of_run' 8 (by kernel_rfl) (by kernel_rfl)
theorem reads (os : Os) {H : Type} (enc : TypeId × Value → H) : ∃ places, DataW.whole enc Tryz.prog ((laidWorld os).forCall (fun _ _ => 0) ⟨#[], args0, []⟩).memory Tryz.f3.params.toList Rows.sealNumbersSpec.vars false args0.toList 8 = some ([], [], places) :=
  ⟨[], by kernel_rfl⟩
set_option maxRecDepth 100000 in
theorem lifted (os : Os) (started : os.Started) (H : Type) (enc : TypeId × Value → H) (F : Stop.Interp) :
    ReturnsInHanded {} Tryz.checked os 3 .any ((OpenSpec.ofChange Rows.sealNumbersSpec).preRow enc Tryz.prog Tryz.f3 Rows.sealNumbersRow.domain false Rows.sealNumbersRow.laid) (((OpenSpec.ofChange Rows.sealNumbersSpec).at F).post enc Tryz.prog Tryz.f3 false true false false) := by
  obtain ⟨places, hx⟩ := reads os enc
  refine returnsInHanded_of_row (C := Tryz.checked) (s := OpenSpec.ofChange Rows.sealNumbersSpec) own_knob started (by kernel_rfl) Tryz.func3
    (witness_row_at (enc := enc) (C := Tryz.checked) false (laidWorld os) args0 rfl (by kernel_rfl) (by kernel_rfl) (by kernel_rfl)
      (OpenSpec.preRow_of_cond 8 hx (by kernel_rfl) (fun k hk => by cases hk) (by kernel_rfl) (laid_met os))) ?_
  intro W base args ds gs before hval hW _ _ _ _ _ _
  exact contract H enc W base args ds gs before hval hW
theorem said : Rows.SealNumbersSaid :=
  OpenClaim.holds_of_cond 3 Tryz.f3 rfl rfl rfl rfl rfl rfl rfl ⟨rfl, rfl, rfl, rfl, rfl⟩ rfl rfl rfl rfl rfl (by kernel_rfl) Tryz.func3 (by kernel_rfl)
    (of_decide_eq_true (by kernel_rfl)) (by unfold Func.isWrapper; first | (rw [if_pos (by decide +kernel)]; kernel_rfl) | (rw [if_neg (by decide +kernel)]; exact ⟨rfl, rfl⟩))
    (fun os started H enc _ F => by rw [OpenClaim.pre_eq_preRow]; exact lifted os started H enc F)
theorem plain (f : FuncId) (fn : Func) (hf : Tryz.pinned.checked.prog.funcNamed "permafrost/permafrostlaw18.SealNumbers" = some f) (hfn : Tryz.pinned.checked.prog.funcs[f]? = some fn) :
    false = Tryz.pinned.checked.prog.looks [] ∧ ∀ (j : Nat) t, fn.params[j]? = some t → Tryz.pinned.checked.prog.wantsStandIn t = false := by
  obtain rfl : f = 3 := Option.some.inj ((show Tryz.prog.funcNamed "permafrost/permafrostlaw18.SealNumbers" = some 3 by kernel_rfl).symm.trans hf) |>.symm
  obtain rfl : fn = Tryz.f3 := (Option.some.inj (Tryz.func3.symm.trans hfn)).symm
  refine ⟨by kernel_rfl, fun j t ht => ?_⟩
  rw [Tryz.params3] at ht
  have hall : (#[] : Array TypeId).toList.all (fun t => Tryz.pinned.checked.prog.wantsStandIn t == false) = true := by kernel_rfl
  have hm : t ∈ (#[] : Array TypeId).toList := Array.mem_toList_iff.2 (Array.mem_of_getElem? ht)
  simpa using List.all_eq_true.1 hall t hm
end Go.Proofs.YtpbbfbgmpidgnaaGreatDoor.sealNumbers
namespace Go.Proofs.YtpbbfbgmpidgnaaGreatDoor
theorem seal_numbers : Rows.SealNumbersCardSaid :=
  Claim7.holds_tied_plain_at .later [] _ _ _ _ sealNumbers.said (fun _ h => by cases h) (by kernel_rfl) (fun _ h => by cases h) sealNumbers_row_tie rfl ⟨rfl, rfl⟩ (by kernel_rfl) rfl sealNumbers.plain (by kernel_rfl)
end Go.Proofs.YtpbbfbgmpidgnaaGreatDoor
