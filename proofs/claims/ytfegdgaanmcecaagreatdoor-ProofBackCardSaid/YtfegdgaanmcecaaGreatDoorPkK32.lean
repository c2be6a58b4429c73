/-
  PROVED HERE: texts that belong together, one behind the other; what each proves, and under which conditions, its own opening remark says: ImgsW, Small24, Float, HoldW.
-/
import Derived.Test.YtfegdgaanmcecaaGreatDoorPkK00
import Derived.Test.YtfegdgaanmcecaaGreatDoorPkK11
import Derived.Test.YtfegdgaanmcecaaGreatDoorPkK27
import Derived.Test.YtfegdgaanmcecaaGreatDoorPkK30
import Derived.Test.YtfegdgaanmcecaaGreatDoorPkK31
/-
  PROVED HERE: the law of append at rows of images, for one operation alone; condition: fewer than 2^40 images.
-/
namespace Go.Proofs.YtfegdgaanmcecaaGreatDoor
open Go.RowKit

/-- images more: their cells in a row, their bytes apart. -/
theorem wp_imgsM {o : Oper} {a : Act} {K : Act → World → Prop} {Q : Exit → Act → World → Prop} (w : World) (s x : Operand)
    (ho : o.op = .call { callee := .builtin .append, args := #[s, x], argTypes := #[23, 23] })
    (base : Nat) (D : Nat → Prop) (A : Option Addr) (n c : Nat) (ls : List (List UInt8)) (hs : a.eval s = .slice A n c) (hown : OwnImgs w base D A n c ls)
    (D2 : Nat → Prop) (A2 : Option Addr) (m c2 : Nat) (us : List Value) (ms : List (List UInt8)) (hx : a.eval x = .slice A2 m c2) (hr : Row w D2 A2 m 1 us) (hm : ms.length = m) (hy : ∀ k (h : k < ms.length), ImgAt w (fun b => D b ∧ some b ≠ blk A) us k ms[k])
    (h63 : n + m ≤ 1099511627776) (hbase : base ≤ w.heap.size)
    (h : ∀ A3 c3 w3, OwnImgs w3 base D A3 (n + m) c3 (ls ++ ms) → w.grownBy w3 (blk A) → (blk A3 = blk A ∨ blk A3 = some w.heap.size) → K (a.put o.dst (.slice A3 (n + m) c3)) w3) : o.wp Tryz.prog a w K Q := by
  obtain ⟨vs, h1, h2, h3⟩ := hown
  have hul : us.length = m := by have := hr.1; omega
  have hone : ∀ u ∈ us, u.oneCell' = true := by
    intro u hu
    obtain ⟨j, hj, rfl⟩ := List.mem_iff_getElem.1 hu
    obtain ⟨A0, c0, e1, _⟩ := hy j (by omega)
    rw [List.getElem?_eq_getElem hj] at e1; injection e1 with e1; rw [e1]; rfl
  obtain ⟨i, hi, hz0, hz1, hz2⟩ := info_parts info_bytes
  refine wp_append_row w s x 23 ho base 31 i (.slice none 0 0) 1 24 Tryz.underlying23 hi hz0 hz1 hz2 rfl (by decide) A n c vs hs h1 D2 A2 m c2 us hx hr hone (by unfold maxLen; omega) (by omega) hbase ?_
  intro A3 c3 w3 hown3 hg3 hbk3
  refine h A3 c3 w3 ⟨vs ++ us, hown3, by rw [List.length_append]; omega, fun k hk => ?_⟩ hg3 hbk3
  have hvl : vs.length = n := by have := h1.1; simpa using this
  have move : ∀ {A0 : Option Addr} {m0 : Nat} {z : List UInt8}, Bs w (fun b => D b ∧ some b ≠ blk A) A0 m0 z → Bs w3 (fun b => D b ∧ some b ≠ blk A3) A0 m0 z := fun {A0 m0 z} hb => by
    have hk3 : Keep (fun b => some b ≠ blk A) w w3 := (Keep.refl _ w).grown hg3 (fun k hk hd => absurd hk.symm hd)
    have hb3 : Bs w (fun b => (D b ∧ some b ≠ blk A) ∧ some b ≠ blk A3) A0 m0 z := hb.imp fun b hlt hd => ⟨hd, by
      rcases hbk3 with e | e
      · rw [e]; exact hd.2
      · rw [e]; intro e'; injection e'; omega⟩
    exact (Row.keep hb3 hk3 (fun b _ hd => hd.1.2)).imp fun b _ hd => ⟨hd.1.1, hd.2⟩
  by_cases hkn : k < ls.length
  · rw [List.getElem_append_left hkn]
    obtain ⟨A0, c0, e, hc, hc9, hb⟩ := h3 k hkn
    exact ⟨A0, c0, by rw [List.getElem?_append_left (by omega)]; exact e, hc, hc9, move hb⟩
  · rw [List.getElem_append_right (by omega)]
    have hkl : k - ls.length < ms.length := by rw [List.length_append] at hk; omega
    obtain ⟨A0, c0, e, hc, hc9, hb⟩ := hy (k - ls.length) hkl
    exact ⟨A0, c0, by rw [List.getElem?_append_right (by omega), show k - vs.length = k - ls.length from by omega]; exact e, hc, hc9, move hb⟩
end Go.Proofs.YtfegdgaanmcecaaGreatDoor
/-
  PROVED HERE: what permafrostlaw24.id, headIn, headOut and head (of equal heads) answer; no condition.
-/
namespace Go.Proofs.YtfegdgaanmcecaaGreatDoor
open Go.RowKit

theorem bs_cells24 {w : World} {g : Nat} {t : TypeId} {C : Array Value} (bs : List UInt8) (hC : C.toList = bs.map byteVal) (h : w.heap[g]? = some (.cells C t (0, 0))) : Bs w (fun _ => True) (some ⟨g, 0, none⟩) bs.length bs := by
  refine ⟨by simp, fun _ => ⟨g, 0, rfl, trivial, (Array.getElem?_eq_some_iff.1 h).1, fun k u hu => ?_⟩⟩
  rw [cell_of_row _ _ _ _ _ (0, 0) h]
  rw [← hC] at hu
  simpa using hu
def id24 : List UInt8 := [48, 49, 50, 51, 52, 53, 54, 55, 56, 57, 97, 98, 99, 100, 101, 102]
theorem id24_any (w : World) : Calls Tryz.prog 15 #[] w fun e w' => (∃ A', e = .returned (.slice A' 16 16) ∧ Bs w' (fun b => w.heap.size ≤ b) A' 16 id24) ∧ New w w' := by
  obtain ⟨w0, e0, k0, l0⟩ := conv_mark 16 16 (heap_alloc_new w (.cells #[.int .u8 48, .int .u8 49, .int .u8 50, .int .u8 51, .int .u8 52, .int .u8 53, .int .u8 54, .int .u8 55, .int .u8 56, .int .u8 57, .int .u8 97, .int .u8 98, .int .u8 99, .int .u8 100, .int .u8 101, .int .u8 102] 5))
  have b0 : Bs (w.alloc (.cells #[.int .u8 48, .int .u8 49, .int .u8 50, .int .u8 51, .int .u8 52, .int .u8 53, .int .u8 54, .int .u8 55, .int .u8 56, .int .u8 57, .int .u8 97, .int .u8 98, .int .u8 99, .int .u8 100, .int .u8 101, .int .u8 102] 5)) (fun _ => True) (some ⟨w.heap.size, 0, none⟩) 16 id24 := bs_cells24 id24 (by simp [byteVal, bv, id24]) (heap_alloc_new w (.cells #[.int .u8 48, .int .u8 49, .int .u8 50, .int .u8 51, .int .u8 52, .int .u8 53, .int .u8 54, .int .u8 55, .int .u8 56, .int .u8 57, .int .u8 97, .int .u8 98, .int .u8 99, .int .u8 100, .int .u8 101, .int .u8 102] 5))
  have b1 : Bs w0 (fun b => w.heap.size ≤ b) (some ⟨w.heap.size, 0, none⟩) 16 id24 := by
    obtain ⟨h1, h2⟩ := Row.like b0 l0
    refine ⟨h1, fun hn => ?_⟩
    obtain ⟨b, off, e, _, hl, hc⟩ := h2 hn
    injection e with e
    injection e with e e'
    subst e e'
    exact ⟨_, _, rfl, Nat.le_refl _, hl, hc⟩
  have n00 : New w w0 := (Keep.trans2 (D := fun b => b < w.heap.size) (Keep.of_new ((New.refl w).alloc (.cells #[.int .u8 48, .int .u8 49, .int .u8 50, .int .u8 51, .int .u8 52, .int .u8 53, .int .u8 54, .int .u8 55, .int .u8 56, .int .u8 57, .int .u8 97, .int .u8 98, .int .u8 99, .int .u8 100, .int .u8 101, .int .u8 102] 5))) k0 (fun i _ hi e => by subst e; exact absurd hi (Nat.lt_irrefl _))).toNew (fun i hi => hi)
  clear b0 k0 l0
  go_enter Tryz.func15, Tryz.ntmps15
  go_wp2_with fail
  go_ret
  exact ⟨⟨_, rfl, b1⟩, n00⟩












































































































end Go.Proofs.YtfegdgaanmcecaaGreatDoor
/-
  PROVED HERE: laws for a region that draws its order where one operation may come at any time: a fork under one condition, and places where the orders meet whose frame is found by the first that comes there; no condition; no program is named.
-/
namespace Go.Proofs.YtfegdgaanmcecaaGreatDoor
open Go.RowKit

section
variable {P : Program} {ops : Array Oper} {Q : Exit → Act → World → Prop} {md : Region.Mode} {S : World → Prop}
/-- either of two may come next. -/
theorem hold_fork0 {i j : Nat} {o o' : Oper} {fuel : Nat} {listed : Array Bool} {a : Act} {w : World} (hr : Region.ready md ops listed = [i, j]) (ho : ops[i]? = some o) (hw : Region.wanted o (yielded ops a.tmps) = true) (ho' : ops[j]? = some o') (hw' : Region.wanted o' (yielded ops a.tmps) = true)
    (h : ∀ K : Act → World → Prop, Hid (∀ a' w', S w' → wpAnyH P md ops Q S fuel (listed.setIfInBounds i true) a' w' → K a' w') → Oper.wp P o a w K Q)
    (h' : ∀ K : Act → World → Prop, Hid (∀ a' w', S w' → wpAnyH P md ops Q S fuel (listed.setIfInBounds j true) a' w' → K a' w') → Oper.wp P o' a w K Q) : wpAnyH P md ops Q S (fuel + 1) listed a w := by
  refine wpAnyH_all hr (by simp) fun k hk => ?_
  have hk' : k = i ∨ k = j := by simpa using hk
  unfold wpOp
  rcases hk' with rfl | rfl
  · simp only [ho, hw, if_true]
    exact .inl (h _ (Lib.hid fun a' w' hN hk => ⟨hN, hk⟩))
  · simp only [ho', hw', if_true]
    exact .inl (h' _ (Lib.hid fun a' w' hN hk => ⟨hN, hk⟩))
/-- a place where orders meet; its frame is found by the first that comes there. -/
theorem hold_place1 {α : Type} (F : α → Act) (I : α → World → Prop) {fuel fuel2 : Nat} {listed listed2 : Array Bool} {a : Act} {w : World}
    (h2 : Hid (∀ x w', I x w' → wpAnyH P md ops Q S fuel2 listed2 (F x) w') → wpAnyH P md ops Q S fuel listed a w)
    (h1 : ∀ x w', I x w' → wpAnyH P md ops Q S fuel2 listed2 (F x) w') : wpAnyH P md ops Q S fuel listed a w := h2 (Lib.hid h1)
theorem hold_place2 {α β : Type} (F : α → β → Act) (I : α → β → World → Prop) {fuel fuel2 : Nat} {listed listed2 : Array Bool} {a : Act} {w : World}
    (h2 : Hid (∀ x y w', I x y w' → wpAnyH P md ops Q S fuel2 listed2 (F x y) w') → wpAnyH P md ops Q S fuel listed a w)
    (h1 : ∀ x y w', I x y w' → wpAnyH P md ops Q S fuel2 listed2 (F x y) w') : wpAnyH P md ops Q S fuel listed a w := h2 (Lib.hid h1)



theorem hold_place4 {α β γ δ : Type} (F : α → β → γ → δ → Act) (I : α → β → γ → δ → World → Prop) {fuel fuel2 : Nat} {listed listed2 : Array Bool} {a : Act} {w : World}
    (h2 : Hid (∀ x y z u w', I x y z u w' → wpAnyH P md ops Q S fuel2 listed2 (F x y z u) w') → wpAnyH P md ops Q S fuel listed a w)
    (h1 : ∀ x y z u w', I x y z u w' → wpAnyH P md ops Q S fuel2 listed2 (F x y z u) w') : wpAnyH P md ops Q S fuel listed a w := h2 (Lib.hid h1)



theorem hold_place6 {α β γ δ ε ζ : Type} (F : α → β → γ → δ → ε → ζ → Act) (I : α → β → γ → δ → ε → ζ → World → Prop) {fuel fuel2 : Nat} {listed listed2 : Array Bool} {a : Act} {w : World}
    (h2 : Hid (∀ x y z u v t w', I x y z u v t w' → wpAnyH P md ops Q S fuel2 listed2 (F x y z u v t) w') → wpAnyH P md ops Q S fuel listed a w)
    (h1 : ∀ x y z u v t w', I x y z u v t w' → wpAnyH P md ops Q S fuel2 listed2 (F x y z u v t) w') : wpAnyH P md ops Q S fuel listed a w := h2 (Lib.hid h1)
theorem hold_at {fuel : Nat} {listed listed' : Array Bool} {a a' : Act} {w : World} (h : wpAnyH P md ops Q S fuel listed' a' w) (e : a' = a) (hl : listed' = listed) : wpAnyH P md ops Q S fuel listed a w := by
  subst e
  subst hl
  exact h
end
end Go.Proofs.YtfegdgaanmcecaaGreatDoor
/-
  PROVED HERE: laws for a region that draws its order, reads, calls, and at its end writes what it read: a condition on the worlds that need hold only as long as none of the named operations has come up; no condition; no program is named.
-/
namespace Go.Proofs.YtfegdgaanmcecaaGreatDoor
open Go.RowKit

def clearB (Ws : List Nat) (l : Array Bool) : Bool := Ws.all fun k => l.getD k true == false
/-- each of the named operations waits for number i, or for one of the named. -/
def chkW (md : Region.Mode) (ops : Array Oper) (Ws : List Nat) (i : Nat) : Bool :=
  !Ws.contains i && Ws.all fun j => match ops[j]? with
    | some o => o.after.any fun e => Region.binds md e && (e.on == i || Ws.contains e.on)
    | none => false
section
variable {P : Program} {ops : Array Oper} {Q : Exit → Act → World → Prop} {md : Region.Mode} {Ws : List Nat} {S T : World → Prop}
def wpAnyW (P : Program) (md : Region.Mode) (ops : Array Oper) (Q : Exit → Act → World → Prop) (Ws : List Nat) (S T : World → Prop) : Nat → Array Bool → Act → World → Prop
  | 0, listed, a, w => Region.ready md ops listed = [] ∧ Q .normal a w
  | fuel + 1, listed, a, w =>
    (Region.ready md ops listed = [] → Q .normal a w) ∧
    ∀ i ∈ Region.ready md ops listed, wpOp P ops Q i (fun a' w' => (S w' ∧ (clearB Ws (listed.setIfInBounds i true) = true → T w')) ∧ wpAnyW P md ops Q Ws S T fuel (listed.setIfInBounds i true) a' w') a w
theorem wpAny_of_W : ∀ (fuel : Nat) (listed : Array Bool) (a : Act) (w : World), wpAnyW P md ops Q Ws S T fuel listed a w → wpAny P md ops Q fuel listed a w
  | 0, _, _, _, h => h
  | fuel + 1, _, _, _, h => ⟨h.1, fun i hi => wpOp_mono (fun a' w' h' => wpAny_of_W fuel _ a' w' h'.2) (h.2 i hi)⟩
theorem clear_get {l : Array Bool} (h : clearB Ws l = true) {k : Nat} (hk : k ∈ Ws) : l.getD k true = false := by
  have := List.all_eq_true.1 h k hk
  simpa using this
theorem clear_set {l : Array Bool} (h : clearB Ws l = true) {j : Nat} (hj : j ∉ Ws) : clearB Ws (l.setIfInBounds j true) = true := by
  refine List.all_eq_true.2 fun k hk => ?_
  have hne : j ≠ k := fun e => hj (e ▸ hk)
  have h1 := clear_get h hk
  rw [getD_set_ne true hne, h1]
  rfl

theorem chk_not {l : Array Bool} {i j : Nat} (hc : chkW md ops Ws i = true) (h : clearB Ws l = true) (hi : l.getD i true = false) (hj : j ∈ Region.ready md ops l) : j ∉ Ws := by
  intro hjw
  obtain ⟨_, oj, hoj, hall⟩ := mem_ready.1 hj
  have h1 := List.all_eq_true.1 (Bool.and_eq_true_iff.1 hc).2 j hjw
  rw [hoj] at h1
  obtain ⟨e, he, h2⟩ := Array.any_eq_true'.1 h1
  have h3 := Bool.and_eq_true_iff.1 h2
  have h4 := hall e he h3.1
  have hun : l.getD e.on true = false := by
    rcases Bool.or_eq_true_iff.1 h3.2 with h5 | h5
    · have : e.on = i := by simpa using h5
      rw [this]; exact hi
    · exact clear_get h (by simpa using h5)
  rcases Nat.lt_or_ge e.on l.size with h' | h'
  · simp [h'] at h4 hun; rw [h4] at hun; cases hun
  · simp [Array.getElem?_eq_none h'] at h4
theorem wpAnyW_first {i : Nat} {oi : Oper} {v : Value} (hi : ops[i]? = some oi) (hsel : ∀ (j : Nat) (o : Oper) cs b, ops[j]? = some o → o.op ≠ .select cs b)
    (hQ : ∀ c a w, Q (.panic c) (a.put oi.dst v) w → Q (.panic c) a w) (hc : chkW md ops Ws i = true) :
    ∀ (fuel : Nat) (listed : Array Bool) (a : Act) (w : World),
      (∀ j oj, ops[j]? = some oj → j ≠ i → listed.getD j true = false → (∀ e ∈ oj.after, Region.binds md e = true → e.on ≠ i) → oi.apart ops oj = true) →
      i ∈ Region.ready md ops listed → clearB Ws listed = true → YieldsIf P ops T oi v a → S w → T w →
      wpAnyW P md ops Q Ws S T fuel (listed.setIfInBounds i true) (a.put oi.dst v) w → wpAnyW P md ops Q Ws S T (fuel + 1) listed a w := by
  have hiW : i ∉ Ws := by
    have := (Bool.and_eq_true_iff.1 hc).1
    simpa using this
  intro fuel
  induction fuel with
  | zero =>
    intro listed a w _ hr _ hy hS hT H
    refine ⟨fun h => (by rw [h] at hr; cases hr), fun j hj => ?_⟩
    by_cases hji : j = i
    · subst hji; exact hy.wpOp hi hT ⟨⟨hS, fun _ => hT⟩, H⟩
    · have := ready_mono hj hji
      rw [H.1] at this
      cases this
  | succ fuel ih =>
    intro listed a w hfree hr hcl hy hS hT H
    refine ⟨fun h => (by rw [h] at hr; cases hr), fun j hj => ?_⟩
    by_cases hji : j = i
    · subst hji; exact hy.wpOp hi hT ⟨⟨hS, fun _ => hT⟩, H⟩
    · have h1 := H.2 j (ready_mono hj hji)
      obtain ⟨hjun, oj, hoj, hall⟩ := mem_ready.1 hj
      have hiun := (mem_ready.1 hr).1
      have hjW : j ∉ Ws := chk_not hc hcl hiun hj
      have hnot : ∀ e ∈ oj.after, Region.binds md e = true → e.on ≠ i := fun e he hb heq => by
        have h1 := hall e he hb
        have h0 := hiun
        rw [heq] at h1
        rcases Nat.lt_or_ge i listed.size with h' | h'
        · simp [h'] at h0 h1; rw [h0] at h1; cases h1
        · simp [Array.getElem?_eq_none h'] at h1
      have h2 := wpOp_putIf hoj (hfree j oj hoj hji hjun hnot) (fun cs b => hsel i oi cs b hi) (fun cs b => hsel j oj cs b hoj) hQ hy h1
      have hfree' : ∀ k ok, ops[k]? = some ok → k ≠ i → (listed.setIfInBounds j true).getD k true = false →
          (∀ e ∈ ok.after, Region.binds md e = true → e.on ≠ i) → oi.apart ops ok = true := fun k ok hk hki hun hno => by
        refine hfree k ok hk hki ?_ hno
        by_cases hjk : j = k
        · subst hjk; exact hjun
        · rw [getD_set_ne true hjk] at hun; exact hun
      have hcl2 : clearB Ws (listed.setIfInBounds j true) = true := clear_set hcl hjW
      have hcl3 : clearB Ws ((listed.setIfInBounds i true).setIfInBounds j true) = true := clear_set (clear_set hcl hiW) hjW
      refine wpOp_mono (fun a' w' h3 => ⟨⟨h3.2.1.1, fun _ => h3.2.1.2 hcl3⟩, ih (listed.setIfInBounds j true) a' w' hfree' (ready_mono hr (Ne.symm hji)) hcl2 h3.1 h3.2.1.1 (h3.2.1.2 hcl3) ?_⟩) h2
      rw [Array.setIfInBounds_comm _ _ hji]
      exact h3.2.2
theorem clear_same {l : Array Bool} {i : Nat} (hi : i ∉ Ws) : clearB Ws (l.setIfInBounds i true) = clearB Ws l := by
  rw [Bool.eq_iff_iff]
  refine ⟨fun h => List.all_eq_true.2 fun k hk => ?_, fun h => clear_set h hi⟩
  have h1 := clear_get h hk
  have hne : i ≠ k := fun e => hi (by rw [e]; exact hk)
  rw [getD_set_ne true hne] at h1
  rw [h1]
  rfl
theorem wpAnyW_firstS {i : Nat} {oi : Oper} {v : Value} (hi : ops[i]? = some oi) (hsel : ∀ (j : Nat) (o : Oper) cs b, ops[j]? = some o → o.op ≠ .select cs b)
    (hQ : ∀ c a w, Q (.panic c) (a.put oi.dst v) w → Q (.panic c) a w) (hiW : i ∉ Ws) :
    ∀ (fuel : Nat) (listed : Array Bool) (a : Act) (w : World),
      (∀ j oj, ops[j]? = some oj → j ≠ i → listed.getD j true = false → (∀ e ∈ oj.after, Region.binds md e = true → e.on ≠ i) → oi.apart ops oj = true) →
      i ∈ Region.ready md ops listed → YieldsIf P ops S oi v a → S w → (clearB Ws listed = true → T w) →
      wpAnyW P md ops Q Ws S T fuel (listed.setIfInBounds i true) (a.put oi.dst v) w → wpAnyW P md ops Q Ws S T (fuel + 1) listed a w := by
  intro fuel
  induction fuel with
  | zero =>
    intro listed a w _ hr hy hS hT H
    refine ⟨fun h => (by rw [h] at hr; cases hr), fun j hj => ?_⟩
    by_cases hji : j = i
    · subst hji; exact hy.wpOp hi hS ⟨⟨hS, fun h => hT (by rwa [clear_same hiW] at h)⟩, H⟩
    · have := ready_mono hj hji
      rw [H.1] at this
      cases this
  | succ fuel ih =>
    intro listed a w hfree hr hy hS hT H
    refine ⟨fun h => (by rw [h] at hr; cases hr), fun j hj => ?_⟩
    by_cases hji : j = i
    · subst hji; exact hy.wpOp hi hS ⟨⟨hS, fun h => hT (by rwa [clear_same hiW] at h)⟩, H⟩
    · have h1 := H.2 j (ready_mono hj hji)
      obtain ⟨hjun, oj, hoj, hall⟩ := mem_ready.1 hj
      have hiun := (mem_ready.1 hr).1
      have hnot : ∀ e ∈ oj.after, Region.binds md e = true → e.on ≠ i := fun e he hb heq => by
        have h1 := hall e he hb
        have h0 := hiun
        rw [heq] at h1
        rcases Nat.lt_or_ge i listed.size with h' | h'
        · simp [h'] at h0 h1; rw [h0] at h1; cases h1
        · simp [Array.getElem?_eq_none h'] at h1
      have h2 := wpOp_putIf hoj (hfree j oj hoj hji hjun hnot) (fun cs b => hsel i oi cs b hi) (fun cs b => hsel j oj cs b hoj) hQ hy h1
      have hfree' : ∀ k ok, ops[k]? = some ok → k ≠ i → (listed.setIfInBounds j true).getD k true = false →
          (∀ e ∈ ok.after, Region.binds md e = true → e.on ≠ i) → oi.apart ops ok = true := fun k ok hk hki hun hno => by
        refine hfree k ok hk hki ?_ hno
        by_cases hjk : j = k
        · subst hjk; exact hjun
        · rw [getD_set_ne true hjk] at hun; exact hun
      have hcc : clearB Ws ((listed.setIfInBounds i true).setIfInBounds j true) = clearB Ws (listed.setIfInBounds j true) := by
        rw [Array.setIfInBounds_comm _ _ (Ne.symm hji), clear_same hiW]
      refine wpOp_mono (fun a' w' h3 => ⟨⟨h3.2.1.1, fun h => h3.2.1.2 (by rw [hcc]; exact h)⟩, ih (listed.setIfInBounds j true) a' w' hfree' (ready_mono hr (Ne.symm hji)) h3.1 h3.2.1.1 (fun h => h3.2.1.2 (by rw [hcc]; exact h)) ?_⟩) h2
      rw [Array.setIfInBounds_comm _ _ hji]
      exact h3.2.2
/-- the beginning: the named operations write; S holds throughout, T as long as none of the named has come up. -/
theorem holdW_begin (Ws : List Nat) (S T : World → Prop) {id : Nat} {a : Act} {w : World} (hm : P.follows .mixedOrders = true) (h : wpAnyW P .any ops Q Ws S T ops.size (Array.replicate ops.size false) a w.drew) : (Code.region id ops true).wp P Q a w :=
  wp_region_any hm (wpAny_of_W _ _ _ _ h)
/-- what reads what stays throughout. -/
theorem holdW_read {i : Nat} {oi : Oper} {v : Value} {fuel : Nat} {listed : Array Bool} {a : Act} {w : World} (hST : S w ∧ (clearB Ws listed = true → T w)) (hi : ops[i]? = some oi)
    (hs : Region.noSelect ops = true) (hf : Region.free md ops listed i = true) (hr : (Region.ready md ops listed).contains i = true) (hc : Ws.contains i = false)
    (hQ : ∀ c a w, Q (.panic c) (a.put oi.dst v) w → Q (.panic c) a w) (hw : Region.wanted oi (yielded ops a.tmps) = true)
    (hy : ∀ w', S w' → (execOp a.eval oi).run P w' = .ok (.value v) w')
    (h : wpAnyW P md ops Q Ws S T fuel (listed.setIfInBounds i true) (a.put oi.dst v) w) : wpAnyW P md ops Q Ws S T (fuel + 1) listed a w :=
  wpAnyW_firstS hi (Region.noSelect_spec hs) hQ (by simpa using hc) fuel listed a w (Region.free_spec hi hf) (by simpa using hr) (.inl ⟨hw, hy⟩) hST.1 hST.2 h
/-- what reads what the named will write. -/
theorem holdW_readT {i : Nat} {oi : Oper} {v : Value} {fuel : Nat} {listed : Array Bool} {a : Act} {w : World} (hST : S w ∧ (clearB Ws listed = true → T w)) (hi : ops[i]? = some oi)
    (hs : Region.noSelect ops = true) (hf : Region.free md ops listed i = true) (hr : (Region.ready md ops listed).contains i = true) (hc : chkW md ops Ws i = true) (hcl : clearB Ws listed = true)
    (hQ : ∀ c a w, Q (.panic c) (a.put oi.dst v) w → Q (.panic c) a w) (hw : Region.wanted oi (yielded ops a.tmps) = true)
    (hy : ∀ w', T w' → (execOp a.eval oi).run P w' = .ok (.value v) w')
    (h : wpAnyW P md ops Q Ws S T fuel (listed.setIfInBounds i true) (a.put oi.dst v) w) : wpAnyW P md ops Q Ws S T (fuel + 1) listed a w :=
  wpAnyW_first hi (Region.noSelect_spec hs) hQ hc fuel listed a w (Region.free_spec hi hf) (by simpa using hr) hcl (.inl ⟨hw, hy⟩) hST.1 (hST.2 hcl) h
/-- what comes up alone. -/
theorem holdW_step {i : Nat} {o : Oper} {fuel : Nat} {listed : Array Bool} {a : Act} {w : World} (hr : Region.ready md ops listed = [i]) (ho : ops[i]? = some o) (hw : Region.wanted o (yielded ops a.tmps) = true)
    (h : ∀ K : Act → World → Prop, Hid (∀ a' w', (S w' ∧ (clearB Ws (listed.setIfInBounds i true) = true → T w')) → wpAnyW P md ops Q Ws S T fuel (listed.setIfInBounds i true) a' w' → K a' w') → Oper.wp P o a w K Q) : wpAnyW P md ops Q Ws S T (fuel + 1) listed a w := by
  refine ⟨fun h0 => absurd (hr ▸ h0) (by simp), fun j hj => ?_⟩
  rw [hr] at hj
  have hj' : j = i := by simpa using hj
  subst hj'
  unfold wpOp
  simp only [ho, hw, if_true]
  exact .inl (h _ (Lib.hid fun a' w' hN hk => ⟨hN, hk⟩))
theorem wpAnyW_done {listed : Array Bool} {a : Act} {w : World} (hr : Region.ready md ops listed = []) (h : Q .normal a w) : ∀ fuel, wpAnyW P md ops Q Ws S T fuel listed a w
  | 0 => ⟨hr, h⟩
  | _ + 1 => ⟨fun _ => h, by rw [hr]; simp⟩
end
end Go.Proofs.YtfegdgaanmcecaaGreatDoor
