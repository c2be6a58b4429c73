/-
  PROVED HERE: texts that belong together, one behind the other; what each proves, and under which conditions, its own opening remark says: Commit22, Save22a, Save22, Snap22, SnapSave22, State22, StateSave22.
-/
import Derived.Laws.IdiomStrings
import Derived.Test.YtijjhfkgbmckkaaGreatDoorPkF40
/-
  PROVED HERE: what snap.Committed answers: a tree by itself without the files that are open; conditions: fewer than 100000 items.
-/
namespace Go.Proofs.YtijjhfkgbmckkaaGreatDoor
open Go.RowKit
def dropStep (T : TreeP) (id : Int) : TreeP := match getK T id with | some it => if it.n.kind ≠ 2 ∧ it.n.shut = false then dropT id T else T | none => T
def committedT (T : TreeP) : TreeP := (T.map (·.1)).foldl dropStep T
section
variable {w w' : World} {c c' : Col} {i j bt f : Nat} {q q' : TreeB} {T L : TreeP}
theorem drop_any (h : TreeAt w c i bt q T) (hi : i ≠ 0) (id : Int) (h0 : -9223372036854775808 ≤ id) (h1 : id ≤ 9223372036854775807) :
  Calls Tryz.prog 157 #[.pointer (some ⟨bt, 0, none⟩), .int .i64 id] w fun e w' => (∃ k, e = .returned (.int .i64 k)) ∧ Keep (fun b => b < w.heap.size ∧ c b ≠ i) w w' ∧ ∃ c', Ext w c c' ∧ TreeAt w' c' i bt q (dropStep T id) := by
 unfold dropStep
 cases hg : getK T id with
 | none =>
  refine (drop_not h id h0 h1 (.inl (by unfold fileE; rw [hg]; decide))).mono ?_
  rintro e w' ⟨he, hk⟩
  exact ⟨he, Keep.of_new hk, c, Ext.refl _ _, h.new hk⟩
 | some it =>
  dsimp only
  by_cases hk : it.n.kind ≠ 2 ∧ it.n.shut = false
  ·rw [if_pos hk]
   refine (drop_open h hi h0 h1 hg hk.1 hk.2).mono ?_
   rintro e w' ⟨he, hh⟩
   exact ⟨⟨_, he⟩, hh⟩
  ·rw [if_neg hk]
   refine (drop_not h id h0 h1 ?_).mono ?_
   ·by_cases h2 : it.n.kind = 2
    ·left; unfold fileE; rw [hg]; show (if it.n.kind = 2 then (22 : Int) else 0) ≠ 0; rw [if_pos h2]; decide
    ·right; exact ⟨it, hg, by cases hs : it.n.shut with | true => rfl | false => exact absurd ⟨h2, hs⟩ hk⟩
   ·rintro e w' ⟨he, hk⟩
    exact ⟨he, Keep.of_new hk, c, Ext.refl _ _, h.new hk⟩
/-! ### another colour -/
theorem fresh_col (c : Col) (n : Nat) : ∃ f, f ≠ 0 ∧ ∀ b, b < n → c b ≠ f := by
 induction n with
 | zero => exact ⟨1, by decide, fun b hb => absurd hb (Nat.not_lt_zero b)⟩
 | succ n ih =>
  have : ∀ n : Nat, ∃ m, ∀ b, b < n → c b < m := fun n => by
   induction n with
   | zero => exact ⟨0, fun b hb => absurd hb (Nat.not_lt_zero b)⟩
   | succ n ih =>
    obtain ⟨m, hm⟩ := ih
    refine ⟨max m (c n + 1), fun b hb => ?_⟩
    by_cases e : b = n
    ·subst e; omega
    ·have := hm b (by omega); omega
  obtain ⟨m, hm⟩ := this (n + 1)
  exact ⟨m + 1, by omega, fun b hb => by have := hm b hb; omega⟩
theorem ItemAt.recolor {bi nb : Nat} {id : Int} {it : ItemP} (h : ItemAt w c f bi nb id it) (hf : f ≠ 0) (j : Nat) : ItemAt w (fun b => if c b = f then j else c b) j bi nb id it := by
 obtain ⟨A, cp, h1, h2, h3, h4⟩ := h.cells
 exact ⟨if_pos h.col, ⟨A, cp, h1, h2, h3, h4.imp fun b _ hb => by show (if c b = f then j else c b) = 0; rw [if_neg (by rw [hb]; exact hf.symm)]; exact hb⟩, fun hd => ⟨if_pos (h.names hd).1, (h.names hd).2⟩, h.bare⟩
theorem TreeAt.recolor (h : TreeAt w c f bt q T) (hf : f ≠ 0) (j : Nat) : TreeAt w (fun b => if c b = f then j else c b) j bt q T :=
 ⟨h.tree, h.own, fun k it hg => (h.item k it hg).recolor hf j, ⟨if_pos h.col.1, if_pos h.col.2⟩, h.inj, h.far⟩
theorem foldl_take {α β : Type} (g : β → α → β) (x : β) (l : List α) (n : Nat) (h : n < l.length) : (l.take (n + 1)).foldl g x = g ((l.take n).foldl g x) l[n] := by
 rw [List.take_succ_eq_append_getElem h, List.foldl_append]; rfl
def TreeRet (w : World) (c : Col) (j : Nat) (T : TreeP) (e : Ending) (w' : World) : Prop := ∃ (bt' : Nat) (q' : TreeB) (c' : Col), e = .returned (.pointer (some ⟨bt', 0, none⟩)) ∧ New w w' ∧ w.heap.size ≤ bt' ∧ Ext w c c' ∧ TreeAt w' c' j bt' q' T
set_option maxRecDepth 100000 in
set_option maxHeartbeats 2000000 in
theorem committed_any (h : TreeAt w c i bt q T) (hn : T.length ≤ 100000) (hk : ∀ p ∈ T, -9223372036854775808 ≤ p.1 ∧ p.1 ≤ 9223372036854775807) (j : Nat) :
  Calls Tryz.prog 76 #[.pointer (some ⟨bt, 0, none⟩)] w (TreeRet w c j (committedT T)) := by
 obtain ⟨f, hf, hfr⟩ := fresh_col c w.heap.size
 have HC := Lib.hid (tcopy_any h hn f hf)
 have HFR := Lib.hid hfr
 have HKB := Lib.hid hk
 clear h hfr hk
 go_enter Tryz.func76, Tryz.ntmps76
 go_wp2_with fail
 refine HC.out.mono ?_
 rintro e w1 ⟨bt', q', c1, rfl, k1, hb1, hx1, hT1⟩
 have HI := Lib.hid (ids_any hT1 (by omega))
 have HT1 := Lib.hid hT1
 have HK1 := Lib.hid (And.intro k1 (And.intro hb1 hx1))
 clear hT1 k1 hb1 hx1 HC
 go_wp2_with fail
 refine HI.out.mono ?_
 rintro e w2 ⟨⟨A, cp, rfl, ho⟩, k2⟩
 have HO := Lib.hid ho
 have HK2 := Lib.hid k2
 clear ho k2 HI
 go_wp2_with fail
 obtain ⟨c2, hc2⟩ : ∃ c2, c2 = c1.on w1.heap.size fun _ => f + 1 := ⟨_, rfl⟩
 have HC2 : Hid (Ext w1 c1 c2 ∧ ∀ b, w1.heap.size ≤ b → c2 b ≠ f) := Lib.hid ⟨by rw [hc2]; exact Col.on_ext c1 w1 _, fun b hb => by rw [hc2, Col.on_new _ _ hb]; omega⟩
 have HT2 : Hid (TreeAt w2 c2 f bt' q' T) := Lib.hid (HT1.out.keep HK2.out HC2.out.1 fun _ _ _ => trivial)
 clear hc2
 go_loopw [12] (fun s12 wx => ∃ (n : Nat) (cc : Col), s12 = .int .i64 (n : Int) ∧ n ≤ T.length ∧ Keep (fun b => b < w2.heap.size ∧ c2 b ≠ f) w2 wx ∧ Ext w2 c2 cc ∧ TreeAt wx cc f bt' q' (((T.map (·.1)).take n).foldl dropStep T)) (fun s12 _ => T.length - (intOf s12).toNat)
 case atStart => exact ⟨0, c2, rfl, Nat.zero_le _, Keep.refl _ _, Ext.refl _ _, HT2.out⟩
 case round =>
  obtain ⟨n, cc, rfl, hnl, hK, hX, hT⟩ := hrel
  by_cases hlt : n < T.length
  ·have hl2 : (n : Int) < (T.length : Int) := by omega
   obtain ⟨hb0, hb1⟩ := HKB.out T[n] (List.getElem_mem hlt)
   have hrow := (Row.of_own HO.out)
   obtain ⟨g, off, hA, hgb, hgl, hcell⟩ := hrow.2 (by omega)
   subst hA
   have cn : wr.cell? ⟨g, off + n, none⟩ = some (.int .i64 T[n].1) := hK.cell_some (hcell n _ (by rw [List.getElem?_map, List.getElem?_eq_getElem hlt]; rfl)) ⟨hgl, HC2.out.2 g hgb⟩
   have HD := Lib.hid (drop_any hT hf T[n].1 hb0 hb1)
   have HF := Lib.hid (And.intro hK (And.intro hX hT))
   clear hK hX hT hrow hcell
   go_wp2_with fail
   refine HD.out.mono ?_
   rintro e w4 ⟨⟨k, rfl⟩, k4, c4, hx4, hT4⟩
   have HF4 := Lib.hid (And.intro k4 (And.intro hx4 hT4))
   clear k4 hx4 hT4 HD cn
   go_wp2_with fail
   go_roundw
   case rel =>
    obtain ⟨hK, hX, hT⟩ := HF.out
    obtain ⟨k4, hx4, hT4⟩ := HF4.out
    refine ⟨n + 1, c4, by go_num, hlt, hK.trans2 k4 (fun b hb hd => ⟨Nat.lt_of_lt_of_le hb hK.size, by show cc b ≠ f; rw [hX b hb]; exact hd.2⟩), hX.trans hx4 hK.size, ?_⟩
    rw [foldl_take dropStep T _ n (by rw [List.length_map]; exact hlt)]
    simpa using hT4
   case measure => simp [intOf]; omega
  ·have hl2 : ¬ (n : Int) < (T.length : Int) := by omega
   have HF := Lib.hid (And.intro hK (And.intro hX hT))
   clear hK hX hT
   go_wp2_with fail
   go_ret
   obtain ⟨hK, hX, hT⟩ := HF.out
   obtain ⟨k1, hb1, hx1⟩ := HK1.out
   rw [List.take_of_length_le (by rw [List.length_map]; omega)] at hT
   have hxx : Ext w c cc := hx1.trans (HC2.out.1.trans (hX) HK2.out.size) k1.size
   refine ⟨bt', q', fun b => if cc b = f then j else cc b, rfl, ?_, hb1, fun b hb => ?_, hT.recolor hf j⟩
   ·refine Keep.toNew (D := fun b => b < w.heap.size) ((Keep.of_new (k1.new HK2.out)).trans2 hK fun b hb _ => ⟨Nat.lt_of_lt_of_le hb (Nat.le_trans k1.size HK2.out.size), ?_⟩) fun b hb => hb
    show c2 b ≠ f
    rw [HC2.out.1 b (Nat.lt_of_lt_of_le hb k1.size), hx1 b hb]
    exact HFR.out b hb
   ·show (if cc b = f then j else cc b) = c b
    rw [hxx b hb, if_neg (HFR.out b hb)]
end
end Go.Proofs.YtijjhfkgbmckkaaGreatDoor
/-
  PROVED HERE: plain lemmas for a tree as bytes: its bytes, how many; names as bytes; the sorted keys of a map that may be nil; conditions: the tree is not too large.
-/
namespace Go.Proofs.YtijjhfkgbmckkaaGreatDoor
open Go.RowKit Go.Maps Go.Sort Go.Shelf
/-! ### a tree as bytes -/
def nameBytes (p : List UInt8 × Int) : List UInt8 := lenBytes p.1 ++ beI 2 p.2
def itemBytes (p : Int × ItemP) : List UInt8 := lenBytes (nodeBytes p.1 p.2.n) ++ lenBytes p.2.b ++ beI 2 p.2.names.length ++ (p.2.names.map nameBytes).flatten
def treeBytes (T : TreeP) : List UInt8 := beI 2 T.length ++ (T.map itemBytes).flatten
structure TreeOk (T : TreeP) : Prop where
 few : T.length ≤ 1000
 node : ∀ p ∈ T, NodeOk p.1 p.2.n
 names : ∀ p ∈ T, p.2.names.length ≤ 10000
 short : ∀ p ∈ T, ∀ x ∈ p.2.names, x.1.length ≤ 16
theorem lenBytes_le (b : List UInt8) : (lenBytes b).length ≤ 65537 := by
 unfold lenBytes
 rw [List.length_append, beI_length, List.length_take]
 omega
theorem flatten_le {α : Type} (f : α → List UInt8) (m : Nat) : ∀ (l : List α), (∀ x ∈ l, (f x).length ≤ m) → ((l.map f).flatten).length ≤ l.length * m
 | [], _ => by simp
 | x :: r, h => by
  rw [List.map_cons, List.flatten_cons, List.length_append, List.length_cons, Nat.succ_mul]
  have h1 := h x (List.mem_cons_self ..)
  have h2 := flatten_le f m r fun y hy => h y (List.mem_cons_of_mem _ hy)
  omega
theorem itemBytes_le {p : Int × ItemP} (h : p.2.names.length ≤ 10000) : (itemBytes p).length ≤ 700000000 := by
 unfold itemBytes
 have h1 := lenBytes_le (nodeBytes p.1 p.2.n)
 have h2 := lenBytes_le p.2.b
 have h3 := flatten_le nameBytes 65539 p.2.names fun x _ => by unfold nameBytes; rw [List.length_append, beI_length]; have := lenBytes_le x.1; omega
 rw [List.length_append, List.length_append, List.length_append, beI_length]
 have : p.2.names.length * 65539 ≤ 10000 * 65539 := Nat.mul_le_mul_right _ h
 omega
theorem treeBytes_le {T : TreeP} (h : TreeOk T) : (treeBytes T).length ≤ 700000000002 := by
 unfold treeBytes
 have h1 := flatten_le itemBytes 700000000 T fun p hp => itemBytes_le (h.names p hp)
 rw [List.length_append, beI_length]
 have : T.length * 700000000 ≤ 1000 * 700000000 := Nat.mul_le_mul_right _ h.few
 omega
section
variable {w w' : World} {nb bm : Nat} {c : Col} {i bt : Nat} {q : TreeB} {T : TreeP}
theorem conv_name (nm : List UInt8) (w : World) : ∃ (cp : Nat) (w' : World), (convert 9 22 (.string (strOf nm))).run Tryz.prog w = .ok (.slice (some ⟨w.heap.size, 0, none⟩) nm.length cp) w' ∧ nm.length ≤ cp ∧ New w w' ∧ Bs w' (fun b => w.heap.size ≤ b) (some ⟨w.heap.size, 0, none⟩) nm.length nm := by
 have h := run_bytes_of_string (P := Tryz.prog) w 9 22 5 (strOf nm) Tryz.underlying9 Tryz.underlying22 Tryz.underlying5
 have hs : (strOf nm).size = nm.length := by show nm.toArray.size = _; rw [List.size_toArray]
 rw [hs] at h
 refine ⟨_, _, h, ?_, (New.refl w).drew.alloc _, by rw [List.length_map, Nat.mul_one], fun hn => ⟨w.heap.size, 0, rfl, Nat.le_refl _, ?_, fun k u hu => ?_⟩⟩
 ·exact grownCap_ge _ _ _ _
 ·show w.heap.size < (w.heap.push _).size; simp
 ·have hk : k < nm.length := by have := (List.getElem?_eq_some_iff.1 hu).1; rwa [List.length_map] at this
  have hd : (strOf nm).data = nm.toArray := rfl
  have h3 := bytesRow_at (strOf nm) (grownCap w nm.length 0 5) k (by rw [hd, List.size_toArray]; exact hk)
  have h2 : (w.drew.alloc (.cells (bytesRow (strOf nm) (grownCap w nm.length 0 5)) 5 ((bytesRow (strOf nm) (grownCap w nm.length 0 5)).size, (bytesRow (strOf nm) (grownCap w nm.length 0 5)).size + 1))).heap[w.heap.size]? = some (.cells (bytesRow (strOf nm) (grownCap w nm.length 0 5)) 5 ((bytesRow (strOf nm) (grownCap w nm.length 0 5)).size, (bytesRow (strOf nm) (grownCap w nm.length 0 5)).size + 1)) := by
   show (w.heap.push _)[w.heap.size]? = _
   simp
  rw [Nat.zero_add, cell_of_row _ _ _ _ _ _ h2, h3, ← hu, List.getElem?_map, List.getElem?_eq_getElem hk]
  rfl
theorem sortedN_nil (B1 : Nat) (h1 : w.heap[B1]? = some (.cells #[.map none] 265 (0, 0))) :
  Calls Tryz.prog 205 #[.func (.func 293) #[] #[.pointer (some ⟨B1, 0, none⟩)]] w fun e w' => e = .returned (.slice none 0 0) ∧ New w w' := by
 have hseq : SeqGives Fence.wide 2 Tryz.prog 293 #[.pointer (some ⟨B1, 0, none⟩)] encStr (fun ss : List (List UInt8) => ss = []) 0 w :=
  AnyZ.keys_gives_nil (ρ := keysN_ren) { keysN with } Fence.wide _ trivial rfl B1 w (Array.getElem?_eq_some_iff.1 h1).1 (cellOf h1 (k := 0) rfl)
 have cS := AnyZ.sorted_in sortedN Fence.wide 5 trivial trivial trivial trivial rfl (by omega) (sortsN _) (enters_of Tryz.func292 (by kernel_rfl) rfl) 293 #[.pointer (some ⟨B1, 0, none⟩)] trivial (enters_of Tryz.func293 (by kernel_rfl) rfl) _ 0 (Nat.zero_le _) (by omega) _ hseq
 change CallsIn _ _ Tryz.prog 205 _ _ _ at cS
 refine (callsIn_wide.1 cS).mono ?_
 rintro e w' ⟨v, ss, rfl, hp, hrow, hn, hb⟩
 exact ⟨by rw [hn.2 hp], new_of_below hb⟩
theorem keysNil_any (w : World) : Calls Tryz.prog 206 #[.map none] w fun e w' => e = .returned (.func (.func 293) #[] #[.pointer (some ⟨w.heap.size, 0, none⟩)]) ∧ w' = w.alloc (.cells #[.map none] 265) := by
 go_enter Tryz.func206, Tryz.ntmps206
 go_wp2_with fail
 go_ret
 exact ⟨rfl, rfl⟩
end
end Go.Proofs.YtijjhfkgbmckkaaGreatDoor
/-
  PROVED HERE: what tree.Save answers: the tree as bytes; condition: the tree may be written.
-/
namespace Go.Proofs.YtijjhfkgbmckkaaGreatDoor
open Go.RowKit
section
variable {w w' : World} {nb bm p base : Nat} {c : Col} {i bt : Nat} {q : TreeB} {T : TreeP} {bs : List UInt8}
theorem Wr.newW {w w' : World} (h : Wr w base p bs) (hk : New w w') : Wr w' base p bs := h.keep hk fun _ _ => trivial
theorem Writ.cell_row {w0 : World} {g k : Nat} {u : Value} (h : Writ w0 w' p) (_hW : Wr w0 base p bs) (hg : w.heap.size ≤ g) (hp : p < w.heap.size) (hr : ∀ b, rowBlk w0 p = some b → b < w.heap.size) (hc : w0.cell? ⟨g, k, none⟩ = some u) : w'.cell? ⟨g, k, none⟩ = some u :=
 h.keep.cell_some hc ⟨by show g ≠ p; omega, fun e => by have := hr g e.symm; omega⟩
theorem rowBlk_new {w0 w1 : World} (h : Wr w0 base p bs) (hk : New w0 w1) : ∀ b, rowBlk w1 p = some b → b < w0.heap.size := fun b hb => by
 obtain ⟨A, cc, hc, hown, _⟩ := h.row
 rw [rowBlk_of (hk.cell_some hc trivial)] at hb
 exact (own_lt hown b hb).2
set_option maxRecDepth 100000 in
set_option maxHeartbeats 8000000 in
theorem tsave_any (h : TreeAt w c i bt q T) (hT : TreeOk T) :
  Calls Tryz.prog 106 #[.pointer (some ⟨bt, 0, none⟩)] w fun e w' => (∃ A' c', e = .returned (.slice A' (treeBytes T).length c') ∧ OwnB w' w.heap.size 5 A' (treeBytes T).length c' (treeBytes T)) ∧ New w w' := by
 have HT := Lib.hid h
 have HO := Lib.hid hT
 have hfew := hT.few
 have htl := treeBytes_le hT
 have c0 : w.cell? ⟨bt, 0, none⟩ = some (.map (some q.bm)) := cellOf h.tree (k := 0) rfl
 have hbtl := h.ltT
 clear h hT
 go_enter Tryz.func106, Tryz.ntmps106
 go_wp2_with fail
 refine (newWriter_any w).mono ?_
 rintro e w1 ⟨⟨p, rfl, hW1⟩, k1⟩
 replace c0 := k1.cell_some c0 trivial
 have hlen := (HT.out.own.new k1).len Tryz.underlying268
 have HW1 := Lib.hid hW1
 have HK1 := Lib.hid k1
 clear hW1 k1
 go_wp2_with fail
 refine (wshortW_any _ _ _ (T.length : Int) w1 HW1.out (by simp)).mono ?_
 rintro e w2 ⟨rfl, hW2, hR2⟩
 have HB2 : Hid (Keep (fun b => b < w.heap.size) w w2) := Lib.hid ((Keep.of_new HK1.out).trans (HW1.out.low hR2))
 have HW2 := Lib.hid hW2
 have HI := Lib.hid (ids_any (HT.out.keep HB2.out (Ext.refl _ _) fun b hb _ => hb) (by omega))
 clear hW2 hR2 hlen c0
 go_wp2_with fail
 refine HI.out.mono ?_
 rintro e w3 ⟨⟨A, cp, rfl, ho⟩, k3⟩
 have HROW := Lib.hid ho
 have HK3 := Lib.hid k3
 have HW3 : Hid (Wr w3 w.heap.size p (beI 2 T.length)) := Lib.hid (by have := HW2.out.newW k3; rwa [List.nil_append] at this)
 have HB3 := Lib.hid (HB2.out.new k3)
 clear ho k3 HI
 go_wp2_with fail
 go_loopw [22] (fun s22 wx => ∃ n : Nat, s22 = .int .i64 (n : Int) ∧ n ≤ T.length ∧ Keep (fun b => b < w.heap.size) w wx ∧ Writ w3 wx p ∧ Wr wx w.heap.size p (beI 2 T.length ++ ((T.take n).map itemBytes).flatten)) (fun s22 _ => T.length - (intOf s22).toNat)
 case atStart => exact ⟨0, rfl, Nat.zero_le _, HB3.out, Writ.refl _ _, by simpa using HW3.out⟩
 case round =>
  obtain ⟨n, rfl, hnl, hKw, hWr, hW⟩ := hrel
  by_cases hlt : n < T.length
  ·skip
   have hl2 : (n : Int) < (T.length : Int) := by omega
   obtain ⟨id, hid⟩ : ∃ id, id = T[n].1 := ⟨_, rfl⟩
   obtain ⟨it, hit⟩ : ∃ it, it = T[n].2 := ⟨_, rfl⟩
   have hpair : T[n] = (id, it) := by rw [hid, hit]
   have hg : getK T id = some it := HT.out.own.1.get (by rw [← hpair]; exact List.getElem_mem hlt)
   have hok := HO.out.node T[n] (List.getElem_mem hlt)
   have hnm := HO.out.names T[n] (List.getElem_mem hlt)
   rw [hpair] at hok hnm
   have hnm : it.names.length ≤ 10000 := hnm
   have hok : NodeOk id it.n := hok
   have hTx := HT.out.keep hKw (Ext.refl _ _) fun b hb _ => hb
   have hlk := (hTx.look (id := id) (by have := hok.id; omega) (by have := hok.id; omega)).2
   rw [hg, Option.elim_some] at hlk
   have c0 : wr.cell? ⟨bt, 0, none⟩ = some (.map (some q.bm)) := cellOf hTx.tree (k := 0) rfl
   obtain ⟨An, cpn, x0, x1, x2, x3, x4, x5, x6, x7, hcp, hcm, hBb⟩ := node_cells (HT.out.item id it hg)
   have hbl := (HT.out.item id it hg).lt
   have HBb : Hid (∀ W, Keep (fun b => b < w.heap.size) w W → Bs W (fun b => b < w.heap.size) An it.b.length it.b) := Lib.hid fun W hW => ((hBb.imp (E := fun b => b < w.heap.size) fun b hb _ => hb).keep hW fun b _ hb => hb)
   have hrow := (Row.of_own HROW.out)
   obtain ⟨g, off, hA, hgb, hgl, hcell⟩ := hrow.2 (by omega)
   subst hA
   have hplt := HW2.out.lt
   have cn : wr.cell? ⟨g, off + n, none⟩ = some (.int .i64 id) := hWr.cell_row (w := w2) HW3.out hgb hplt (rowBlk_new HW2.out HK3.out) (hcell n _ (by rw [List.getElem?_map, List.getElem?_eq_getElem hlt, hpair]; rfl))
   have hbnd : (beI 2 T.length ++ ((T.take n).map itemBytes).flatten).length ≤ 700000000002 := by
    have h1 := flatten_le itemBytes 700000000 (T.take n) fun p hp => itemBytes_le (HO.out.names p (List.mem_of_mem_take hp))
    rw [List.length_append, beI_length]
    have : (T.take n).length * 700000000 ≤ 1000 * 700000000 := Nat.mul_le_mul_right _ (by rw [List.length_take]; omega)
    omega
   obtain ⟨pre, hpre⟩ : ∃ pre, pre = beI 2 T.length ++ ((T.take n).map itemBytes).flatten := ⟨_, rfl⟩
   rw [← hpre] at hW hbnd
   have hbl2 : (itemBytes (id, it)).length ≤ 700000000 := itemBytes_le hnm
   have HST := Lib.hid (And.intro hKw (And.intro hWr (And.intro hW (And.intro hpre (And.intro hpair hg)))))
   have HTX := Lib.hid hTx
   have HX : Hid (∀ W, Keep (fun b => b < w.heap.size) w W → ∀ k u, w.cell? ⟨q.β id, k, none⟩ = some u → W.cell? ⟨q.β id, k, none⟩ = some u) := Lib.hid fun W hW k u hc => hW.cell_some hc hbl
   have y0 : wr.cell? ⟨q.β id, 0, none⟩ = some (.int .i64 id) := HX.out wr hKw 0 _ x0
   have y1 : wr.cell? ⟨q.β id, 1, none⟩ = some (.int .i64 it.n.kind) := HX.out wr hKw 1 _ x1
   have y2 : wr.cell? ⟨q.β id, 2, none⟩ = some (.int .i64 it.n.links) := HX.out wr hKw 2 _ x2
   have y3 : wr.cell? ⟨q.β id, 3, none⟩ = some (.int .i64 it.n.size) := HX.out wr hKw 3 _ x3
   have y4 : wr.cell? ⟨q.β id, 4, none⟩ = some (.int .u64 it.n.till) := HX.out wr hKw 4 _ x4
   have y5 : wr.cell? ⟨q.β id, 5, none⟩ = some (.bool it.n.shut) := HX.out wr hKw 5 _ x5
   have HX67 := Lib.hid (And.intro x6 x7)
   have HCP := Lib.hid (And.intro hcp hcm)
   have HEN := Lib.hid (nencode_any hok wr)
   replace hid := Lib.hid hid
   replace hit := Lib.hid hit
   clear hW hWr hKw hTx hrow hcell hBb x0 x1 x2 x3 x4 x5 x6 x7 hcp hcm hpre hpair hg hok hbl
   go_wp2_with fail
   refine HEN.out.mono ?_
   rintro e w5 ⟨⟨A5, c5, rfl, o5⟩, k5⟩
   have HKw5 := Lib.hid (HST.out.1.new k5)
   have HWr5 := Lib.hid (HST.out.2.1.trans (Writ.of_new k5 HST.out.2.2.1.lt))
   have HW5 := Lib.hid (HST.out.2.2.1.newW k5)
   have H5 := Lib.hid (And.intro o5 k5)
   clear o5 k5 HEN y0 y1 y2 y3 y4 y5 cn hlk c0
   go_wp2_with fail
   refine (wbytesW_any _ _ _ A5 16 c5 pre (nodeBytes id it.n) w5 HW5.out (Row.of_own H5.out.1) (fun b hb => ⟨by have := HST.out.2.2.1.lt; omega, fun e => by have := rowBlk_new HST.out.2.2.1 H5.out.2 b e.symm; omega⟩) (own_cap H5.out.1) (by decide) (by omega)).mono ?_
   rintro e w6 ⟨rfl, hW6, hR6⟩
   have HKw6 := Lib.hid (HKw5.out.trans (HW5.out.low hR6))
   have HWr6 := Lib.hid (HWr5.out.trans hR6)
   have HW6 := Lib.hid hW6
   clear hW6 hR6
   have y6 : w6.cell? ⟨q.β id, 6, none⟩ = some (.slice An it.b.length cpn) := HX.out w6 HKw6.out 6 _ HX67.out.1
   go_wp2_with fail
   refine (wbytesW_any _ _ _ An it.b.length cpn _ it.b w6 HW6.out (HBb.out w6 HKw6.out) (fun b hb => ⟨by have := HW6.out.hp; omega, fun e => by have := (HW6.out.rowLt b e.symm).1; omega⟩) HCP.out.1 (Nat.le_trans HCP.out.1 HCP.out.2) (by have := lenBytes_le (nodeBytes id it.n); rw [List.length_append]; omega)).mono ?_
   rintro e w7 ⟨rfl, hW7, hR7⟩
   have HKw7 := Lib.hid (HKw6.out.trans (HW6.out.low hR7))
   have HWr7 := Lib.hid (HWr6.out.trans hR7)
   have HW7 := Lib.hid hW7
   clear hW7 hR7 y6
   have y7 : w7.cell? ⟨q.β id, 7, none⟩ = some (.map (if it.n.kind = 2 then some (q.γ id) else none)) := HX.out w7 HKw7.out 7 _ HX67.out.2
   obtain ⟨mv, hmv⟩ : ∃ mv, mv = (if it.n.kind = 2 then some (q.γ id) else none) := ⟨_, rfl⟩
   rw [← hmv] at y7
   have HNM : Hid (∀ W, Keep (fun b => b < w.heap.size) w W → it.n.kind = 2 → NamesAt W (q.γ id) it.names) := Lib.hid fun W hW hk => ((HT.out.item id it HST.out.2.2.2.2.2).names hk).2.keep hW ((HT.out.item id it HST.out.2.2.2.2.2).names hk).2.lt
   have hlen : ∀ ty, (Builtin.len_ #[265] ty #[.map mv]).run Tryz.prog w7 = .ok (.int .i64 it.names.length) w7 := fun ty => by
    by_cases hk : it.n.kind = 2
    ·rw [hmv, if_pos hk]; exact (HNM.out w7 HKw7.out hk).len Tryz.underlying265 ty
    ·rw [hmv, if_neg hk, (HT.out.item id it HST.out.2.2.2.2.2).bare hk]; exact Maps.len_nil Tryz.underlying265 ty
   have HMV := Lib.hid hmv
   clear hmv
   go_wp2_with fail
   refine (wshortW_any _ _ _ (it.names.length : Int) w7 HW7.out (by have := lenBytes_le (nodeBytes id it.n); have := lenBytes_le it.b; rw [List.length_append, List.length_append]; omega)).mono ?_
   rintro e w8 ⟨rfl, hW8, hR8⟩
   have HKw8 := Lib.hid (HKw7.out.trans (HW7.out.low hR8))
   have HWr8 := Lib.hid (HWr7.out.trans hR8)
   have HW8 := Lib.hid hW8
   clear hW8 hR8 hlen
   replace y7 : w8.cell? ⟨q.β id, 7, none⟩ = some (.map mv) := by rw [HMV.out]; exact HX.out w8 HKw8.out 7 _ HX67.out.2
   have HKY : Hid (Calls Tryz.prog 206 #[.map mv] w8 fun e w' => e = .returned (.func (.func 293) #[] #[.pointer (some ⟨w8.heap.size, 0, none⟩)]) ∧ w' = w8.alloc (.cells #[.map mv] 265)) := Lib.hid (by cases mv with | none => exact keysNil_any w8 | some b => exact keysN_any b w8)
   have k9 := (New.refl w8).alloc (.cells #[.map mv] 265)
   have x9 := heap_alloc_new w8 (.cells #[.map mv] 265)
   have HSO : Hid (Calls Tryz.prog 205 #[.func (.func 293) #[] #[.pointer (some ⟨w8.heap.size, 0, none⟩)]] (w8.alloc (.cells #[.map mv] 265)) fun e w' => (∃ (A : Option Addr) (c : Nat), e = .returned (.slice A it.names.length c) ∧ Own w' (w8.alloc (.cells #[.map mv] 265)).heap.size 9 1 A it.names.length c (it.names.map fun p => .string (strOf p.1))) ∧ New (w8.alloc (.cells #[.map mv] 265)) w') := Lib.hid (by
    by_cases hk : it.n.kind = 2
    ·have hm : mv = some (q.γ id) := by rw [HMV.out, if_pos hk]
     rw [hm] at k9 x9 ⊢
     exact sortedN_any (((HNM.out w8 HKw8.out hk)).new k9) (by omega) _ x9
    ·have hm : mv = none := by rw [HMV.out, if_neg hk]
     have hn := (HT.out.item id it HST.out.2.2.2.2.2).bare hk
     rw [hm] at k9 x9 ⊢
     rw [hn]
     refine (sortedN_nil _ x9).mono ?_
     rintro e w' ⟨he, hk'⟩
     exact ⟨⟨none, 0, he, Own.nil _ _ _ _⟩, hk'⟩)
   have HK9 := Lib.hid k9
   clear k9 x9
   go_wp2_with fail
   refine HKY.out.mono ?_
   rintro e w9 ⟨rfl, rfl⟩
   go_wp2_with fail
   refine HSO.out.mono ?_
   rintro e w10 ⟨⟨A10, c10, rfl, o10⟩, k10⟩
   have HK10 := Lib.hid (HK9.out.new k10)
   have H10 := Lib.hid o10
   have HKw10 := Lib.hid (HKw8.out.new HK10.out)
   have HWr10 := Lib.hid (HWr8.out.trans (Writ.of_new HK10.out HW8.out.lt))
   have HW10 := Lib.hid (HW8.out.newW HK10.out)
   clear o10 k10 HKY HSO y7
   go_wp2_with fail
   obtain ⟨pre2, hpre2⟩ : ∃ pre2, pre2 = pre ++ lenBytes (nodeBytes id it.n) ++ lenBytes it.b ++ beI 2 it.names.length := ⟨_, rfl⟩
   have hb2 : pre2.length ≤ pre.length + 131076 := by rw [hpre2]; have := lenBytes_le (nodeBytes id it.n); have := lenBytes_le it.b; rw [List.length_append, List.length_append, List.length_append, beI_length]; omega
   rw [← hpre2] at HW10
   generalize wr = w4 at *
   go_loopw [63] (fun s63 wx => ∃ m : Nat, s63 = .int .i64 (m : Int) ∧ m ≤ it.names.length ∧ Keep (fun b => b < w.heap.size) w wx ∧ Writ w10 wx p ∧ Wr wx w.heap.size p (pre2 ++ ((it.names.take m).map nameBytes).flatten)) (fun s63 _ => it.names.length - (intOf s63).toNat)
   case atStart => exact ⟨0, rfl, Nat.zero_le _, HKw10.out, Writ.refl _ _, by simpa using HW10.out⟩
   case round =>
    obtain ⟨m, rfl, hml, hKx, hWx, hWw⟩ := hrel
    by_cases hmt : m < it.names.length
    ·skip
     have hl3 : (m : Int) < (it.names.length : Int) := by omega
     obtain ⟨nm, hnm1⟩ : ∃ nm, nm = it.names[m].1 := ⟨_, rfl⟩
     obtain ⟨kk, hkk⟩ : ∃ kk, kk = it.names[m].2 := ⟨_, rfl⟩
     have hpr : it.names[m] = (nm, kk) := by rw [hnm1, hkk]
     have hkd : it.n.kind = 2 := by
      rcases Decidable.em (it.n.kind = 2) with h | h
      ·exact h
      ·have := (HT.out.item id it HST.out.2.2.2.2.2).bare h
       rw [this] at hmt
       exact absurd hmt (Nat.not_lt_zero _)
     have hmvs : mv = some (q.γ id) := by rw [HMV.out, if_pos hkd]
     have hrow := (Row.of_own H10.out)
     obtain ⟨g2, off2, hA, hgb2, hgl2, hcell⟩ := hrow.2 (by omega)
     subst hA
     have cm : wr.cell? ⟨g2, off2 + m, none⟩ = some (.string (strOf nm)) := hWx.cell_row (w := w8) HW10.out (by have := HK9.out.size; omega) HW8.out.lt (rowBlk_new HW8.out HK10.out) (hcell m _ (by rw [List.getElem?_map, List.getElem?_eq_getElem hmt, hpr]; rfl))
     have hgn : getK it.names nm = some kk := (HNM.out wr hKx hkd).1.get (by rw [← hpr]; exact List.getElem_mem hmt)
     obtain ⟨cpc, wc, hconv, hcpc, hkc, hBc⟩ := conv_name nm wr
     have hbm : (pre2 ++ ((it.names.take m).map nameBytes).flatten).length ≤ pre2.length + 655390000 := by
      have h1 := flatten_le nameBytes 65539 (it.names.take m) fun x _ => by unfold nameBytes; rw [List.length_append, beI_length]; have := lenBytes_le x.1; omega
      rw [List.length_append]
      have : (it.names.take m).length * 65539 ≤ 10000 * 65539 := Nat.mul_le_mul_right _ (by rw [List.length_take]; omega)
      omega
     obtain ⟨pre3, hpre3⟩ : ∃ pre3, pre3 = pre2 ++ ((it.names.take m).map nameBytes).flatten := ⟨_, rfl⟩
     rw [← hpre3] at hWw hbm
     have hnw : nm.length ≤ 9223372036854775807 := by
      have h1 := HO.out.short T[n] (List.getElem_mem hlt)
      rw [HST.out.2.2.2.2.1] at h1
      have h2 : it.names[m].1.length ≤ 16 := h1 it.names[m] (List.getElem_mem hmt)
      rw [hpr] at h2
      have h2 : nm.length ≤ 16 := h2
      omega
     have HXX := Lib.hid (And.intro hKx (And.intro hWx (And.intro hWw (And.intro hpre3 (And.intro hpr (And.intro hgn (And.intro hkc (And.intro hBc (And.intro hcpc hkd)))))))))
     replace hnm1 := Lib.hid hnm1
     replace hkk := Lib.hid hkk
     have HMVS := Lib.hid hmvs
     clear hKx hWx hWw hpre3 hpr hgn hkc hBc hcpc hrow hcell hkd hmvs hpre2
     go_wp2_with fail
     obtain ⟨hKx, hWx, hWw, hpre3, hpr, hgn, hkc, hBc, hcpc, hkd⟩ := HXX.out
     refine (wbytesW_any _ _ _ _ nm.length cpc pre3 nm wc (hWw.newW hkc) hBc (fun b hb => ⟨by have := hWw.lt; omega, fun e => by have := rowBlk_new hWw hkc b e.symm; omega⟩) hcpc hnw (by omega)).mono ?_
     rintro e w12 ⟨rfl, hW12, hR12⟩
     have HKx12 := Lib.hid ((hKx.new hkc).trans ((hWw.newW hkc).low hR12))
     have HWx12 := Lib.hid ((hWx.trans (Writ.of_new hkc hWw.lt)).trans hR12)
     have HW12 := Lib.hid hW12
     clear hKx hWx hWw hpre3 hpr hgn hkc hBc hcpc hkd hW12 hR12 hconv cm
     have y7 : w12.cell? ⟨q.β id, 7, none⟩ = some (.map (some (q.γ id))) := by rw [← HMVS.out, HMV.out]; exact HX.out w12 HKx12.out 7 _ HX67.out.2
     have hlk : (Instr.lookup 265 (.map (some (q.γ id))) (.string (strOf nm)) false).run Tryz.prog w12 = .ok (.int .i64 kk) w12 := by
      have := ((HNM.out w12 HKx12.out HXX.out.2.2.2.2.2.2.2.2.2).look Tryz.underlying265 (zero_int w12) (k := nm) hnw).2
      rw [HXX.out.2.2.2.2.2.1, Option.elim_some] at this
      exact this
     go_wp2_with fail
     refine (wshortW_any _ _ _ kk w12 HW12.out (by have := lenBytes_le nm; rw [List.length_append]; omega)).mono ?_
     rintro e w13 ⟨rfl, hW13, hR13⟩
     have HF := Lib.hid (And.intro (HKx12.out.trans (HW12.out.low hR13)) (And.intro (HWx12.out.trans hR13) hW13))
     clear hW13 hR13 hlk y7
     go_wp2_with fail
     go_roundw
     case rel =>
      obtain ⟨f1, f2, f3⟩ := HF.out
      refine ⟨m + 1, by go_num, hmt, f1, f2, ?_⟩
      have e1 : (it.names.take (m + 1)) = it.names.take m ++ [(nm, kk)] := by rw [List.take_succ_eq_append_getElem hmt, HXX.out.2.2.2.2.1]
      rw [e1, List.map_append, List.flatten_append]
      rw [HXX.out.2.2.2.1] at f3
      simpa [nameBytes] using f3
     case measure => simp [intOf]; omega
    ·have hl3 : ¬ (m : Int) < (it.names.length : Int) := by omega
     have hTn : it.names.take m = it.names := List.take_of_length_le (by omega)
     rw [hTn] at hWw
     have HF := Lib.hid (And.intro hKx (And.intro hWx hWw))
     clear hKx hWx hWw hTn
     go_wp2_with fail
     go_roundw
     case rel =>
      obtain ⟨f1, f2, f3⟩ := HF.out
      refine ⟨n + 1, by go_num, hlt, f1, HWr10.out.trans f2, ?_⟩
      have e1 : (T.take (n + 1)) = T.take n ++ [(id, it)] := by rw [List.take_succ_eq_append_getElem hlt, HST.out.2.2.2.2.1]
      rw [e1, List.map_append, List.flatten_append]
      rw [hpre2, HST.out.2.2.2.1] at f3
      simpa [itemBytes] using f3
     case measure => simp [intOf]; omega
  ·skip
   have hl2 : ¬ (n : Int) < (T.length : Int) := by omega
   have hTn : T.take n = T := List.take_of_length_le (by omega)
   rw [hTn] at hW
   have HW : Hid (Wr wr w.heap.size p (treeBytes T)) := Lib.hid hW
   have HKw := Lib.hid hKw
   clear hW hKw hWr hTn
   go_wp2_with fail
   refine (done_any _ _ _ wr HW.out (by omega)).mono ?_
   rintro e w9 ⟨⟨A', c', rfl, ho⟩, k9⟩
   have HF := Lib.hid (And.intro ho k9)
   clear ho k9
   generalize hL : (treeBytes T).length = L at *
   go_wp2_with fail
   go_ret
   obtain ⟨ho, k9⟩ := HF.out
   subst hL
   exact ⟨⟨A', c', rfl, ownsRow_base_a ho HKw.out.size⟩, (HKw.out.new k9).toNew fun b hb => hb⟩
end
/-
  PROVED HERE: snapshots in memory; what snap.New, Snaps.Save answer; condition: the snapshots may be written.
-/
structure SnapP where
 id : Int
 hash : List UInt8
 T : TreeP
structure SnapsP where
 list : List SnapP
 next : Int
 last : List UInt8
def noSnaps : SnapsP := ⟨[], 1, []⟩
structure SnapB where
 A : Option Addr
 ca : Nat
 bt : Nat
 q : TreeB
structure SnapsB where
 A : Option Addr
 ca : Nat
 L : Option Addr
 cl : Nat
 β : Nat → SnapB
structure SnapAt (w : World) (c : Col) (vs : List Value) (i : Nat) (β : SnapB) (s : SnapP) : Prop where
 id : vs[i]? = some (.int .i64 s.id)
 hash : vs[i + 1]? = some (.slice β.A s.hash.length β.ca)
 tree : vs[i + 2]? = some (.pointer (some ⟨β.bt, 0, none⟩))
 cap : s.hash.length ≤ β.ca ∧ β.ca ≤ 9223372036854775807
 bytes : Bs w (fun b => c b = 0) β.A s.hash.length s.hash
 at_ : TreeAt w c 0 β.bt β.q s.T
structure SnapsAt (w : World) (c : Col) (i : Nat) (bs : Nat) (Q : SnapsB) (ns : SnapsP) : Prop where
 snaps : w.heap[bs]? = some (.cells #[.slice Q.A ns.list.length Q.ca, .int .i64 ns.next, .slice Q.L ns.last.length Q.cl] 236 (0, 0))
 col : c bs = i ∧ ∀ g, blk Q.A = some g → c g = i ∧ g ≠ bs
 last : ns.last.length ≤ Q.cl ∧ Q.cl ≤ 9223372036854775807 ∧ Bs w (fun b => c b = 0) Q.L ns.last.length ns.last
 row : ∃ vs, Own w 0 234 3 Q.A ns.list.length Q.ca vs ∧ ∀ k (h : k < ns.list.length), SnapAt w c vs (k * 3) (Q.β k) ns.list[k]
section
variable {w w' : World} {c c' : Col} {i bs : Nat} {Q : SnapsB} {ns : SnapsP} {F : Nat → Prop} {vs : List Value} {k : Nat} {β : SnapB} {s : SnapP}
theorem bs_col {A : Option Addr} {n : Nat} {b : List UInt8} (h : Bs w (fun b => c b = 0) A n b) (hk : Keep F w w') (hx : Ext w c c') (h0 : ∀ b, b < w.heap.size → c b = 0 → F b) : Bs w' (fun b => c' b = 0) A n b :=
 (((h.imp (E := fun b => c b = 0 ∧ c' b = 0) fun b hb hd => ⟨hd, (hx b hb).trans hd⟩).keep hk (fun b hb hd => h0 b hb hd.1)).imp fun _b _ hd => hd.2)
theorem SnapAt.keep (h : SnapAt w c vs k β s) (hk : Keep F w w') (hx : Ext w c c') (h0 : ∀ b, b < w.heap.size → c b = 0 → F b) : SnapAt w' c' vs k β s :=
 ⟨h.id, h.hash, h.tree, h.cap, bs_col h.bytes hk hx h0, h.at_.keep hk hx fun b hb hc => h0 b hb (hc.elim (fun x => x) fun x => x)⟩
theorem SnapsAt.lt (h : SnapsAt w c i bs Q ns) : bs < w.heap.size := (Array.getElem?_eq_some_iff.1 h.snaps).1
theorem SnapsAt.keep (h : SnapsAt w c i bs Q ns) (hk : Keep F w w') (hx : Ext w c c') (hF : ∀ b, b < w.heap.size → c b = i ∨ c b = 0 → F b) : SnapsAt w' c' i bs Q ns := by
 obtain ⟨vs, h1, h2⟩ := h.row
 exact ⟨(hk.block bs h.lt (hF _ h.lt (.inl h.col.1))).trans h.snaps, ⟨(hx _ h.lt).trans h.col.1, fun g hg => ⟨(hx _ (own_lt h1 g hg).2).trans (h.col.2 g hg).1, (h.col.2 g hg).2⟩⟩,
  ⟨h.last.1, h.last.2.1, bs_col h.last.2.2 hk hx fun b hb hc => hF b hb (.inr hc)⟩,
  vs, own_keep h1 hk (fun g hg => hF g (own_lt h1 g hg).2 (.inl (h.col.2 g hg).1)), fun k hk' => (h2 k hk').keep hk hx fun b hb hc => hF b hb (.inr hc)⟩
theorem SnapsAt.new (h : SnapsAt w c i bs Q ns) (hk : New w w') : SnapsAt w' c i bs Q ns := h.keep hk (Ext.refl _ _) fun _ _ _ => trivial
theorem SnapsAt.at3 (h : SnapsAt w c i bs Q ns) {k : Nat} (hk : k < ns.list.length) : ∃ g, Q.A = some ⟨g, 0, none⟩ ∧ g < w.heap.size ∧ w.cell? ⟨g, k * 3, none⟩ = some (.int .i64 ns.list[k].id) ∧ w.cell? ⟨g, k * 3 + 1, none⟩ = some (.slice (Q.β k).A ns.list[k].hash.length (Q.β k).ca) ∧ w.cell? ⟨g, k * 3 + 2, none⟩ = some (.pointer (some ⟨(Q.β k).bt, 0, none⟩)) ∧
  ns.list[k].hash.length ≤ (Q.β k).ca ∧ (Q.β k).ca ≤ 9223372036854775807 ∧ Bs w (fun b => c b = 0) (Q.β k).A ns.list[k].hash.length ns.list[k].hash ∧ TreeAt w c 0 (Q.β k).bt (Q.β k).q ns.list[k].T := by
 obtain ⟨vs, h1, h2⟩ := h.row
 have hs := h2 k hk
 obtain ⟨g, cap, hv, hb, hlt⟩ := h1.form (by omega)
 have hA : Q.A = some ⟨g, 0, none⟩ := by injection hv
 have hc : ∀ j u, vs[j]? = some u → w.cell? ⟨g, j, none⟩ = some u := fun j u hu => by
  have := h1.cells (g := g) (by rw [hA]; rfl) j u hu
  simpa [Addr.add_lit] using this
 exact ⟨g, hA, hlt, hc _ _ hs.id, hc _ _ hs.hash, hc _ _ hs.tree, hs.cap.1, hs.cap.2, hs.bytes, hs.at_⟩
set_option maxRecDepth 100000 in
theorem snew_any (c : Col) (i : Nat) (w : World) :
  Calls Tryz.prog 126 #[] w fun e w' => ∃ (bs : Nat) (Q : SnapsB) (c' : Col), e = .returned (.pointer (some ⟨bs, 0, none⟩)) ∧ New w w' ∧ w.heap.size ≤ bs ∧ Ext w c c' ∧ SnapsAt w' c' i bs Q noSnaps := by
 go_enter Tryz.func126, Tryz.ntmps126
 go_wp2_with fail
 go_ret
 refine ⟨w.heap.size, ⟨none, 0, none, 0, fun _ => ⟨none, 0, 0, ⟨0, fun _ => 0, fun _ => 0⟩⟩⟩, c.on w.heap.size fun _ => i, rfl, (New.refl w).alloc _, Nat.le_refl _, c.on_ext w _, heap_alloc_new w _, ⟨c.on_new _ (Nat.le_refl _), fun g hg => by cases hg⟩, ⟨Nat.le_refl _, by decide, Row.nil _ _ _ _⟩, [], Own.nil _ _ _ _, fun k hk => absurd hk (Nat.not_lt_zero k)⟩
end
/-! ### snapshots as bytes -/
def snapBytes (s : SnapP) : List UInt8 := beI 8 s.id ++ lenBytes s.hash ++ beI 8 (treeBytes s.T).length ++ treeBytes s.T
def snapsBytes (ns : SnapsP) : List UInt8 := beI 8 ns.next ++ lenBytes ns.last ++ beI 1 ns.list.length ++ (ns.list.map snapBytes).flatten
structure SnapsOk (ns : SnapsP) : Prop where
 few : ns.list.length ≤ 8
 tree : ∀ s ∈ ns.list, TreeOk s.T ∧ (treeBytes s.T).length ≤ 100000000000
theorem snapBytes_le {s : SnapP} (h : (treeBytes s.T).length ≤ 100000000000) : (snapBytes s).length ≤ 100000100000 := by
 unfold snapBytes
 have := lenBytes_le s.hash
 rw [List.length_append, List.length_append, List.length_append, beI_length, beI_length]
 omega
theorem snapsBytes_le {ns : SnapsP} (h : SnapsOk ns) : (snapsBytes ns).length ≤ 800001000000 := by
 unfold snapsBytes
 have h1 := flatten_le snapBytes 100000100000 ns.list fun s hs => snapBytes_le (h.tree s hs).2
 have h2 := lenBytes_le ns.last
 rw [List.length_append, List.length_append, List.length_append, beI_length, beI_length]
 have : ns.list.length * 100000100000 ≤ 8 * 100000100000 := Nat.mul_le_mul_right _ h.few
 omega
/-
  PROVED HERE: what Snaps.Save answers: the snapshots as bytes; condition: they may be written.
-/
section
variable {w : World} {c : Col} {i bs : Nat} {Q : SnapsB} {ns : SnapsP}
theorem Writ.cell_ne {w0 w' : World} {p g k : Nat} {u : Value} (h : Writ w0 w' p) (hn : g ≠ p ∧ some g ≠ rowBlk w0 p) (hc : w0.cell? ⟨g, k, none⟩ = some u) : w'.cell? ⟨g, k, none⟩ = some u := h.keep.cell_some hc hn
set_option maxRecDepth 100000 in
set_option maxHeartbeats 4000000 in
theorem ssave_any (h : SnapsAt w c i bs Q ns) (hN : SnapsOk ns) :
  Calls Tryz.prog 110 #[.pointer (some ⟨bs, 0, none⟩)] w fun e w' => (∃ A' c', e = .returned (.slice A' (snapsBytes ns).length c') ∧ OwnB w' w.heap.size 5 A' (snapsBytes ns).length c' (snapsBytes ns)) ∧ New w w' := by
 have HT := Lib.hid h
 have HO := Lib.hid hN
 have hfew := hN.few
 have htl := snapsBytes_le hN
 have hlt := h.lt
 have c0 : w.cell? ⟨bs, 0, none⟩ = some (.slice Q.A ns.list.length Q.ca) := cellOf h.snaps (k := 0) rfl
 have c1 : w.cell? ⟨bs, 1, none⟩ = some (.int .i64 ns.next) := cellOf h.snaps (k := 1) rfl
 have c2 : w.cell? ⟨bs, 2, none⟩ = some (.slice Q.L ns.last.length Q.cl) := cellOf h.snaps (k := 2) rfl
 have HC := Lib.hid (And.intro c0 (And.intro c1 c2))
 have hr := wrap_u64_bd ns.next
 have HE := Lib.hid (beI_wrap 8 ns.next (by decide))
 clear h hN c0 c1 c2
 go_enter Tryz.func110, Tryz.ntmps110
 go_wp2_with fail
 refine (newWriter_any w).mono ?_
 rintro e w1 ⟨⟨p, rfl, hW1⟩, k1⟩
 have y1 := k1.cell_some HC.out.2.1 trivial
 have HB := Lib.hid (Keep.of_new (D := fun b => b < w.heap.size) k1)
 have HW := Lib.hid hW1
 clear hW1 k1
 go_wp2_with fail
 refine (wlong_any _ _ _ (IntKind.u64.wrap ns.next) w1 HW.out hr.1 hr.2 (by decide)).mono ?_
 rintro e w2 ⟨rfl, hW, hk⟩
 rw [HE.out] at hW
 replace HB := Lib.hid (HB.out.trans hk)
 replace HW := Lib.hid hW
 clear hW hk y1
 have y2 := HB.out.cell_some HC.out.2.2 hlt
 go_wp2_with fail
 refine (wbytes_any _ _ (fun b => b < w.heap.size) Q.L ns.last.length Q.cl _ ns.last w2 HW.out ((HT.out.last.2.2.imp (E := fun b => b < w.heap.size) fun b hb _ => hb).keep HB.out fun b hb _ => by assumption) (fun b hb => hb) HT.out.last.1 (Nat.le_trans HT.out.last.1 HT.out.last.2.1) (by simp [beI_length])).mono ?_
 rintro e w3 ⟨rfl, hW, hk⟩
 replace HB := Lib.hid (HB.out.trans hk)
 replace HW := Lib.hid hW
 clear hW hk y2
 have y0 := HB.out.cell_some HC.out.1 hlt
 go_wp2_with fail
 refine (wbyte_any _ _ _ (ns.list.length : Int) w3 HW.out (by have := lenBytes_le ns.last; simp [beI_length]; omega)).mono ?_
 rintro e w4 ⟨rfl, hW, hk⟩
 replace HB := Lib.hid (HB.out.trans hk)
 replace HW := Lib.hid hW
 clear hW hk y0
 have y0 := HB.out.cell_some HC.out.1 hlt
 obtain ⟨pre0, hpre0⟩ : ∃ x, x = [] ++ beI 8 ns.next ++ lenBytes ns.last ++ beI 1 ns.list.length := ⟨_, rfl⟩
 have hp0 : pre0.length ≤ 70000 := by rw [hpre0]; have := lenBytes_le ns.last; simp [beI_length]; omega
 have HP0 := Lib.hid hpre0
 rw [← hpre0] at HW
 clear hpre0
 go_wp2_with fail
 clear y0
 go_loopw [33] (fun s33 wx => ∃ n : Nat, s33 = .int .i64 (n : Int) ∧ n ≤ ns.list.length ∧ Keep (fun b => b < w.heap.size) w wx ∧ Wr wx w.heap.size p (pre0 ++ ((ns.list.take n).map snapBytes).flatten)) (fun s33 _ => ns.list.length - (intOf s33).toNat)
 case atStart => exact ⟨0, rfl, Nat.zero_le _, HB.out, by simpa using HW.out⟩
 case round =>
  obtain ⟨n, rfl, hnl, hKw, hW⟩ := hrel
  by_cases hlt2 : n < ns.list.length
  ·skip
   have hl2 : (n : Int) < (ns.list.length : Int) := by omega
   obtain ⟨s, hs⟩ : ∃ s, s = ns.list[n] := ⟨_, rfl⟩
   obtain ⟨g, hA, hgl, z0, z1, z2, hh1, hh2, hbs, htr⟩ := HT.out.at3 hlt2
   have hok := HO.out.tree ns.list[n] (List.getElem_mem hlt2)
   rw [← hs] at z0 z1 hh1 hbs htr hok
   have hbnd : (pre0 ++ ((ns.list.take n).map snapBytes).flatten).length ≤ 800001000000 := by
    have h1 := flatten_le snapBytes 100000100000 (ns.list.take n) fun s hs => snapBytes_le (HO.out.tree s (List.mem_of_mem_take hs)).2
    rw [List.length_append]
    have : (ns.list.take n).length * 100000100000 ≤ 8 * 100000100000 := Nat.mul_le_mul_right _ (by rw [List.length_take]; omega)
    omega
   obtain ⟨pre, hpre⟩ : ∃ x, x = pre0 ++ ((ns.list.take n).map snapBytes).flatten := ⟨_, rfl⟩
   rw [← hpre] at hW hbnd
   have q0 := hKw.cell_some z0 hgl
   have q1 := hKw.cell_some z1 hgl
   have q2 := hKw.cell_some z2 hgl
   have hA2 : Q.A = some ⟨g, 0, none⟩ := hA
   have HST := Lib.hid (And.intro hKw (And.intro hW (And.intro hpre (And.intro hs (And.intro hbs (And.intro htr (And.intro hok (And.intro hh1 hh2))))))))
   rw [hA]
   obtain ⟨bq, hbq⟩ : ∃ b, b = (Q.β n).bt := ⟨_, rfl⟩
   obtain ⟨aq, haq⟩ : ∃ b, b = (Q.β n).A := ⟨_, rfl⟩
   obtain ⟨cq, hcq⟩ : ∃ b, b = (Q.β n).ca := ⟨_, rfl⟩
   rw [← haq, ← hcq] at q1
   rw [← hbq] at q2
   have HQ := Lib.hid (And.intro hbq (And.intro haq hcq))
   clear hKw hW hpre hs hbs htr hok hh1 hh2 z0 z1 z2 hA hA2 hbq haq hcq
   go_upto_region 8 with fail
   have kA := (New.refl wr).alloc (.cells #[.int .i64 s.id, .slice aq s.hash.length cq, .pointer (some ⟨bq, 0, none⟩)] 234)
   have xA := heap_alloc_new wr (.cells #[.int .i64 s.id, .slice aq s.hash.length cq, .pointer (some ⟨bq, 0, none⟩)] 234)
   generalize wr.alloc (.cells #[.int .i64 s.id, .slice aq s.hash.length cq, .pointer (some ⟨bq, 0, none⟩)] 234) = w5 at *
   obtain ⟨gs, hgs⟩ : ∃ gs, gs = wr.heap.size := ⟨_, rfl⟩
   rw [← hgs] at xA ⊢
   obtain ⟨s0, s1, s2⟩ := cs3 xA
   have HS := Lib.hid (And.intro s0 s1)
   have HKA := Lib.hid kA
   have HGS := Lib.hid hgs
   clear kA xA q0 q1 q2 s0 s1 hgs
   have HTS := Lib.hid (tsave_any (((HST.out.2.2.2.2.2.1).keep (Keep.new HST.out.1 HKA.out) (Ext.refl _ _) fun b hb _ => hb)) HST.out.2.2.2.2.2.2.1.1)
   rw [← HQ.out.1] at HTS
   go_wp2_with fail
   refine HTS.out.mono ?_
   rintro e w6 ⟨⟨At, ct, rfl, ot⟩, k6⟩
   obtain ⟨hKw, hW, hpre, hs, hbs, htr, hok, hh1, hh2⟩ := HST.out
   have HNE : Hid (gs ≠ p ∧ some gs ≠ rowBlk w6 p) := Lib.hid ⟨by have := hW.lt; have := HGS.out; omega, fun e => by have := rowBlk_new hW (HKA.out.new k6) gs e.symm; have := HGS.out; omega⟩
   have hs0 := k6.cell_some HS.out.1 trivial
   have HS6 := Lib.hid (And.intro hs0 (k6.cell_some HS.out.2 trivial))
   have HB6 := Lib.hid ((hKw.new HKA.out).new k6)
   have HW6 := Lib.hid ((hW.newW HKA.out).newW k6)
   have HOT := Lib.hid ot
   have HK6 := Lib.hid k6
   have HTL := Lib.hid hok.2
   have hlp : pre.length ≤ 800001000000 := hbnd
   have hsr := wrap_u64_bd s.id
   have HSE := Lib.hid (beI_wrap 8 s.id (by decide))
   obtain ⟨tb, htb⟩ : ∃ tb, tb = treeBytes s.T := ⟨_, rfl⟩
   rw [← htb] at HOT HTL ⊢
   obtain ⟨tn, htn⟩ : ∃ tn, tn = tb.length := ⟨_, rfl⟩
   rw [← htn] at HOT HTL ⊢
   have HTN := Lib.hid (And.intro htb htn)
   clear hKw hW hpre hs hbs htr hok hh1 hh2 ot k6 s2 HS HTS htb htn
   go_wp2_with fail
   refine (wlongW_any _ _ _ (IntKind.u64.wrap s.id) w6 HW6.out hsr.1 hsr.2 (by omega)).mono ?_
   rintro e w7 ⟨rfl, hW, hR⟩
   rw [HSE.out] at hW
   have HB7 := Lib.hid (HB6.out.trans (HW6.out.low hR))
   have HR7 := Lib.hid hR
   have HW7 := Lib.hid hW
   have s1 := hR.cell_ne HNE.out HS6.out.2
   clear hW hR hs0
   go_wp2_with fail
   refine (wbytesW_any _ _ (fun b => b < w.heap.size) aq s.hash.length cq _ s.hash w7 HW7.out (by rw [HQ.out.2.1]; exact ((HST.out.2.2.2.2.1).imp (E := fun b => b < w.heap.size) fun b hb _ => hb).keep HB7.out fun b hb _ => by assumption) (fun b hb => ⟨by have := HW7.out.hp; omega, fun e => by have := (HW7.out.rowLt b e.symm).1; omega⟩) (by rw [HQ.out.2.2]; exact HST.out.2.2.2.2.2.2.2.1) (by have := HST.out.2.2.2.2.2.2.2; omega) (by rw [List.length_append, beI_length]; omega)).mono ?_
   rintro e w8 ⟨rfl, hW, hR⟩
   have HB8 := Lib.hid (HB7.out.trans (HW7.out.low hR))
   have HR8 := Lib.hid (HR7.out.trans hR)
   have HW8 := Lib.hid hW
   clear hW hR s1
   go_wp2_with fail
   have hhl := lenBytes_le s.hash
   have hl8 : (pre ++ beI 8 s.id ++ lenBytes s.hash).length ≤ pre.length + 70000 := by rw [List.length_append, List.length_append, beI_length]; omega
   have htl2 := HTL.out
   have htr2 := wrap_u64_bd (tn : Int)
   refine (wlongW_any _ _ _ (IntKind.u64.wrap (tn : Int)) w8 HW8.out htr2.1 htr2.2 (by omega)).mono ?_
   rintro e w9 ⟨rfl, hW, hR⟩
   rw [beI_wrap 8 (tn : Int) (by decide)] at hW
   have HB9 := Lib.hid (HB8.out.trans (HW8.out.low hR))
   have HR9 := Lib.hid (HR8.out.trans hR)
   have HW9 := Lib.hid hW
   clear hW hR
   have hbt := ((Row.of_own HOT.out).imp (E := fun b => b ≠ p ∧ some b ≠ rowBlk w6 p) fun b hb hd => ⟨by have := HNE.out.1; have := HST.out.2.1.lt; have := HKA.out.size; omega, fun e => by have := rowBlk_new (HST.out.2.1.newW HKA.out) HK6.out b e.symm; omega⟩)
   go_wp2_with fail
   refine (rawW_any _ _ _ At tn ct _ tb w9 HW9.out (hbt.keep HR9.out.keep fun b _ hb => hb) (by rw [List.length_append, beI_length]; omega)).mono ?_
   rintro e w10 ⟨rfl, hW, hR⟩
   have HF := Lib.hid (And.intro (HB9.out.trans (HW9.out.low hR)) hW)
   clear hW hR hbt
   go_wp2_with fail
   go_roundw
   case rel =>
    obtain ⟨f1, f2⟩ := HF.out
    refine ⟨n + 1, by go_num, hlt2, f1, ?_⟩
    have e1 : (ns.list.take (n + 1)) = ns.list.take n ++ [s] := by rw [List.take_succ_eq_append_getElem hlt2, HST.out.2.2.2.1]
    rw [e1, List.map_append, List.flatten_append]
    rw [HST.out.2.2.1, HTN.out.2, HTN.out.1] at f2
    simpa [snapBytes] using f2
   case measure => simp [intOf]; omega
  ·skip
   have hl2 : ¬ (n : Int) < (ns.list.length : Int) := by omega
   have hTn : ns.list.take n = ns.list := List.take_of_length_le (by omega)
   rw [hTn, HP0.out, List.nil_append] at hW
   have HW : Hid (Wr wr w.heap.size p (snapsBytes ns)) := Lib.hid hW
   have HKw := Lib.hid hKw
   clear hW hKw hTn
   go_wp2_with fail
   refine (done_any _ _ _ wr HW.out (by omega)).mono ?_
   rintro e w9 ⟨⟨A', c', rfl, ho⟩, k9⟩
   have HF := Lib.hid (And.intro ho k9)
   clear ho k9
   generalize hL : (snapsBytes ns).length = L at *
   go_wp2_with fail
   go_ret
   obtain ⟨ho, k9⟩ := HF.out
   subst hL
   exact ⟨⟨A', c', rfl, ownsRow_base_a ho HKw.out.size⟩, (HKw.out.new k9).toNew fun b hb => hb⟩
end
/-
  PROVED HERE: a state in memory; what state.New answers; no condition.
-/
structure FdP where
 writing : Bool
 id : Int
 b : List UInt8
structure StateP where
 T : TreeP
 S : SnapsP
 now : Int
 fd : Nat → Option FdP
def stateNew : StateP := ⟨[(0, freshItem 2)], noSnaps, 0, fun _ => none⟩
structure StateB where
 bt : Nat
 q : TreeB
 bs : Nat
 Q : SnapsB
 fd : Nat → Option Nat
def StateB.ptr (B : StateB) (k : Nat) : Value := .pointer ((B.fd k).map fun b => ⟨b, 0, none⟩)
def FdAt (w : World) (c : Col) : Option Nat → Option FdP → Prop
 | none, none => True
 | some b, some f => c b = 0 ∧ ∃ A cp, w.heap[b]? = some (.cells #[.bool f.writing, .int .i64 f.id, .slice A f.b.length cp] 260 (0, 0)) ∧ f.b.length ≤ cp ∧ cp ≤ 9223372036854775807 ∧ Bs w (fun b => c b = 0) A f.b.length f.b
 | _, _ => False
def stateCells (B : StateB) (now : Int) : Array Value := #[.pointer (some ⟨B.bt, 0, none⟩), .pointer (some ⟨B.bs, 0, none⟩), .int .u64 now, B.ptr 0, B.ptr 1, B.ptr 2, B.ptr 3, B.ptr 4, B.ptr 5, B.ptr 6, B.ptr 7]
structure Cols where
 t : Nat
 s : Nat
 o : Nat
structure Cols.Ok (i : Cols) : Prop where
 nz : i.t ≠ 0 ∧ i.s ≠ 0 ∧ i.o ≠ 0
 ne : i.t ≠ i.s ∧ i.t ≠ i.o ∧ i.s ≠ i.o
def Cols.has (i : Cols) (k : Nat) : Prop := k = i.t ∨ k = i.s ∨ k = i.o
structure StateAt (w : World) (c : Col) (i : Cols) (b : Nat) (B : StateB) (s : StateP) : Prop where
 state : w.heap[b]? = some (.cells (stateCells B s.now) 134 (0, 0))
 col : c b = i.o
 tree : TreeAt w c i.t B.bt B.q s.T
 snaps : SnapsAt w c i.s B.bs B.Q s.S
 fd : ∀ k, k < 8 → FdAt w c (B.fd k) (s.fd k)
 ok : i.Ok
section
variable {w w' : World} {c c' : Col} {i : Cols} {b : Nat} {B : StateB} {s : StateP} {F : Nat → Prop}
theorem FdAt.keep {a : Option Nat} {f : Option FdP} (h : FdAt w c a f) (hk : Keep F w w') (hx : Ext w c c') (h0 : ∀ b, b < w.heap.size → c b = 0 → F b) : FdAt w' c' a f := by
 cases a with
 | none => cases f with | none => trivial | some _ => exact h.elim
 | some b => cases f with
  | none => exact h.elim
  | some f =>
   obtain ⟨h1, A, cp, h2, h3, h4, h5⟩ := h
   have hl := (Array.getElem?_eq_some_iff.1 h2).1
   exact ⟨(hx b hl).trans h1, A, cp, (hk.block b hl (h0 b hl h1)).trans h2, h3, h4, bs_col h5 hk hx h0⟩
theorem StateAt.lt (h : StateAt w c i b B s) : b < w.heap.size := (Array.getElem?_eq_some_iff.1 h.state).1
theorem StateAt.keep (h : StateAt w c i b B s) (hk : Keep F w w') (hx : Ext w c c') (hF : ∀ b, b < w.heap.size → i.has (c b) ∨ c b = 0 → F b) : StateAt w' c' i b B s :=
 ⟨(hk.block b h.lt (hF _ h.lt (.inl (.inr (.inr h.col))))).trans h.state, (hx b h.lt).trans h.col, h.tree.keep hk hx fun b hb hc => hF b hb (hc.imp_left .inl), h.snaps.keep hk hx fun b hb hc => hF b hb (hc.imp_left fun e => .inr (.inl e)), fun k hk' => (h.fd k hk').keep hk hx fun b hb hc => hF b hb (.inr hc), h.ok⟩
theorem StateAt.new (h : StateAt w c i b B s) (hk : New w w') : StateAt w' c i b B s := h.keep hk (Ext.refl _ _) fun _ _ _ => trivial
def StateRet (w : World) (c : Col) (i : Cols) (s : StateP) (e : Ending) (w' : World) : Prop := ∃ (b : Nat) (B : StateB) (c' : Col), e = .returned (.pointer (some ⟨b, 0, none⟩)) ∧ New w w' ∧ w.heap.size ≤ b ∧ Ext w c c' ∧ StateAt w' c' i b B s
set_option maxRecDepth 100000 in
theorem stnew_any (c : Col) (i : Cols) (hi : i.Ok) (w : World) : Calls Tryz.prog 48 #[] w (StateRet w c i stateNew) := by
 have HT := Lib.hid (tnew_any c i.t hi.nz.1 w)
 go_enter Tryz.func48, Tryz.ntmps48
 go_wp2_with fail
 refine HT.out.mono ?_
 rintro e w1 ⟨bt, q, c1, rfl, k1, z1, x1, t1⟩
 have H1 := Lib.hid (And.intro k1 (And.intro z1 (And.intro x1 t1)))
 clear k1 z1 x1 t1 HT
 go_wp2_with fail
 refine (snew_any c1 i.s w1).mono ?_
 rintro e w2 ⟨bs, Q, c2, rfl, k2, z2, x2, t2⟩
 have H2 := Lib.hid (And.intro k2 (And.intro z2 (And.intro x2 t2)))
 clear k2 z2 x2 t2
 go_wp2_with fail
 go_ret
 obtain ⟨k1, z1, x1, t1⟩ := H1.out
 obtain ⟨k2, z2, x2, t2⟩ := H2.out
 have k3 := (New.refl w2).alloc (.cells (stateCells ⟨bt, q, bs, Q, fun _ => none⟩ 0) 134)
 have x3 := heap_alloc_new w2 (.cells (stateCells ⟨bt, q, bs, Q, fun _ => none⟩ 0) 134)
 have e3 := c2.on_ext w2 fun _ => i.o
 refine ⟨w2.heap.size, ⟨bt, q, bs, Q, fun _ => none⟩, c2.on w2.heap.size fun _ => i.o, rfl, (k1.new k2).new k3, Nat.le_trans k1.size k2.size, (x1.trans x2 k1.size).trans e3 (Nat.le_trans k1.size k2.size), x3, c2.on_new _ (Nat.le_refl _), (t1.keep k2 x2 fun _ _ _ => trivial).keep k3 e3 fun _ _ _ => trivial, t2.keep k3 e3 fun _ _ _ => trivial, fun k _ => trivial, hi⟩
end
/-
  PROVED HERE: what State.Save answers: the state as bytes; condition: it may be written.
-/
def stBytes (s : StateP) : List UInt8 := beI 8 s.now ++ beI 8 (treeBytes (committedT s.T)).length ++ treeBytes (committedT s.T) ++ snapsBytes s.S
structure StateOk (s : StateP) : Prop where
 now : 0 ≤ s.now ∧ s.now ≤ 18446744073709551615
 few : s.T.length ≤ 100000
 key : ∀ p ∈ s.T, -9223372036854775808 ≤ p.1 ∧ p.1 ≤ 9223372036854775807
 tree : TreeOk (committedT s.T)
 size : (treeBytes (committedT s.T)).length ≤ 100000000000
 snaps : SnapsOk s.S
theorem stBytes_le {s : StateP} (h : StateOk s) : (stBytes s).length ≤ 900002000000 := by
 unfold stBytes
 have := snapsBytes_le h.snaps
 have := h.size
 rw [List.length_append, List.length_append, List.length_append, beI_length, beI_length]
 omega
section
variable {w : World} {c : Col} {i : Cols} {b : Nat} {B : StateB} {s : StateP}
set_option maxRecDepth 100000 in
set_option maxHeartbeats 2000000 in
theorem stsave_any (h : StateAt w c i b B s) (hS : StateOk s) :
  Calls Tryz.prog 33 #[.pointer (some ⟨b, 0, none⟩)] w fun e w' => (∃ A' c', e = .returned (.slice A' (stBytes s).length c') ∧ OwnB w' w.heap.size 5 A' (stBytes s).length c' (stBytes s)) ∧ New w w' := by
 have HS := Lib.hid h
 have HO := Lib.hid hS
 have hlt := h.lt
 have c0 : w.cell? ⟨b, 0, none⟩ = some (.pointer (some ⟨B.bt, 0, none⟩)) := cellOf h.state (k := 0) rfl
 have c1 : w.cell? ⟨b, 1, none⟩ = some (.pointer (some ⟨B.bs, 0, none⟩)) := cellOf h.state (k := 1) rfl
 have c2 : w.cell? ⟨b, 2, none⟩ = some (.int .u64 s.now) := cellOf h.state (k := 2) rfl
 have HC := Lib.hid (And.intro c1 c2)
 have HCM := Lib.hid (committed_any h.tree hS.few hS.key 0)
 obtain ⟨tb, htb⟩ : ∃ tb, tb = treeBytes (committedT s.T) := ⟨_, rfl⟩
 obtain ⟨tn, htn⟩ : ∃ tn, tn = tb.length := ⟨_, rfl⟩
 have htl : tn ≤ 100000000000 := by rw [htn, htb]; exact hS.size
 have hsl := snapsBytes_le hS.snaps
 obtain ⟨sb, hsb⟩ : ∃ sb, sb = snapsBytes s.S := ⟨_, rfl⟩
 obtain ⟨sn, hsn⟩ : ∃ sn, sn = sb.length := ⟨_, rfl⟩
 have hsl2 : sn ≤ 800001000000 := by rw [hsn, hsb]; exact hsl
 have HSB : Hid (stBytes s = [] ++ beI 8 s.now ++ beI 8 tn ++ tb ++ sb) := Lib.hid (by rw [hsb, htn, htb]; unfold stBytes; simp)
 have HLEN : Hid ((stBytes s).length ≤ 1000000000000) := Lib.hid (by have := stBytes_le hS; omega)
 have HTB := Lib.hid (And.intro htb htn)
 have HSN := Lib.hid (And.intro hsb hsn)
 have hnow := hS.now
 obtain ⟨L, hL⟩ : ∃ L, L = (stBytes s).length := ⟨_, rfl⟩
 have HL := Lib.hid hL
 rw [← hL]
 clear h hS c1 c2 htb htn hsb hsn hsl hL
 go_enter Tryz.func33, Tryz.ntmps33
 go_wp2_with fail
 refine HCM.out.mono ?_
 rintro e w1 ⟨bt', q', c', rfl, k1, z1, x1, t1⟩
 have HTS := Lib.hid (tsave_any t1 HO.out.tree)
 rw [← HTB.out.1, ← HTB.out.2] at HTS
 have HK1 := Lib.hid k1
 clear k1 z1 x1 t1 c0 HCM
 go_wp2_with fail
 refine HTS.out.mono ?_
 rintro e w2 ⟨⟨At, ct, rfl, ot⟩, k2⟩
 have HK2 := Lib.hid (HK1.out.new k2)
 have HOT := Lib.hid ot
 clear ot k2 HTS
 go_wp2_with fail
 refine (newWriter_any w2).mono ?_
 rintro e w3 ⟨⟨p, rfl, hW3⟩, k3⟩
 have HB := Lib.hid (Keep.of_new (D := fun b => b < w2.heap.size) k3)
 have HW := Lib.hid hW3
 have hz : b < w2.heap.size := Nat.lt_of_lt_of_le hlt HK2.out.size
 have y2 := (HK2.out.new k3).cell_some HC.out.2 trivial
 clear hW3 k3
 go_wp2_with fail
 refine (wlong_any _ _ _ s.now w3 HW.out hnow.1 hnow.2 (by decide)).mono ?_
 rintro e w4 ⟨rfl, hW, hk⟩
 replace HB := Lib.hid (HB.out.trans hk)
 replace HW := Lib.hid hW
 clear hW hk y2
 go_wp2_with fail
 refine (wlong_any _ _ _ (tn : Int) w4 HW.out (by omega) (by omega) (by simp [beI_length])).mono ?_
 rintro e w5 ⟨rfl, hW, hk⟩
 replace HB := Lib.hid (HB.out.trans hk)
 replace HW := Lib.hid hW
 clear hW hk
 go_wp2_with fail
 refine (raw_any _ _ (fun b => b < w2.heap.size) At tn ct _ tb w5 HW.out (((Row.of_own HOT.out).imp (E := fun b => b < w2.heap.size) fun b hb _ => hb).keep HB.out fun b hb _ => by assumption) (by rw [List.length_append, List.length_append, beI_length, beI_length]; simp; omega)).mono ?_
 rintro e w6 ⟨rfl, hW, hk⟩
 replace HB := Lib.hid (HB.out.trans hk)
 replace HW := Lib.hid hW
 clear hW hk
 have y1 : w6.cell? ⟨b, 1, none⟩ = some (.pointer (some ⟨B.bs, 0, none⟩)) := HB.out.cell_some (HK2.out.cell_some HC.out.1 trivial) hz
 have HSS := Lib.hid (ssave_any ((HS.out.snaps.new HK2.out).keep HB.out (Ext.refl _ _) fun b hb _ => hb) HO.out.snaps)
 rw [← HSN.out.1, ← HSN.out.2] at HSS
 go_wp2_with fail
 refine HSS.out.mono ?_
 rintro e w7 ⟨⟨As, cs, rfl, os⟩, k7⟩
 replace HB := Lib.hid (HB.out.new k7)
 replace HW := Lib.hid (HW.out.keep k7 fun _ _ => trivial)
 have HOS := Lib.hid os
 clear os k7 HSS y1
 go_wp2_with fail
 refine (raw_any _ _ _ As sn cs _ sb w7 HW.out (Row.of_own HOS.out) (by rw [List.length_append, List.length_append, List.length_append, beI_length, beI_length, ← HTB.out.2]; simp; omega)).mono ?_
 rintro e w8 ⟨rfl, hW, hk⟩
 replace HB := Lib.hid (HB.out.trans hk)
 rw [← HSB.out] at hW
 replace HW := Lib.hid hW
 clear hW hk
 go_wp2_with fail
 refine (done_any _ _ _ w8 HW.out (by have := HLEN.out; omega)).mono ?_
 rintro e w9 ⟨⟨A', c'', rfl, ho⟩, k9⟩
 rw [← HL.out] at ho ⊢
 have HF := Lib.hid (And.intro ho k9)
 clear ho k9
 go_wp2_with fail
 go_ret
 obtain ⟨ho, k9⟩ := HF.out
 exact ⟨⟨A', c'', rfl, ownsRow_base_a ho (by have := HB.out.size; have := HK2.out.size; omega)⟩, HK2.out.new ((HB.out.new k9).toNew fun b hb => hb)⟩
end
/-! ### the state of nothing -/
theorem committed_new : committedT stateNew.T = stateNew.T := rfl
theorem stateNew_ok : StateOk stateNew where
 now := by decide
 few := by decide
 key := by intro p hp; simp [stateNew] at hp; subst hp; decide
 tree := by
  rw [committed_new]
  refine ⟨by decide, fun p hp => ?_, fun p hp => ?_, fun p hp => ?_⟩ <;> simp [stateNew] at hp <;> subst hp
  ·exact ⟨by decide, by decide, by decide, .inr ⟨rfl, rfl, rfl, rfl⟩⟩
  ·decide
  ·intro x hx; simp [freshItem] at hx
 size := by decide
 snaps := ⟨by decide, fun s hs => by simp [stateNew, noSnaps] at hs⟩
end Go.Proofs.YtijjhfkgbmckkaaGreatDoor
