/-
  PROVED HERE: texts that belong together, one behind the other; what each proves, and under which conditions, its own opening remark says: Walk, Hold3, ChainMem, Hold4.
-/
import Derived.Test.YtpbbfbgmpidgnaaDoorPkO00
import Derived.Test.YtpbbfbgmpidgnaaDoorPkO11
import Derived.Test.YtpbbfbgmpidgnaaDoorPkO18
import Derived.Test.YtpbbfbgmpidgnaaDoorPkO25
import Derived.Test.YtpbbfbgmpidgnaaDoorPkO27
import Derived.Test.YtpbbfbgmpidgnaaDoorPkO29
import Derived.Test.YtpbbfbgmpidgnaaDoorPkO30
/-
  PROVED HERE: what seal.Walk answers; conditions: lengths that a slice may have, at most a million images.
-/
namespace Go.Proofs.YtpbbfbgmpidgnaaDoor
open Go.RowKit

set_option maxRecDepth 100000 in
set_option maxHeartbeats 2000000 in
theorem walk_any (D D2 : Nat → Prop) (A A2 : Option Addr) (n c n2 c2 : Nat) (id : List UInt8) (ls : List (List UInt8)) (w : World) (hB : Bs w D A n id) (hc : n ≤ c) (hn : n ≤ 1099511620000) (hI : Imgs w D2 A2 n2 ls) (hn2 : n2 ≤ 1000000) :
    Calls Tryd.prog 21 #[.slice A n c, .slice A2 n2 c2] w (WalkRet (walkOf id ls) w) := by
  have HL := Lib.hid hI.len
  have HI := Lib.hid hI
  have HB := Lib.hid hB
  clear hI hB
  go_enter Tryd.func21, Tryd.ntmps21
  go_wp2_with fail
  go_loopw [7, 8, 16] (fun s7 s8 i wx => ∃ (k m : Nat) (A' A'' : Option Addr) (c' c'' : Nat) (hs : List HeadP) (rs : List RecP), k ≤ n2 ∧ i = .int .i64 (k : Int) ∧ s7 = .slice A' k c' ∧ s8 = .slice A'' m c'' ∧ m ≤ 942 * k ∧ Pair wx w.heap.size A' k c' hs A'' m c'' rs ∧ New w wx ∧
    walkIn ls = (walkIn (ls.drop k)).map fun p => (hs ++ p.1, rs ++ p.2)) (fun _ _ i _ => n2 - (intOf i).toNat)
  case atStart => exact ⟨0, 0, none, none, 0, 0, [], [], Nat.zero_le _, rfl, rfl, rfl, Nat.zero_le _, Pair.nil _ _, New.refl _, by rw [List.drop_zero]; cases h : walkIn ls <;> simp [h]⟩
  case round =>
    obtain ⟨k, m, A', A'', c', c'', hs, rs, hk, rfl, rfl, rfl, hm, hpr, hK, hgo⟩ := hrel
    have HP := Lib.hid hpr
    have HG := Lib.hid hgo
    have HK := Lib.hid hK
    clear hpr hgo hK
    by_cases hlt : k < n2
    · have hkl : k < ls.length := by have := HL.out; omega
      obtain ⟨b, off, I, ci, rfl, _, u0, hci, hci9, hbs⟩ := (HI.out.new HK.out).at_ hkl
      have HW := Lib.hid (walk_more hkl HG.out)
      have HRD := Lib.hid (read_any D2 I ls[k].length ci ls[k] wr hbs hci hci9)
      have hsm := (segRead_small ls[k]).2.2
      have hfi := read_first ls[k]
      clear hbs
      generalize segRead ls[k] = d at *
      obtain ⟨h, rr, why⟩ := d
      dsimp only at hsm hfi HW
      generalize ls[k].length = il at *
      go_wp2_with fail
      refine HRD.out.mono ?_
      rintro e w2 ⟨⟨P1, p1, P2, p2, A3, c3, rfl, hp1, hp2, hb1, hb2, ho3⟩, hK2⟩
      dsimp only at hp1 hp2 hb1 hb2 ho3
      have HK2 := Lib.hid hK2
      clear hK2 HRD
      by_cases hy : why = 0
      · subst hy
        have HM1 := Lib.hid (HW.out.2 rfl)
        clear HW HG
        have hge : w.heap.size ≤ wr.heap.size := HK.out.size
        have hP0 := HP.out.new HK2.out
        have HP2 := Lib.hid hP0
        have hltA : ∀ k, blk A' = some k → k < wr.heap.size := fun k hk => (HP.out.heads.lt k hk).2
        have hltR : ∀ k, blk A'' = some k → k < wr.heap.size := fun k hk => (HP.out.recs.lt k hk).2
        have hy1 : Bs w2 (fun b => (w.heap.size ≤ b ∧ some b ≠ blk A'') ∧ some b ≠ blk A') P1 h.prev.length h.prev := Row.imp hb1 (fun b _ hb => ⟨⟨Nat.le_trans hge hb, fun e => by have := hltR b e.symm; omega⟩, fun e => by have := hltA b e.symm; omega⟩)
        have hy2 : Bs w2 (fun b => (w.heap.size ≤ b ∧ some b ≠ blk A'') ∧ some b ≠ blk A') P2 h.root.length h.root := Row.imp hb2 (fun b _ hb => ⟨⟨Nat.le_trans hge hb, fun e => by have := hltR b e.symm; omega⟩, fun e => by have := hltA b e.symm; omega⟩)
        have HA := Lib.hid hltA
        have HR := Lib.hid hltR
        have HY := Lib.hid (And.intro hy1 hy2)
        have HO3 := Lib.hid ho3
        have HF := Lib.hid hfi
        have HKK := Lib.hid (HK.out.new HK2.out)
        have hbd : k + 1 ≤ 1099511627776 := by omega
        have hbd2 : m + rr.length ≤ 1099511627776 := by omega
        clear hy1 hy2 hb1 hb2 ho3 hltA hltR hP0 hfi
        have hN : New w2 ((w2.alloc (.cells #[.int .i64 h.index, .int .u64 h.first, .int .i64 h.count, .int .i64 h.bytes, .slice P1 h.prev.length p1, .slice P2 h.root.length p2] 37)).alloc (.cells #[.int .i64 h.index, .int .u64 h.first, .int .i64 h.count, .int .i64 h.bytes, .slice P1 h.prev.length p1, .slice P2 h.root.length p2] 37)) := ((New.refl w2).alloc _).alloc _
        have hrow := Row.made (w2.alloc (.cells #[.int .i64 h.index, .int .u64 h.first, .int .i64 h.count, .int .i64 h.bytes, .slice P1 h.prev.length p1, .slice P2 h.root.length p2] 37)) 37 #[.int .i64 h.index, .int .u64 h.first, .int .i64 h.count, .int .i64 h.bytes, .slice P1 h.prev.length p1, .slice P2 h.root.length p2] 1 6 rfl
        rw [show (w2.alloc (.cells #[.int .i64 h.index, .int .u64 h.first, .int .i64 h.count, .int .i64 h.bytes, .slice P1 h.prev.length p1, .slice P2 h.root.length p2] 37)).heap.size = w2.heap.size + 1 from by simp] at hrow
        have HPA := Lib.hid (HP2.out.new hN)
        have HOA := Lib.hid (HO3.out.new hN)
        have hya1 := HY.out.1.new hN
        have hya2 := HY.out.2.new hN
        have HNA := Lib.hid (HKK.out.new hN)
        have hsA : w.heap.size ≤ ((w2.alloc (.cells #[.int .i64 h.index, .int .u64 h.first, .int .i64 h.count, .int .i64 h.bytes, .slice P1 h.prev.length p1, .slice P2 h.root.length p2] 37)).alloc (.cells #[.int .i64 h.index, .int .u64 h.first, .int .i64 h.count, .int .i64 h.bytes, .slice P1 h.prev.length p1, .slice P2 h.root.length p2] 37)).heap.size := HNA.out.size
        have hf0 := HF.out.1
        have hf1 := HF.out.2
        clear hN HP2 HY HO3 HKK HP
        go_wp2_with (first
          | (at_builtin; refine app_heads _ rfl _ _ rfl w.heap.size (fun b => w.heap.size ≤ b ∧ some b ≠ blk A'') A' k c' hs rfl HPA.out.heads _ _ 1 P1 P2 p1 p2 h rfl hrow hya1 hya2 hp1 hp2 hf0 hf1 hbd hsA ?_; intro A4 c4 w4 hown4 hg4 hbk4; have HP4 := Lib.hid (HPA.out.head hown4 hg4 hbk4); have HR4 := Lib.hid (HPA.out.read HA.out HOA.out hg4 hbk4); have HN4 := Lib.hid (HNA.out.grown hg4 (fun j hj _ => (HPA.out.heads.lt j hj).1)); have hs4 := HN4.out.size; clear hown4 hg4 hbk4)
          | (at_builtin; refine app_recsM _ rfl _ _ rfl w.heap.size (fun b => w.heap.size ≤ b ∧ some b ≠ blk A4) A'' m c'' rs rfl HP4.out.recs wr.heap.size (fun b => wr.heap.size ≤ b ∧ some b ≠ blk A4) A3 rr.length c3 rr rfl HR4.out (fun b hb => ⟨⟨Nat.le_trans hge hb.1, hb.2⟩, fun e => by have := HR.out b e.symm; omega⟩) hbd2 hs4 ?_; intro A5 c5 w5 hown5 hg5 hbk5; have HP5 := Lib.hid (HP4.out.more hown5 hg5 hbk5); have HN5 := Lib.hid (HN4.out.grown hg5 (fun j hj _ => (HP4.out.recs.lt j hj).1)); clear hown5 hg5 hbk5))
        go_roundw
        case rel => exact ⟨k + 1, m + rr.length, A4, A5, c4, c5, _, _, by omega, by go_num, rfl, rfl, by omega, HP5.out, HN5.out, HM1.out⟩
        case measure => simp [intOf]; omega
      · have hy' : (why != 0) = true := by simpa using hy
        have HM1 := Lib.hid (HW.out.1 hy)
        go_wp2_with fail
        refine bodyPost_ret (v := .tuple #[.slice none 0 0, .slice none 0 0, .int .i64 40]) (by simp [results, Tryd.results21, go_sem]) rfl ?_
        rw [show walkOf id ls = ([], [], 40) from by unfold walkOf; rw [HM1.out]]
        exact ⟨⟨none, 0, none, 0, rfl, OwnHeads.nil _ _ _, OwnRecs.nil _ _ _⟩, (HK.out.new HK2.out).alloc _⟩
    · obtain rfl : k = n2 := by omega
      have HM1 := Lib.hid (walk_done HL.out HG.out)
      have HLK := Lib.hid (links_any D _ A A' n c k c' id hs wr (HB.out.new HK.out) hc hn HP.out.heads.heads (by omega))
      go_wp2_with fail
      refine HLK.out.mono ?_
      rintro e w2 ⟨rfl, hK2⟩
      have hll : hs.length = k := HP.out.heads.len
      by_cases hl : linksOf id hs < hs.length
      · have hl' : ((linksOf id hs : Nat) : Int) < (k : Int) := by omega
        go_wp2_with fail
        refine bodyPost_ret (v := .tuple #[.slice none 0 0, .slice none 0 0, .int .i64 40]) (by simp [results, Tryd.results21, go_sem]) rfl ?_
        rw [show walkOf id ls = ([], [], 40) from by unfold walkOf; rw [HM1.out]; dsimp only; rw [if_pos hl]]
        exact ⟨⟨none, 0, none, 0, rfl, OwnHeads.nil _ _ _, OwnRecs.nil _ _ _⟩, HK.out.new hK2⟩
      · have hl' : ¬ ((linksOf id hs : Nat) : Int) < (k : Int) := by omega
        go_wp2_with fail
        refine bodyPost_ret (v := .tuple #[.slice A' k c', .slice A'' m c'', .int .i64 0]) (by simp [results, Tryd.results21, go_sem]) rfl ?_
        rw [show walkOf id ls = (hs, rs, 0) from by unfold walkOf; rw [HM1.out]; dsimp only; rw [if_neg hl]]
        have hp := (HP.out.new hK2).ret
        have h1 := hp.1.len
        have h2 := hp.2.len
        refine ⟨⟨A', c', A'', c'', ?_, ?_, ?_⟩, HK.out.new hK2⟩
        · dsimp only; rw [h1, h2]
        · dsimp only; rw [h1]; exact hp.1
        · dsimp only; rw [h2]; exact hp.2
end Go.Proofs.YtpbbfbgmpidgnaaDoor
/-
  PROVED HERE: a law for a region that draws its order where two operations may come next; no condition; no program is named.
-/
namespace Go.Proofs.YtpbbfbgmpidgnaaDoor
open Go.RowKit

section
variable {P : Program} {ops : Array Oper} {Q : Exit → Act → World → Prop} {md : Region.Mode}
/-- either of two makes memory, or is a call: each may come next. -/
theorem hold_step2 {i j : Nat} {o o' : Oper} {fuel : Nat} {listed : Array Bool} {a : Act} {w : World} (hr : Region.ready md ops listed = [i, j]) (ho : ops[i]? = some o) (hw : Region.wanted o (yielded ops a.tmps) = true) (ho' : ops[j]? = some o') (hw' : Region.wanted o' (yielded ops a.tmps) = true)
    (h : ∀ K : Act → World → Prop, Hid (∀ a' w', New w w' → wpAnyH P md ops Q (New w') fuel (listed.setIfInBounds i true) a' w' → K a' w') → Oper.wp P o a w K Q)
    (h' : ∀ K : Act → World → Prop, Hid (∀ a' w', New w w' → wpAnyH P md ops Q (New w') fuel (listed.setIfInBounds j true) a' w' → K a' w') → Oper.wp P o' a w K Q) : wpAnyH P md ops Q (New w) (fuel + 1) listed a w := by
  refine wpAnyH_all hr (by simp) fun k hk => ?_
  have hk' : k = i ∨ k = j := by simpa using hk
  unfold wpOp
  rcases hk' with rfl | rfl
  · simp only [ho, hw, if_true]
    exact .inl (h _ (Lib.hid fun a' w' hN hk => ⟨hN, held_strong (fun w2 h2 => Keep.new hN h2) _ _ _ _ hk⟩))
  · simp only [ho', hw', if_true]
    exact .inl (h' _ (Lib.hid fun a' w' hN hk => ⟨hN, held_strong (fun w2 h2 => Keep.new hN h2) _ _ _ _ hk⟩))
end
end Go.Proofs.YtpbbfbgmpidgnaaDoor
/-
  PROVED HERE: images and the document's records that a call makes lie beside each other; no condition.
-/
namespace Go.Proofs.YtpbbfbgmpidgnaaDoor
open Go.RowKit

/-- images and records that a call makes; the records' bytes lie below the call's own memory. -/
structure Chn (w : World) (base : Nat) (A : Option Addr) (n c : Nat) (ls : List (List UInt8)) (A' : Option Addr) (n' c' : Nat) (rs : List RecP) : Prop where
  imgs : OwnImgs w base (fun b => base ≤ b ∧ some b ≠ blk A') A n c ls
  refs : OwnRefs w base (fun b => b < base) A' n' c' rs
section
variable {w w' : World} {base : Nat} {A A' : Option Addr} {n c n' c' : Nat} {ls : List (List UInt8)} {rs : List RecP}
theorem Chn.nil (w : World) (base : Nat) : Chn w base none 0 0 [] none 0 0 [] := ⟨OwnImgs.nil _ _ _, OwnRefs.nil _ _ _⟩
theorem Chn.new (h : Chn w base A n c ls A' n' c' rs) (hk : New w w') : Chn w' base A n c ls A' n' c' rs := ⟨h.imgs.new hk, h.refs.new hk⟩
theorem Chn.ne (h : Chn w base A n c ls A' n' c' rs) : (∀ k, blk A' = some k → some k ≠ blk A) ∧ (∀ k, blk A = some k → some k ≠ blk A') := by
  obtain ⟨_, h1, _⟩ := h.imgs
  obtain ⟨_, h2, _⟩ := h.refs
  exact ⟨own_apart6 h1 h2 (by decide), own_apart6 h2 h1 (by decide)⟩
/-- behind one image more. -/
theorem Chn.image (h : Chn w base A n c ls A' n' c' rs) {A3 : Option Addr} {n3 c3 : Nat} {ls3 : List (List UInt8)} (h3 : OwnImgs w' base (fun b => base ≤ b ∧ some b ≠ blk A') A3 n3 c3 ls3) (hg : w.grownBy w' (blk A)) : Chn w' base A3 n3 c3 ls3 A' n' c' rs :=
  ⟨h3, h.refs.keepE (keep_blk hg) h.ne.1 (fun b hb e => by have := (h.imgs.lt b e.symm).1; omega)⟩
/-- behind records more. -/
theorem Chn.more (h : Chn w base A n c ls A' n' c' rs) {A3 : Option Addr} {n3 c3 : Nat} {rs3 : List RecP} (h3 : OwnRefs w' base (fun b => b < base) A3 n3 c3 rs3) (hg : w.grownBy w' (blk A')) (hbk : blk A3 = blk A' ∨ blk A3 = some w.heap.size) : Chn w' base A n c ls A3 n3 c3 rs3 :=
  ⟨((h.imgs.imp (E := fun b => (base ≤ b ∧ some b ≠ blk A3) ∧ some b ≠ blk A') fun b hb hd => ⟨⟨hd.1, ne_blk hbk hb hd.2⟩, hd.2⟩).keepE (keep_blk hg) h.ne.2 (fun b hd => hd.2)).imp fun b _ hd => hd.1, h3⟩
end
/-- images and records, handed back. -/
def ChainRet (d : ChainS) (w : World) (e : Ending) (w' : World) : Prop :=
  (∃ A1 c1 A2 c2, e = .returned (.tuple #[.slice A1 d.images.length c1, .slice A2 d.recs.length c2]) ∧ Chn w' w.heap.size A1 d.images.length c1 d.images A2 d.recs.length c2 d.recs) ∧ New w w'
theorem chainRecs_some {next : Int} {raw : List (List UInt8)} (h : raw.length ≠ 0) : chainRecs next raw = (List.range (min raw.length 6)).map fun k => ⟨1, IntKind.u64.wrap (next + IntKind.u64.wrap (k : Nat)), (raw.getD k []).take 60⟩ := by unfold chainRecs; rw [if_neg h]
theorem chainRecs_none {next : Int} {raw : List (List UInt8)} (h : raw.length = 0) : chainRecs next raw = [⟨2, next, []⟩] := by unfold chainRecs; rw [if_pos h]
theorem fits_right : ∀ {left : Nat} {rs : List RecP}, (∀ r ∈ rs, recRight r = true) → (leavesOf rs).flatten.length ≤ left → rs.length ≤ fitsIn left rs
  | left, [], _, _ => Nat.zero_le _
  | left, r :: rs, h, hl => by
    have h1 := h r (by simp)
    rw [leavesOf_cons h1, List.flatten_cons, List.length_append, recEnc_size r h1] at hl
    have := fits_right (left := left - recSize r) (rs := rs) (fun x hx => h x (by simp [hx])) (by omega)
    unfold fitsIn
    rw [if_pos ⟨h1, by omega⟩, List.length_cons]
    omega
/-- a chain's records are laid. -/
theorem chain_build {i : Nat} {next : Int} {prev : List UInt8} {raw : List (List UInt8)} (hi : i ≤ 1000) (h0 : 0 ≤ next) (h1 : next ≤ 1000000) (hp : prev.length = 32) : buildOf i next prev (chainRecs next raw) = (segBytes i next prev (chainRecs next raw), 0) := by
  have hf := chain_fine (raw := raw) hi h0 h1 hp
  have hfit : (chainRecs next raw).length ≤ fitsIn 942 (chainRecs next raw) := fits_right (fun r hr => (hf.right r hr).1) hf.room
  unfold buildOf
  rw [if_neg, if_neg]
  · rw [Bool.not_eq_false, seqsFrom_iff]; exact hf.seqs
  · rw [Bool.not_eq_false]
    unfold buildArgs
    rw [decide_eq_true_eq]
    exact ⟨hf.i0, hf.i1, hf.f1, hp, hf.any, hfit⟩
end Go.Proofs.YtpbbfbgmpidgnaaDoor
/-
  PROVED HERE: laws for a region that draws its order where what was made is marked: conditions of one's own on the worlds; what is common to all orders is proved once; a row of bytes that is marked reads as before; no condition.
-/
namespace Go.Proofs.YtpbbfbgmpidgnaaDoor
open Go.RowKit

section
variable {P : Program} {ops : Array Oper} {Q : Exit → Act → World → Prop} {md : Region.Mode}
/-- the orders meet here. -/
theorem hold_join {S T : World → Prop} {C : Act → World → Prop} {fuel fuel2 : Nat} {listed listed2 : Array Bool} {a : Act} {w : World} (h1 : ∀ a' w', C a' w' → wpAnyH P md ops Q T fuel2 listed2 a' w')
    (h2 : Hid (∀ a' w', C a' w' → wpAnyH P md ops Q T fuel2 listed2 a' w') → wpAnyH P md ops Q S fuel listed a w) : wpAnyH P md ops Q S fuel listed a w := h2 (Lib.hid h1)
theorem hold_strong {S T : World → Prop} {fuel : Nat} {listed listed2 : Array Bool} {a : Act} {w : World} (hl : listed = listed2) (hTS : ∀ w, T w → S w) (h : wpAnyH P md ops Q T fuel listed2 a w) : wpAnyH P md ops Q S fuel listed a w := by
  subst hl
  exact held_strong hTS _ _ _ _ h
theorem hold_stepG {S : World → Prop} (T : World → Prop) {i : Nat} {o : Oper} {fuel : Nat} {listed : Array Bool} {a : Act} {w : World} (hTS : ∀ w, T w → S w) (hr : Region.ready md ops listed = [i]) (ho : ops[i]? = some o) (hw : Region.wanted o (yielded ops a.tmps) = true)
    (h : ∀ K : Act → World → Prop, Hid (∀ a' w', T w' → wpAnyH P md ops Q T fuel (listed.setIfInBounds i true) a' w' → K a' w') → Oper.wp P o a w K Q) : wpAnyH P md ops Q S (fuel + 1) listed a w := by
  refine wpAnyH_all hr (by simp) fun j hj => ?_
  have hj' : j = i := by simpa using hj
  subst hj'
  unfold wpOp
  simp only [ho, hw, if_true]
  exact .inl (h _ (Lib.hid fun a' w' hN hk => ⟨hTS _ hN, held_strong hTS _ _ _ _ hk⟩))
theorem hold_fork {S : World → Prop} {i j : Nat} {o o' : Oper} {fuel : Nat} {listed : Array Bool} {a : Act} {w : World} (hr : Region.ready md ops listed = [i, j]) (ho : ops[i]? = some o) (hw : Region.wanted o (yielded ops a.tmps) = true) (ho' : ops[j]? = some o') (hw' : Region.wanted o' (yielded ops a.tmps) = true)
    (h : ∀ K : Act → World → Prop, Hid (∀ (T : World → Prop) a' w', (∀ w, T w → S w) → T w' → wpAnyH P md ops Q T fuel (listed.setIfInBounds i true) a' w' → K a' w') → Oper.wp P o a w K Q)
    (h' : ∀ K : Act → World → Prop, Hid (∀ (T : World → Prop) a' w', (∀ w, T w → S w) → T w' → wpAnyH P md ops Q T fuel (listed.setIfInBounds j true) a' w' → K a' w') → Oper.wp P o' a w K Q) : wpAnyH P md ops Q S (fuel + 1) listed a w := by
  refine wpAnyH_all hr (by simp) fun k hk => ?_
  have hk' : k = i ∨ k = j := by simpa using hk
  unfold wpOp
  rcases hk' with rfl | rfl
  · simp only [ho, hw, if_true]
    exact .inl (h _ (Lib.hid fun T a' w' hTS hN hk => ⟨hTS _ hN, held_strong hTS _ _ _ _ hk⟩))
  · simp only [ho', hw', if_true]
    exact .inl (h' _ (Lib.hid fun T a' w' hTS hN hk => ⟨hTS _ hN, held_strong hTS _ _ _ _ hk⟩))
theorem hold_one {S : World → Prop} {i : Nat} {o : Oper} {fuel : Nat} {listed : Array Bool} {a : Act} {w : World} (hr : Region.ready md ops listed = [i]) (ho : ops[i]? = some o) (hw : Region.wanted o (yielded ops a.tmps) = true)
    (h : ∀ K : Act → World → Prop, Hid (∀ (T : World → Prop) a' w', (∀ w, T w → S w) → T w' → wpAnyH P md ops Q T fuel (listed.setIfInBounds i true) a' w' → K a' w') → Oper.wp P o a w K Q) : wpAnyH P md ops Q S (fuel + 1) listed a w := by
  refine wpAnyH_all hr (by simp) fun j hj => ?_
  have hj' : j = i := by simpa using hj
  subst hj'
  unfold wpOp
  simp only [ho, hw, if_true]
  exact .inl (h _ (Lib.hid fun T a' w' hTS hN hk => ⟨hTS _ hN, held_strong hTS _ _ _ _ hk⟩))
end
/-- the same cells, maybe other marks. -/
structure Like (w w' : World) : Prop where
  size : w.heap.size = w'.heap.size
  cell : ∀ p, w'.cell? p = w.cell? p
theorem Row.like {w w' : World} {D : Nat → Prop} {A : Option Addr} {n s : Nat} {vs : List Value} (h : Row w D A n s vs) (hl : Like w w') : Row w' D A n s vs :=
  ⟨h.1, fun hn => let ⟨b, off, e, hd, hlt, hc⟩ := h.2 hn; ⟨b, off, e, hd, hl.size ▸ hlt, fun k u hu => (hl.cell _).trans (hc k u hu)⟩⟩
theorem conv_mark {w : World} {g : Nat} {C : Array Value} {e : TypeId} (n c : Nat) (h : w.heap[g]? = some (.cells C e (0, 0))) :
    ∃ w', (convert 24 24 (.slice (some ⟨g, 0, none⟩) n c)).run Tryd.prog w = .ok (.slice (some ⟨g, 0, none⟩) n c) w' ∧ Keep (fun b => b ≠ g) w w' ∧ Like w w' := by
  have hsh : w.shape? g = some (e, C.size) := by
    unfold World.shape?
    rw [h]
  refine ⟨w.freeze ⟨g, C.size, none⟩ 1, ?_, ?_, ?_⟩
  · simp [convert, run_underlying Tryd.underlying24, run_underlying Tryd.underlying5, markStringish, hsh]
  · unfold World.freeze
    rw [if_neg (by decide)]
    refine ⟨rfl, rfl, rfl, by simp, fun k hk hne => ?_⟩
    show (w.heap.modify g _)[k]? = w.heap[k]?
    rw [Array.getElem?_modify]
    rw [if_neg (fun e => hne e.symm)]
  · unfold World.freeze
    rw [if_neg (by decide)]
    refine ⟨by simp, fun p => ?_⟩
    by_cases hp : p.block = g
    · simp [World.cell?, Array.getElem?_modify, hp, h]
    · have hp' : ¬ g = p.block := fun e => hp e.symm
      simp [World.cell?, Array.getElem?_modify, hp']
end Go.Proofs.YtpbbfbgmpidgnaaDoor
