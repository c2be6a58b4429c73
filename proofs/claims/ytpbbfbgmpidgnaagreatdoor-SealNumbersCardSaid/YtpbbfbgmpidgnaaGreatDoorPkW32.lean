/-
  PROVED HERE: texts that belong together, one behind the other; what each proves, and under which conditions, its own opening remark says: ChainMem, Hold4, WalkLaw, ImgsW.
-/
import Derived.Test.YtpbbfbgmpidgnaaGreatDoorPkW00
import Derived.Test.YtpbbfbgmpidgnaaGreatDoorPkW11
import Derived.Test.YtpbbfbgmpidgnaaGreatDoorPkW18
import Derived.Test.YtpbbfbgmpidgnaaGreatDoorPkW25
import Derived.Test.YtpbbfbgmpidgnaaGreatDoorPkW27
import Derived.Test.YtpbbfbgmpidgnaaGreatDoorPkW28
import Derived.Test.YtpbbfbgmpidgnaaGreatDoorPkW30
import Derived.Test.YtpbbfbgmpidgnaaGreatDoorPkW31
/-
  PROVED HERE: images and the document's records that a call makes lie beside each other; no condition.
-/
namespace Go.Proofs.YtpbbfbgmpidgnaaGreatDoor
open Go.RowKit

/-- images and records that a call makes; the records' bytes lie below the call's own memory. -/
structure Chn (w : World) (base : Nat) (A : Option Addr) (n c : Nat) (ls : List (List UInt8)) (A' : Option Addr) (n' c' : Nat) (rs : List RecP) : Prop where
  imgs : OwnImgs w base (fun b => base ≤ b ∧ some b ≠ blk A') A n c ls
  refs : OwnRefs w base (fun b => b < base) A' n' c' rs
section
variable {w w' : World} {base : Nat} {A A' : Option Addr} {n c n' c' : Nat} {ls : List (List UInt8)} {rs : List RecP}
theorem Chn.nil (w : World) (base : Nat) : Chn w base none 0 0 [] none 0 0 [] := ⟨OwnImgs.nil _ _ _, OwnRefs.nil _ _ _⟩
theorem Chn.new (h : Chn w base A n c ls A' n' c' rs) (hk : New w w') : Chn w' base A n c ls A' n' c' rs := ⟨h.imgs.new hk, h.refs.new hk⟩
theorem Chn.ne (h : Chn w base A n c ls A' n' c' rs) : (∀ k, blk A' = some k → some k ≠ blk A) ∧ (∀ k, blk A = some k → some k ≠ blk A') := by
  obtain ⟨_, h1, _⟩ := h.imgs
  obtain ⟨_, h2, _⟩ := h.refs
  exact ⟨own_apart6 h1 h2 (by decide), own_apart6 h2 h1 (by decide)⟩
/-- behind one image more. -/
theorem Chn.image (h : Chn w base A n c ls A' n' c' rs) {A3 : Option Addr} {n3 c3 : Nat} {ls3 : List (List UInt8)} (h3 : OwnImgs w' base (fun b => base ≤ b ∧ some b ≠ blk A') A3 n3 c3 ls3) (hg : w.grownBy w' (blk A)) : Chn w' base A3 n3 c3 ls3 A' n' c' rs :=
  ⟨h3, h.refs.keepE (keep_blk hg) h.ne.1 (fun b hb e => by have := (h.imgs.lt b e.symm).1; omega)⟩
/-- behind records more. -/
theorem Chn.more (h : Chn w base A n c ls A' n' c' rs) {A3 : Option Addr} {n3 c3 : Nat} {rs3 : List RecP} (h3 : OwnRefs w' base (fun b => b < base) A3 n3 c3 rs3) (hg : w.grownBy w' (blk A')) (hbk : blk A3 = blk A' ∨ blk A3 = some w.heap.size) : Chn w' base A n c ls A3 n3 c3 rs3 :=
  ⟨((h.imgs.imp (E := fun b => (base ≤ b ∧ some b ≠ blk A3) ∧ some b ≠ blk A') fun _ hb hd => ⟨⟨hd.1, ne_blk hbk hb hd.2⟩, hd.2⟩).keepE (keep_blk hg) h.ne.2 (fun _ hd => hd.2)).imp fun _ _ hd => hd.1, h3⟩
end
/-- images and records, handed back. -/
def ChainRet (d : ChainS) (w : World) (e : Ending) (w' : World) : Prop :=
  (∃ A1 c1 A2 c2, e = .returned (.tuple #[.slice A1 d.images.length c1, .slice A2 d.recs.length c2]) ∧ Chn w' w.heap.size A1 d.images.length c1 d.images A2 d.recs.length c2 d.recs) ∧ New w w'
theorem chainRecs_some {next : Int} {raw : List (List UInt8)} (h : raw.length ≠ 0) : chainRecs next raw = (List.range (min raw.length 6)).map fun k => ⟨1, IntKind.u64.wrap (next + IntKind.u64.wrap (k : Nat)), (raw.getD k []).take 60⟩ := by unfold chainRecs; rw [if_neg h]
theorem chainRecs_none {next : Int} {raw : List (List UInt8)} (h : raw.length = 0) : chainRecs next raw = [⟨2, next, []⟩] := by unfold chainRecs; rw [if_pos h]
theorem fits_right : ∀ {left : Nat} {rs : List RecP}, (∀ r ∈ rs, recRight r = true) → (leavesOf rs).flatten.length ≤ left → rs.length ≤ fitsIn left rs
  | left, [], _, _ => Nat.zero_le _
  | left, r :: rs, h, hl => by
    have h1 := h r (by simp)
    rw [leavesOf_cons h1, List.flatten_cons, List.length_append, recEnc_size r h1] at hl
    have := fits_right (left := left - recSize r) (rs := rs) (fun x hx => h x (by simp [hx])) (by omega)
    unfold fitsIn
    rw [if_pos ⟨h1, by omega⟩, List.length_cons]
    omega
/-- a chain's records are laid. -/
theorem chain_build {i : Nat} {next : Int} {prev : List UInt8} {raw : List (List UInt8)} (hi : i ≤ 1000) (h0 : 0 ≤ next) (h1 : next ≤ 1000000) (hp : prev.length = 32) : buildOf i next prev (chainRecs next raw) = (segBytes i next prev (chainRecs next raw), 0) := by
  have hf := chain_fine (raw := raw) hi h0 h1 hp
  have hfit : (chainRecs next raw).length ≤ fitsIn 942 (chainRecs next raw) := fits_right (fun r hr => (hf.right r hr).1) hf.room
  unfold buildOf
  rw [if_neg, if_neg]
  · rw [Bool.not_eq_false, seqsFrom_iff]; exact hf.seqs
  · rw [Bool.not_eq_false]
    unfold buildArgs
    rw [decide_eq_true_eq]
    exact ⟨hf.i0, hf.i1, hf.f1, hp, hf.any, hfit⟩
end Go.Proofs.YtpbbfbgmpidgnaaGreatDoor
/-
  PROVED HERE: laws for a region that draws its order where what was made is marked: conditions of one's own on the worlds; what is common to all orders is proved once; a row of bytes that is marked reads as before; no condition.
-/
namespace Go.Proofs.YtpbbfbgmpidgnaaGreatDoor
open Go.RowKit

section
variable {P : Program} {ops : Array Oper} {Q : Exit → Act → World → Prop} {md : Region.Mode}
/-- the orders meet here. -/
theorem hold_join {S T : World → Prop} {C : Act → World → Prop} {fuel fuel2 : Nat} {listed listed2 : Array Bool} {a : Act} {w : World} (h1 : ∀ a' w', C a' w' → wpAnyH P md ops Q T fuel2 listed2 a' w')
    (h2 : Hid (∀ a' w', C a' w' → wpAnyH P md ops Q T fuel2 listed2 a' w') → wpAnyH P md ops Q S fuel listed a w) : wpAnyH P md ops Q S fuel listed a w := h2 (Lib.hid h1)
theorem hold_strong {S T : World → Prop} {fuel : Nat} {listed listed2 : Array Bool} {a : Act} {w : World} (hl : listed = listed2) (hTS : ∀ w, T w → S w) (h : wpAnyH P md ops Q T fuel listed2 a w) : wpAnyH P md ops Q S fuel listed a w := by
  subst hl
  exact held_strong hTS _ _ _ _ h
theorem hold_stepG {S : World → Prop} (T : World → Prop) {i : Nat} {o : Oper} {fuel : Nat} {listed : Array Bool} {a : Act} {w : World} (hTS : ∀ w, T w → S w) (hr : Region.ready md ops listed = [i]) (ho : ops[i]? = some o) (hw : Region.wanted o (yielded ops a.tmps) = true)
    (h : ∀ K : Act → World → Prop, Hid (∀ a' w', T w' → wpAnyH P md ops Q T fuel (listed.setIfInBounds i true) a' w' → K a' w') → Oper.wp P o a w K Q) : wpAnyH P md ops Q S (fuel + 1) listed a w := by
  refine wpAnyH_all hr (by simp) fun j hj => ?_
  have hj' : j = i := by simpa using hj
  subst hj'
  unfold wpOp
  simp only [ho, hw, if_true]
  exact .inl (h _ (Lib.hid fun a' w' hN hk => ⟨hTS _ hN, held_strong hTS _ _ _ _ hk⟩))
theorem hold_fork {S : World → Prop} {i j : Nat} {o o' : Oper} {fuel : Nat} {listed : Array Bool} {a : Act} {w : World} (hr : Region.ready md ops listed = [i, j]) (ho : ops[i]? = some o) (hw : Region.wanted o (yielded ops a.tmps) = true) (ho' : ops[j]? = some o') (hw' : Region.wanted o' (yielded ops a.tmps) = true)
    (h : ∀ K : Act → World → Prop, Hid (∀ (T : World → Prop) a' w', (∀ w, T w → S w) → T w' → wpAnyH P md ops Q T fuel (listed.setIfInBounds i true) a' w' → K a' w') → Oper.wp P o a w K Q)
    (h' : ∀ K : Act → World → Prop, Hid (∀ (T : World → Prop) a' w', (∀ w, T w → S w) → T w' → wpAnyH P md ops Q T fuel (listed.setIfInBounds j true) a' w' → K a' w') → Oper.wp P o' a w K Q) : wpAnyH P md ops Q S (fuel + 1) listed a w := by
  refine wpAnyH_all hr (by simp) fun k hk => ?_
  have hk' : k = i ∨ k = j := by simpa using hk
  unfold wpOp
  rcases hk' with rfl | rfl
  · simp only [ho, hw, if_true]
    exact .inl (h _ (Lib.hid fun T a' w' hTS hN hk => ⟨hTS _ hN, held_strong hTS _ _ _ _ hk⟩))
  · simp only [ho', hw', if_true]
    exact .inl (h' _ (Lib.hid fun T a' w' hTS hN hk => ⟨hTS _ hN, held_strong hTS _ _ _ _ hk⟩))
theorem hold_one {S : World → Prop} {i : Nat} {o : Oper} {fuel : Nat} {listed : Array Bool} {a : Act} {w : World} (hr : Region.ready md ops listed = [i]) (ho : ops[i]? = some o) (hw : Region.wanted o (yielded ops a.tmps) = true)
    (h : ∀ K : Act → World → Prop, Hid (∀ (T : World → Prop) a' w', (∀ w, T w → S w) → T w' → wpAnyH P md ops Q T fuel (listed.setIfInBounds i true) a' w' → K a' w') → Oper.wp P o a w K Q) : wpAnyH P md ops Q S (fuel + 1) listed a w := by
  refine wpAnyH_all hr (by simp) fun j hj => ?_
  have hj' : j = i := by simpa using hj
  subst hj'
  unfold wpOp
  simp only [ho, hw, if_true]
  exact .inl (h _ (Lib.hid fun T a' w' hTS hN hk => ⟨hTS _ hN, held_strong hTS _ _ _ _ hk⟩))
end
/-- the same cells, maybe other marks. -/
structure Like (w w' : World) : Prop where
  size : w.heap.size = w'.heap.size
  cell : ∀ p, w'.cell? p = w.cell? p
theorem Row.like {w w' : World} {D : Nat → Prop} {A : Option Addr} {n s : Nat} {vs : List Value} (h : Row w D A n s vs) (hl : Like w w') : Row w' D A n s vs :=
  ⟨h.1, fun hn => let ⟨b, off, e, hd, hlt, hc⟩ := h.2 hn; ⟨b, off, e, hd, hl.size ▸ hlt, fun k u hu => (hl.cell _).trans (hc k u hu)⟩⟩
theorem conv_mark {w : World} {g : Nat} {C : Array Value} {e : TypeId} (n c : Nat) (h : w.heap[g]? = some (.cells C e (0, 0))) :
    ∃ w', (convert 22 22 (.slice (some ⟨g, 0, none⟩) n c)).run Tryz.prog w = .ok (.slice (some ⟨g, 0, none⟩) n c) w' ∧ Keep (fun b => b ≠ g) w w' ∧ Like w w' := by
  have hsh : w.shape? g = some (e, C.size) := by
    unfold World.shape?
    rw [h]
  refine ⟨w.freeze ⟨g, C.size, none⟩ 1, ?_, ?_, ?_⟩
  · simp [convert, run_underlying Tryz.underlying22, run_underlying Tryz.underlying5, markStringish, hsh]
  · unfold World.freeze
    rw [if_neg (by decide)]
    refine ⟨rfl, rfl, rfl, by simp, fun k hk hne => ?_⟩
    show (w.heap.modify g _)[k]? = w.heap[k]?
    rw [Array.getElem?_modify]
    rw [if_neg (fun e => hne e.symm)]
  · unfold World.freeze
    rw [if_neg (by decide)]
    refine ⟨by simp, fun p => ?_⟩
    by_cases hp : p.block = g
    · simp [World.cell?, Array.getElem?_modify, hp, h]
    · have hp' : ¬ g = p.block := fun e => hp e.symm
      simp [World.cell?, Array.getElem?_modify, hp']
end Go.Proofs.YtpbbfbgmpidgnaaGreatDoor
/-
  PROVED HERE: what permafrostlaw18.walk answers: true, for any images; conditions: lengths that a slice may have, at most a million images.
-/
namespace Go.Proofs.YtpbbfbgmpidgnaaGreatDoor
open Go.RowKit

set_option maxRecDepth 100000 in
set_option maxHeartbeats 1000000 in
theorem walklaw_any (D D2 : Nat → Prop) (A A2 : Option Addr) (n c n2 c2 : Nat) (id : List UInt8) (ls : List (List UInt8)) (w : World) (hB : Bs w D A n id) (hc : n ≤ c) (hn : n ≤ 1099511620000) (hI : Imgs w D2 A2 n2 ls) (hn2 : n2 ≤ 1000000) :
    Calls Tryz.prog 15 #[.slice A n c, .slice A2 n2 c2] w fun e w' => e = .returned (.bool true) ∧ New w w' := by
  have HW := Lib.hid (walk_any D D2 A A2 n c n2 c2 id ls w hB hc hn hI hn2)
  have HW18 := Lib.hid (fun W (h : New w W) => walk18_any D D2 A A2 n c n2 c2 id ls W (hB.new h) hn (hI.new h) hn2)
  have HB := Lib.hid hB
  clear hB hI
  generalize walkOf id ls = d at *
  obtain ⟨hs, rs, why⟩ := d
  go_enter Tryz.func15, Tryz.ntmps15
  go_wp2_with fail
  refine HW.out.mono ?_
  rintro e w1 ⟨⟨A3, c3, A4, c4, rfl, hh, hr⟩, hK1⟩
  dsimp only at hh hr ⊢
  go_wp2_with fail
  refine (HW18.out w1 hK1).mono ?_
  rintro e w2 ⟨⟨A5, c5, A6, c6, rfl, gh, gr⟩, hK2⟩
  dsimp only at gh gr ⊢
  have HH := Lib.hid (hh.new hK2)
  have HR := Lib.hid (hr.new hK2)
  have GH := Lib.hid gh
  have GR := Lib.hid gr
  have HK2 := Lib.hid (hK1.new hK2)
  clear hh hr gh gr hK1 hK2 HW HW18
  generalize hhl : hs.length = p at *
  generalize hrl : rs.length = q at *
  have HHL := Lib.hid hhl
  have HRL := Lib.hid hrl
  have hq9 : q ≤ 9223372036854775807 := Nat.le_trans HR.out.cap HR.out.capMax
  have hp9 : p ≤ 9223372036854775807 := Nat.le_trans HH.out.cap HH.out.capMax
  clear hhl hrl
  go_wp2_with fail
  go_loopw [11] (fun i wx => ∃ k : Nat, k ≤ q ∧ i = .int .i64 (k : Int) ∧ New w2 wx) (fun i _ => q - (intOf i).toNat)
  case atStart => exact ⟨0, Nat.zero_le _, rfl, New.refl _⟩
  case round =>
    obtain ⟨k, hk, rfl, hK⟩ := hrel
    by_cases hlt : k < q
    · have hlk : k < rs.length := by have := HRL.out; omega
      obtain ⟨b1, o1, B1, d1, rfl, u0, u1, u2, hbs1⟩ := (HR.out.new hK).at3 (k := k) hlk
      obtain ⟨b2, o2, B2, d2, rfl, v0, v1, v2, hbs2⟩ := (GR.out.new hK).at3 (k := k) hlk
      have k1 : ∀ m, (convert 22 9 (.slice B1 rs[k].body.length d1)).run Tryz.prog (wr.drewN m) = .ok (.string (strOf rs[k].body)) (wr.drewN m) := fun m => run_str (hbs1.new ((New.refl wr).drewN m))
      have k2 : ∀ m, (convert 22 9 (.slice B2 rs[k].body.length d2)).run Tryz.prog (wr.drewN m) = .ok (.string (strOf rs[k].body)) (wr.drewN m) := fun m => run_str (hbs2.new ((New.refl wr).drewN m))
      clear hbs1 hbs2
      generalize rs[k] = r at *
      go_wp2_with fail
      go_quiet (fail)
      have hKq := hK.new ((New.refl wr).drewN nq)
      clear hK k1 k2 u0 u1 u2 v0 v1 v2
      generalize wr.drewN nq = wq at *
      go_wp2_with fail
      go_roundw
      case rel => exact ⟨k + 1, by omega, by go_num, hKq⟩
      case measure => simp [intOf]; omega
    · obtain rfl : k = q := by omega
      have HKr := Lib.hid hK
      clear hK
      go_wp2_with fail
      go_loopw [12] (fun i wx => ∃ j : Nat, j ≤ p ∧ i = .int .i64 (j : Int) ∧ New w2 wx) (fun i _ => p - (intOf i).toNat)
      case atStart => exact ⟨0, Nat.zero_le _, rfl, HKr.out⟩
      case round =>
        clear HKr
        obtain ⟨j, hj, rfl, hK⟩ := hrel
        by_cases hlt2 : j < p
        · have hlk : j < hs.length := by have := HHL.out; omega
          obtain ⟨b1, o1, P1, e1, Q1, f1, rfl, _, u0, u1, u2, u3, u4, u5, _, _, hp1, hr1, _, _⟩ := (HH.out.heads.new hK).at_ (k := j) hlk
          obtain ⟨b2, o2, P2, e2, Q2, f2, rfl, _, v0, v1, v2, v3, v4, v5, _, _, hp2, hr2, _, _⟩ := (GH.out.heads.new hK).at_ (k := j) hlk
          have k1 : ∀ m, (convert 22 9 (.slice P1 hs[j].prev.length e1)).run Tryz.prog (wr.drewN m) = .ok (.string (strOf hs[j].prev)) (wr.drewN m) := fun m => run_str (hp1.new ((New.refl wr).drewN m))
          have k2 : ∀ m, (convert 22 9 (.slice P2 hs[j].prev.length e2)).run Tryz.prog (wr.drewN m) = .ok (.string (strOf hs[j].prev)) (wr.drewN m) := fun m => run_str (hp2.new ((New.refl wr).drewN m))
          have k3 : ∀ m, (convert 22 9 (.slice Q1 hs[j].root.length f1)).run Tryz.prog (wr.drewN m) = .ok (.string (strOf hs[j].root)) (wr.drewN m) := fun m => run_str (hr1.new ((New.refl wr).drewN m))
          have k4 : ∀ m, (convert 22 9 (.slice Q2 hs[j].root.length f2)).run Tryz.prog (wr.drewN m) = .ok (.string (strOf hs[j].root)) (wr.drewN m) := fun m => run_str (hr2.new ((New.refl wr).drewN m))
          clear hp1 hr1 hp2 hr2
          generalize hs[j] = h at *
          go_wp2_with fail
          go_quiet (fail)
          have hKq := hK.new ((New.refl wr).drewN nq)
          clear hK k1 k2 k3 k4 u0 u1 u2 u3 u4 u5 v0 v1 v2 v3 v4 v5
          generalize wr.drewN nq = wq at *
          go_wp2_with fail
          go_roundw
          case rel => exact ⟨j + 1, by omega, by go_num, hKq⟩
          case measure => simp [intOf]; omega
        · obtain rfl : j = p := by omega
          have HS := Lib.hid (fun W (q : New wr W) => head_any D _ A A3 n c j c3 id hs W (HB.out.new (HK2.out.new (hK.new q))) hc hn (HH.out.heads.new (hK.new q)) hp9)
          have HS18 := Lib.hid (fun W (q : New wr W) => head18_any D _ A A5 n c j c5 id hs W (HB.out.new (HK2.out.new (hK.new q))) hn (GH.out.heads.new (hK.new q)) hp9)
          have HV : Hid (∀ W b A15 c15, OwnB W b 5 A15 32 c15 (headSeal id hs) → ∀ W', New W W' → (convert 22 9 (.slice A15 32 c15)).run Tryz.prog W' = .ok (.string (strOf (headSeal id hs))) W') :=
            Lib.hid fun W b A15 c15 ho W' q => run_str (Row.of_own (Own.keepNew ho q))
          have HK := Lib.hid (HK2.out.new hK)
          clear hK
          generalize headSeal id hs = sl at *
          go_wp2_with fail
          refine hold_begin (by kernel_rfl) ?_
          have n0 : New wr wr.drew := (New.refl wr).drew
          refine hold_read (i := 0) (v := ?_) rfl (by kernel_rfl) (by kernel_rfl) (by kernel_rfl) (fun _ _ _ h => h) rfl ?_ ?_
          rotate_left
          · intro w' hN
            go_simp
            try with_reducible rfl
          simp only [Act.put, List.getElem_toArray, List.getElem_cons_zero, List.setIfInBounds_toArray, List.set_cons_zero, List.set_cons_succ]
          refine hold_read (i := 1) (v := ?_) rfl (by kernel_rfl) (by kernel_rfl) (by kernel_rfl) (fun _ _ _ h => h) rfl ?_ ?_
          rotate_left
          · intro w' hN
            go_simp
            try with_reducible rfl
          simp only [Act.put, List.getElem_toArray, List.getElem_cons_succ, List.getElem_cons_zero, List.setIfInBounds_toArray, List.set_cons_zero, List.set_cons_succ]
          refine hold_read (i := 4) (v := ?_) rfl (by kernel_rfl) (by kernel_rfl) (by kernel_rfl) (fun _ _ _ h => h) rfl ?_ ?_
          rotate_left
          · intro w' hN
            go_simp
            try with_reducible rfl
          simp only [Act.put, List.getElem_toArray, List.getElem_cons_succ, List.getElem_cons_zero, List.setIfInBounds_toArray, List.set_cons_zero, List.set_cons_succ]
          refine hold_read (i := 5) (v := ?_) rfl (by kernel_rfl) (by kernel_rfl) (by kernel_rfl) (fun _ _ _ h => h) rfl ?_ ?_
          rotate_left
          · intro w' hN
            go_simp
            try with_reducible rfl
          simp only [Act.put, List.getElem_toArray, List.getElem_cons_succ, List.getElem_cons_zero, List.setIfInBounds_toArray, List.set_cons_zero, List.set_cons_succ]
          refine hold_step (i := 2) (by kernel_rfl) rfl rfl (fun K hK => ?_)
          go_simp
          refine (HS.out _ n0).mono ?_
          rintro e w8 ⟨⟨A8, c8, rfl, o8⟩, k8⟩; have v8 := HV.out w8 _ A8 c8 o8
          go_wp2_with fail
          refine hK.out _ _ k8 ?_
          clear hK K
          try simp only [Act.put, List.getElem_toArray, List.getElem_cons_succ, List.getElem_cons_zero, List.setIfInBounds_toArray, List.set_cons_zero, List.set_cons_succ]
          replace n0 := Keep.new n0 k8
          refine hold_read (i := 3) (v := ?_) rfl (by kernel_rfl) (by kernel_rfl) (by kernel_rfl) (fun _ _ _ h => h) rfl ?_ ?_
          rotate_left
          · intro w' hN
            go_simp
            try with_reducible rfl
          simp only [Act.put, List.getElem_toArray, List.getElem_cons_succ, List.getElem_cons_zero, List.setIfInBounds_toArray, List.set_cons_zero, List.set_cons_succ]
          refine hold_step (i := 6) (by kernel_rfl) rfl rfl (fun K hK => ?_)
          go_simp
          refine (HS18.out _ n0).mono ?_
          rintro e w9 ⟨⟨A9, c9, rfl, o9⟩, k9⟩; have v9 := HV.out w9 _ A9 c9 o9
          go_wp2_with fail
          refine hK.out _ _ k9 ?_
          clear hK K
          try simp only [Act.put, List.getElem_toArray, List.getElem_cons_succ, List.getElem_cons_zero, List.setIfInBounds_toArray, List.set_cons_zero, List.set_cons_succ]
          replace n0 := Keep.new n0 k9
          replace v8 := fun W (hW : New w9 W) => v8 W (Keep.new k9 hW)
          refine hold_read (i := 7) (v := ?_) rfl (by kernel_rfl) (by kernel_rfl) (by kernel_rfl) (fun _ _ _ h => h) rfl ?_ ?_
          rotate_left
          · intro w' hN
            go_simp
            try with_reducible rfl
          simp only [Act.put, List.getElem_toArray, List.getElem_cons_succ, List.getElem_cons_zero, List.setIfInBounds_toArray, List.set_cons_zero, List.set_cons_succ]
          refine hold_read (i := 8) (v := ?_) rfl (by kernel_rfl) (by kernel_rfl) (by kernel_rfl) (fun _ _ _ h => h) rfl ?_ ?_
          rotate_left
          · intro w' hN
            go_simp
            try with_reducible rfl
          simp only [Act.put, List.getElem_toArray, List.getElem_cons_succ, List.getElem_cons_zero, List.setIfInBounds_toArray, List.set_cons_zero, List.set_cons_succ]
          refine hold_read (i := 9) (v := ?_) rfl (by kernel_rfl) (by kernel_rfl) (by kernel_rfl) (fun _ _ _ h => h) rfl ?_ ?_
          rotate_left
          · intro w' hN
            go_simp
            try with_reducible rfl
          simp only [Act.put, List.getElem_toArray, List.getElem_cons_succ, List.getElem_cons_zero, List.setIfInBounds_toArray, List.set_cons_zero, List.set_cons_succ]
          refine wpAnyH_done (by kernel_rfl) ?_ _
          have hfin := HK.out.new n0
          clear v8 v9
          go_wp2_with fail
          go_ret
          exact ⟨rfl, hfin⟩
end Go.Proofs.YtpbbfbgmpidgnaaGreatDoor
/-
  PROVED HERE: the law of append at rows of images, for one operation alone; condition: fewer than 2^40 images.
-/
namespace Go.Proofs.YtpbbfbgmpidgnaaGreatDoor
open Go.RowKit

/-- images more: their cells in a row, their bytes apart. -/
theorem wp_imgsM {o : Oper} {a : Act} {K : Act → World → Prop} {Q : Exit → Act → World → Prop} (w : World) (s x : Operand)
    (ho : o.op = .call { callee := .builtin .append, args := #[s, x], argTypes := #[23, 23] })
    (base : Nat) (D : Nat → Prop) (A : Option Addr) (n c : Nat) (ls : List (List UInt8)) (hs : a.eval s = .slice A n c) (hown : OwnImgs w base D A n c ls)
    (D2 : Nat → Prop) (A2 : Option Addr) (m c2 : Nat) (us : List Value) (ms : List (List UInt8)) (hx : a.eval x = .slice A2 m c2) (hr : Row w D2 A2 m 1 us) (hm : ms.length = m) (hy : ∀ k (h : k < ms.length), ImgAt w (fun b => D b ∧ some b ≠ blk A) us k ms[k])
    (h63 : n + m ≤ 1099511627776) (hbase : base ≤ w.heap.size)
    (h : ∀ A3 c3 w3, OwnImgs w3 base D A3 (n + m) c3 (ls ++ ms) → w.grownBy w3 (blk A) → (blk A3 = blk A ∨ blk A3 = some w.heap.size) → K (a.put o.dst (.slice A3 (n + m) c3)) w3) : o.wp Tryz.prog a w K Q := by
  obtain ⟨vs, h1, h2, h3⟩ := hown
  have hul : us.length = m := by have := hr.1; omega
  have hone : ∀ u ∈ us, u.oneCell' = true := by
    intro u hu
    obtain ⟨j, hj, rfl⟩ := List.mem_iff_getElem.1 hu
    obtain ⟨A0, c0, e1, _⟩ := hy j (by omega)
    rw [List.getElem?_eq_getElem hj] at e1; injection e1 with e1; rw [e1]; rfl
  obtain ⟨i, hi, hz0, hz1, hz2⟩ := info_parts info_bytes
  refine wp_append_row w s x 23 ho base 22 i (.slice none 0 0) 1 24 Tryz.underlying23 hi hz0 hz1 hz2 rfl (by decide) A n c vs hs h1 D2 A2 m c2 us hx hr hone (by unfold maxLen; omega) (by omega) hbase ?_
  intro A3 c3 w3 hown3 hg3 hbk3
  refine h A3 c3 w3 ⟨vs ++ us, hown3, by rw [List.length_append]; omega, fun k hk => ?_⟩ hg3 hbk3
  have hvl : vs.length = n := by have := h1.1; simpa using this
  have move : ∀ {A0 : Option Addr} {m0 : Nat} {z : List UInt8}, Bs w (fun b => D b ∧ some b ≠ blk A) A0 m0 z → Bs w3 (fun b => D b ∧ some b ≠ blk A3) A0 m0 z := fun {A0 m0 z} hb => by
    have hk3 : Keep (fun b => some b ≠ blk A) w w3 := (Keep.refl _ w).grown hg3 (fun k hk hd => absurd hk.symm hd)
    have hb3 : Bs w (fun b => (D b ∧ some b ≠ blk A) ∧ some b ≠ blk A3) A0 m0 z := hb.imp fun b hlt hd => ⟨hd, by
      rcases hbk3 with e | e
      · rw [e]; exact hd.2
      · rw [e]; intro e'; injection e'; omega⟩
    exact (Row.keep hb3 hk3 (fun b _ hd => hd.1.2)).imp fun b _ hd => ⟨hd.1.1, hd.2⟩
  by_cases hkn : k < ls.length
  · rw [List.getElem_append_left hkn]
    obtain ⟨A0, c0, e, hc, hc9, hb⟩ := h3 k hkn
    exact ⟨A0, c0, by rw [List.getElem?_append_left (by omega)]; exact e, hc, hc9, move hb⟩
  · rw [List.getElem_append_right (by omega)]
    have hkl : k - ls.length < ms.length := by rw [List.length_append] at hk; omega
    obtain ⟨A0, c0, e, hc, hc9, hb⟩ := hy (k - ls.length) hkl
    exact ⟨A0, c0, by rw [List.getElem?_append_right (by omega), show k - vs.length = k - ls.length from by omega]; exact e, hc, hc9, move hb⟩
end Go.Proofs.YtpbbfbgmpidgnaaGreatDoor
