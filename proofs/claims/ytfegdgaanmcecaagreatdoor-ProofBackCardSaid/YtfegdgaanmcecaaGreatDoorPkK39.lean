/-
  PROVED HERE: texts that belong together, one behind the other; what each proves, and under which conditions, its own opening remark says: MakeLaw, Leaves2, Elt2.
-/
import Derived.Test.YtfegdgaanmcecaaGreatDoorPkK27
import Derived.Test.YtfegdgaanmcecaaGreatDoorPkK30
import Derived.Test.YtfegdgaanmcecaaGreatDoorPkK38
/-
  PROVED HERE: what a proof's making answers, in plain law; what it answers of a chain's segments; condition: at most 1000 segments.
-/
namespace Go.Proofs.YtfegdgaanmcecaaGreatDoor
open Go.RowKit

/-- may a head stand behind the one ahead, if there is one? -/
def mayFollow : Option HeadP → HeadP → Bool
  | none, _ => true
  | some a, b => followOf a b
/-- the heads and the records of images, each head behind the one ahead; nothing where one is refused. -/
def gather : Option HeadP → List (List UInt8) → Option (List HeadP × List (List RecP))
  | _, [] => some ([], [])
  | p, b :: bs => if (segRead b).2.2 = 0 ∧ mayFollow p (segRead b).1 = true then (gather (some (segRead b).1) bs).map fun q => ((segRead b).1 :: q.1, (segRead b).2.1 :: q.2) else none
/-- the proof of the first record that has a number. -/
def seekIn (s : Int) : List HeadP → List (List RecP) → Option ProofP
  | h :: hs, rs :: rss => match rs.findIdx? (fun r => r.seq == s) with
    | some k => some (madeProof rs h k hs)
    | none => seekIn s hs rss
  | _, _ => none
def noProof : ProofP := ⟨⟨0, 0, 0, 0, [], []⟩, 0, [], [], []⟩
def makeOf (images : List (List UInt8)) (s : Int) : ProofP × Int := match gather none images with
  | none => (noProof, 40)
  | some (hs, rss) => match seekIn s hs rss with
    | none => (noProof, 20)
    | some p => (p, 0)
theorem gather_step {p : Option HeadP} {images : List (List UInt8)} {k : Nat} (hk : k < images.length) (h : (segRead images[k]).2.2 = 0 ∧ mayFollow p (segRead images[k]).1 = true) :
    gather p (images.drop k) = (gather (some (segRead images[k]).1) (images.drop (k + 1))).map fun q => ((segRead images[k]).1 :: q.1, (segRead images[k]).2.1 :: q.2) := by
  rw [List.drop_eq_getElem_cons hk, gather, if_pos h]
theorem gather_stop {p : Option HeadP} {images : List (List UInt8)} {k : Nat} (hk : k < images.length) (h : ¬ ((segRead images[k]).2.2 = 0 ∧ mayFollow p (segRead images[k]).1 = true)) : gather p (images.drop k) = none := by
  rw [List.drop_eq_getElem_cons hk, gather, if_neg h]
/-- one image further. -/
theorem gather_more {images : List (List UInt8)} {k : Nat} {hs : List HeadP} {rss : List (List RecP)} (hk : k < images.length) (hg : gather none images = (gather hs.getLast? (images.drop k)).map fun q => (hs ++ q.1, rss ++ q.2)) :
    (¬ ((segRead images[k]).2.2 = 0 ∧ mayFollow hs.getLast? (segRead images[k]).1 = true) → gather none images = none) ∧
    ((segRead images[k]).2.2 = 0 ∧ mayFollow hs.getLast? (segRead images[k]).1 = true → gather none images = (gather (hs ++ [(segRead images[k]).1]).getLast? (images.drop (k + 1))).map fun q => ((hs ++ [(segRead images[k]).1]) ++ q.1, (rss ++ [(segRead images[k]).2.1]) ++ q.2)) := by
  constructor
  · intro h
    rw [hg, gather_stop hk h]
    rfl
  · intro h
    rw [hg, gather_step hk h, List.getLast?_concat]
    cases gather (some (segRead images[k]).1) (images.drop (k + 1)) with
    | none => rfl
    | some q => simp
theorem gather_done {images : List (List UInt8)} {k : Nat} {hs : List HeadP} {rss : List (List RecP)} (hk : images.length ≤ k) (hg : gather none images = (gather hs.getLast? (images.drop k)).map fun q => (hs ++ q.1, rss ++ q.2)) : gather none images = some (hs, rss) := by
  rw [hg, List.drop_eq_nil_of_le hk, gather]
  simp
theorem gather_snoc (b : List UInt8) : ∀ (l : List (List UInt8)) (p : Option HeadP), gather p (l ++ [b]) = (gather p l).bind fun q => if (segRead b).2.2 = 0 ∧ mayFollow (q.1.getLast?.or p) (segRead b).1 = true then some (q.1 ++ [(segRead b).1], q.2 ++ [(segRead b).2.1]) else none
  | [], p => by
    simp only [List.nil_append, gather, Option.bind_some, Option.map_some, List.getLast?_nil, Option.none_or]
    try rfl
  | a :: l, p => by
    rw [List.cons_append, gather, gather]
    split
    · rw [gather_snoc b l]
      cases gather (some (segRead a).1) l with
      | none => rfl
      | some q =>
        obtain ⟨q1, q2⟩ := q
        simp only [Option.bind_some, Option.map_some]
        have e : ((segRead a).1 :: q1).getLast?.or p = q1.getLast?.or (some (segRead a).1) := by
          cases q1 with
          | nil => rfl
          | cons x xs => rw [List.getLast?_cons_cons]; cases h : (x :: xs).getLast? with
            | none => simp at h
            | some y => rfl
        rw [e]
        split <;> simp
    · rfl














theorem seekIn_at (s : Int) : ∀ (hs : List HeadP) (rss : List (List RecP)) (i j : Nat) (h : HeadP) (rs : List RecP), hs[i]? = some h → rss[i]? = some rs → (∀ i' rs', i' < i → rss[i']? = some rs' → rs'.findIdx? (fun r => r.seq == s) = none) → rs.findIdx? (fun r => r.seq == s) = some j → seekIn s hs rss = some (madeProof rs h j (hs.drop (i + 1)))
  | [], _, i, j, h, rs, h1, _, _, _ => by simp at h1
  | x :: hs, [], i, j, h, rs, _, h2, _, _ => by simp at h2
  | x :: hs, y :: rss, 0, j, h, rs, h1, h2, _, h4 => by
    simp only [List.getElem?_cons_zero, Option.some.injEq] at h1 h2
    subst h1
    subst h2
    rw [seekIn, h4]
    rfl
  | x :: hs, y :: rss, i + 1, j, h, rs, h1, h2, h3, h4 => by
    rw [List.getElem?_cons_succ] at h1 h2
    rw [seekIn, h3 0 y (by omega) rfl]
    exact seekIn_at s hs rss i j h rs h1 h2 (fun i' rs' hi' hr => h3 (i' + 1) rs' (by omega) (by rw [List.getElem?_cons_succ]; exact hr)) h4
theorem seekIn_none (s : Int) : ∀ (hs : List HeadP) (rss : List (List RecP)), (∀ rs ∈ rss, rs.findIdx? (fun r => r.seq == s) = none) → seekIn s hs rss = none
  | [], _, _ => by unfold seekIn; rfl
  | x :: hs, [], _ => by unfold seekIn; rfl
  | x :: hs, y :: rss, h => by
    rw [seekIn, h y (by simp)]
    exact seekIn_none s hs rss fun rs hr => h rs (by simp [hr])
/-! ### a chain's -/
/-- the records of a chain's segment. -/
def segRecs (id : List UInt8) (l : List (List (List UInt8))) (i : Nat) : List RecP := chainRecs (chainTo id l i).next (l.getD i [])
def chainSegs (id : List UInt8) (l : List (List (List UInt8))) (n : Nat) : List (List RecP) := (List.range n).map (segRecs id l)
theorem chain_last (id : List UInt8) (l : List (List (List UInt8))) {n : Nat} (h0 : n ≠ 0) : (chainTo id l n).heads.getLast? = some (chainHead (n - 1) (chainTo id l (n - 1)).next (chainTo id l (n - 1)).prev (segRecs id l (n - 1))) := by
  rw [List.getLast?_eq_getElem?, chain_heads_len, chain_head_at id l (n - 1) n (by omega)]
  rfl
theorem chain_gather (id : List UInt8) (l : List (List (List UInt8))) : ∀ n, n ≤ 1000 → gather none (chainTo id l n).images = some ((chainTo id l n).heads, chainSegs id l n)
  | 0, _ => rfl
  | n + 1, hn => by
    have ho := chain_ok id l n (by omega)
    have q0 := ho.next0
    have q1 := ho.next1
    have hf := chain_fine (i := n) (next := (chainTo id l n).next) (raw := l.getD n []) (by omega) (by omega) (by omega) ho.prev
    have e1 : (chainTo id l (n + 1)).images = (chainTo id l n).images ++ [segBytes n (chainTo id l n).next (chainTo id l n).prev (segRecs id l n)] := rfl
    have e2 : (chainTo id l (n + 1)).heads = (chainTo id l n).heads ++ [chainHead n (chainTo id l n).next (chainTo id l n).prev (segRecs id l n)] := rfl
    have hr : segRead (segBytes n (chainTo id l n).next (chainTo id l n).prev (segRecs id l n)) = (chainHead n (chainTo id l n).next (chainTo id l n).prev (segRecs id l n), segRecs id l n, 0) := hf.read
    have hm : mayFollow (chainTo id l n).heads.getLast? (chainHead n (chainTo id l n).next (chainTo id l n).prev (segRecs id l n)) = true := by
      by_cases h0 : n = 0
      · subst h0; rfl
      · rw [chain_last id l h0]
        refine chain_follows id l (n := n + 1) (k := n - 1) hn (by omega) (chain_head_at id l (n - 1) (n + 1) (by omega)) ?_
        rw [show n - 1 + 1 = n from by omega]
        exact chain_head_at id l n (n + 1) (by omega)
    rw [e1, gather_snoc, chain_gather id l n (by omega), Option.bind_some, hr, Option.or_none]
    dsimp only
    rw [if_pos ⟨rfl, hm⟩, e2]
    unfold chainSegs
    rw [List.range_succ, List.map_append]
    rfl
theorem chain_next_mono (id : List UInt8) (l : List (List (List UInt8))) {i : Nat} : ∀ n, i ≤ n → (chainTo id l i).next ≤ (chainTo id l n).next
  | 0, h => by obtain rfl : i = 0 := by omega
               exact Int.le_refl _
  | n + 1, h => by
    by_cases e : i = n + 1
    · subst e; exact Int.le_refl _
    · have := chain_next_mono id l (i := i) n (by omega)
      have e1 : (chainTo id l (n + 1)).next = (chainTo id l n).next + (segRecs id l n).length := rfl
      omega
theorem segRecs_seq (id : List UInt8) (l : List (List (List UInt8))) {i : Nat} (hi : i ≤ 1000) {j : Nat} (hj : j < (segRecs id l i).length) : (segRecs id l i)[j].seq = (chainTo id l i).next + j ∧ recRight (segRecs id l i)[j] = true := by
  have ho := chain_ok id l i hi
  have q0 := ho.next0
  have q1 := ho.next1
  have := chainRecs_get (next := (chainTo id l i).next) (raw := l.getD i []) (by omega) (by omega) j hj
  exact ⟨this.1, this.2.2⟩
theorem segRecs_find (id : List UInt8) (l : List (List (List UInt8))) {i : Nat} (hi : i ≤ 1000) (s : Int) :
    (segRecs id l i).findIdx? (fun r => r.seq == s) = if (chainTo id l i).next ≤ s ∧ s < (chainTo id l (i + 1)).next then some (s - (chainTo id l i).next).toNat else none := by
  have e1 : (chainTo id l (i + 1)).next = (chainTo id l i).next + (segRecs id l i).length := rfl
  have hs := fun j (hj : j < (segRecs id l i).length) => (segRecs_seq id l hi hj).1
  split
  · rename_i h
    have hj : (s - (chainTo id l i).next).toNat < (segRecs id l i).length := by omega
    refine List.findIdx?_eq_some_iff_getElem.2 ⟨hj, ?_, fun j hjk => ?_⟩
    · rw [hs _ hj, beq_iff_eq]; omega
    · rw [hs _ (by omega)]; simp; omega
  · rename_i h
    refine List.findIdx?_eq_none_iff.2 fun r hr => ?_
    obtain ⟨j, hj, rfl⟩ := List.mem_iff_getElem.1 hr
    rw [hs _ hj]
    simp
    omega
/-- the segment that holds a number. -/
theorem chain_find (id : List UInt8) (l : List (List (List UInt8))) : ∀ n (s : Int), 1 ≤ s → s < (chainTo id l n).next → ∃ i, i < n ∧ (chainTo id l i).next ≤ s ∧ s < (chainTo id l (i + 1)).next
  | 0, s, h0, h1 => by
    have : (chainTo id l 0).next = 1 := rfl
    omega
  | n + 1, s, h0, h1 => by
    by_cases h : s < (chainTo id l n).next
    · obtain ⟨i, hi, r⟩ := chain_find id l n s h0 h
      exact ⟨i, by omega, r⟩
    · exact ⟨n, by omega, by omega, h1⟩
/-- the proof of a number of a chain. -/
def chainProof (id : List UInt8) (l : List (List (List UInt8))) (n i : Nat) (s : Int) : ProofP := madeProof (segRecs id l i) (chainHead i (chainTo id l i).next (chainTo id l i).prev (segRecs id l i)) (s - (chainTo id l i).next).toNat ((chainTo id l n).heads.drop (i + 1))
theorem chain_make_in (id : List UInt8) (l : List (List (List UInt8))) {n i : Nat} (hn : n ≤ 1000) (hi : i < n) {s : Int} (h0 : (chainTo id l i).next ≤ s) (h1 : s < (chainTo id l (i + 1)).next) : makeOf (chainTo id l n).images s = (chainProof id l n i s, 0) := by
  have hsk : seekIn s (chainTo id l n).heads (chainSegs id l n) = some (chainProof id l n i s) := by
    refine seekIn_at s _ _ i (s - (chainTo id l i).next).toNat _ (segRecs id l i) (chain_head_at id l i n hi) ?_ ?_ ?_
    · unfold chainSegs; rw [List.getElem?_map, List.getElem?_range hi]; rfl
    · intro i' rs' hi' hr
      unfold chainSegs at hr
      rw [List.getElem?_map, List.getElem?_range (by omega)] at hr
      injection hr with hr
      subst hr
      rw [segRecs_find id l (by omega), if_neg]
      have := chain_next_mono id l (i := i' + 1) i (by omega)
      omega
    · rw [segRecs_find id l (by omega), if_pos ⟨h0, h1⟩]
  unfold makeOf
  rw [chain_gather id l n hn]
  dsimp only
  rw [hsk]
theorem chain_make_out (id : List UInt8) (l : List (List (List UInt8))) {n : Nat} (hn : n ≤ 1000) {s : Int} (h : s < 1 ∨ (chainTo id l n).next ≤ s) : makeOf (chainTo id l n).images s = (noProof, 20) := by
  have hsk : seekIn s (chainTo id l n).heads (chainSegs id l n) = none := by
    refine seekIn_none s _ _ fun rs hr => ?_
    unfold chainSegs at hr
    obtain ⟨i, hi, rfl⟩ := List.mem_map.1 hr
    have hi : i < n := by simpa using hi
    rw [segRecs_find id l (by omega), if_neg]
    have h1 := (chain_ok id l i (by omega)).next0
    have := chain_next_mono id l (i := i + 1) n (by omega)
    omega
  unfold makeOf
  rw [chain_gather id l n hn]
  dsimp only
  rw [hsk]
theorem lastOf_drop (id : List UInt8) (l : List (List (List UInt8))) {n i : Nat} (hn : n ≤ 1000) (hi : i < n) {h : HeadP} (hh : (chainTo id l n).heads[i]? = some h) : ∃ x, lastOf h ((chainTo id l n).heads.drop (i + 1)) = some x ∧ (chainTo id l n).heads.getLast? = some x := by
  have hl := chain_heads_len id l n
  have hd : h :: (chainTo id l n).heads.drop (i + 1) = (chainTo id l n).heads.drop i := by
    obtain ⟨h1, h2⟩ := List.getElem?_eq_some_iff.1 hh
    rw [List.drop_eq_getElem_cons h1, h2]
  refine ⟨_, lastOf_all _ h fun k x y hx hy => ?_, ?_⟩
  · rw [hd, List.getElem?_drop] at hx hy
    have hk : i + (k + 1) < n := by
      have := (List.getElem?_eq_some_iff.1 hy).1
      omega
    exact chain_follows id l (k := i + k) hn (by omega) hx hy
  · rw [List.getLast?_eq_getElem?, ← List.getLast?_eq_getElem?]
    have : (chainTo id l n).heads.getLast? = ((chainTo id l n).heads.drop i).getLast? := by rw [List.getLast?_drop, if_neg (by omega)]
    rw [this, ← hd]
    exact List.getLast?_eq_some_getLast (by simp)
/-- what is made is checked under the head, and shows the record. -/
theorem chain_check (id : List UInt8) (l : List (List (List UInt8))) {n i : Nat} (hn : n ≤ 1000) (hi : i < n) {s : Int} (h0 : (chainTo id l i).next ≤ s) (h1 : s < (chainTo id l (i + 1)).next) :
    ∃ r, (segRecs id l i)[(s - (chainTo id l i).next).toNat]? = some r ∧ checkProof (headSeal id (chainTo id l n).heads) (chainProof id l n i s) = some r ∧ r.seq = s := by
  have e1 : (chainTo id l (i + 1)).next = (chainTo id l i).next + (segRecs id l i).length := rfl
  have hj : (s - (chainTo id l i).next).toNat < (segRecs id l i).length := by omega
  have hg := segRecs_seq id l (i := i) (by omega) hj
  have q0 := (chain_ok id l i (by omega)).next0
  have q1 := (chain_ok id l i (by omega)).next1
  have hl := chainRecs_length (chainTo id l i).next (l.getD i [])
  have hl6 : (segRecs id l i).length ≤ 6 := hl.2
  obtain ⟨x, hx1, hx2⟩ := lastOf_drop id l hn hi (chain_head_at id l i n hi)
  refine ⟨_, List.getElem?_eq_getElem hj, check_made hj hg.2 (by omega) rfl rfl ?_ hx1 ?_, by rw [hg.1]; omega⟩
  · rw [hg.1]
    show _ = IntKind.u64.wrap ((chainTo id l i).next + IntKind.u64.wrap _)
    rw [IntKind.wrap_u64, IntKind.wrap_u64]
    omega
  · unfold headSeal
    rw [hx2]
end Go.Proofs.YtfegdgaanmcecaaGreatDoor
/-
  PROVED HERE: what segment.Leaves and permafrostref17.Leaves answer, with the rows' capacities bounded; condition: lengths that a slice may have.
-/
namespace Go.Proofs.YtfegdgaanmcecaaGreatDoor
open Go.RowKit

theorem OwnImgs.apart {w : World} {base base' : Nat} {D : Nat → Prop} {A A' : Option Addr} {n c n' c' : Nat} {ls : List (List UInt8)} {bs : List UInt8} (h : OwnImgs w base D A n c ls) (hb : OwnB w base' 5 A' n' c' bs) : Bs w (fun b => base' ≤ b ∧ some b ≠ blk A) A' n' bs := by
  obtain ⟨_, h1, _⟩ := h
  exact own_u8_ne h1 hb
set_option maxRecDepth 100000 in
set_option maxHeartbeats 2000000 in
theorem leavesM_any (D : Nat → Prop) (A : Option Addr) (n c : Nat) (rs : List RecP) (w : World) (hB : Recs w D A n rs) (hn : n ≤ 1099511620000) :
    Calls Tryz.prog 35 #[.slice A n c] w fun e w' => (∃ A' c', e = .returned (.slice A' n c') ∧ OwnImgs w' w.heap.size (fun b => w.heap.size ≤ b) A' n c' (leavesOf rs)) ∧ New w w' := by
  have hl := hB.len
  have HB := Lib.hid hB
  clear hB
  go_enter Tryz.func35, Tryz.ntmps35
  go_wp2_with fail
  go_loopw [3, 10] (fun s3 i wx => ∃ (k : Nat) (A' : Option Addr) (c' : Nat), k ≤ n ∧ i = .int .i64 (k : Int) ∧ s3 = .slice A' k c' ∧ OwnImgs wx w.heap.size (fun b => w.heap.size ≤ b) A' k c' (leavesOf (rs.take k)) ∧ New w wx) (fun _ i _ => n - (intOf i).toNat)
  case atStart => exact ⟨0, none, 0, Nat.zero_le _, rfl, rfl, OwnImgs.nil _ _ _, New.refl _⟩
  case round =>
    obtain ⟨k, A1, c1, hk, rfl, rfl, hown, hK⟩ := hrel
    by_cases hlt : k < n
    · obtain ⟨b, off, A', c', rfl, h1, h2, h3, hc', hb, hs0, hs1, hc9⟩ := (HB.out.new hK).at_ (k := k) (by omega)
      have HLT := Lib.hid (leaves_take rs k (by omega))
      generalize rs[k]'_ = r at *
      have hK0 : New w (wr.alloc (.cells #[.int .i64 r.kind, .int .u64 r.seq, .slice A' r.body.length c'] 42)) := hK.alloc _
      have hN0 : New wr (wr.alloc (.cells #[.int .i64 r.kind, .int .u64 r.seq, .slice A' r.body.length c'] 42)) := (New.refl wr).alloc _
      by_cases hr : recRight r = true
      · have HE := Lib.hid (encode_yes D A' r.body.length c' r _ (hb.new hN0) hc' (by omega) hs0 hs1 hr)
        rw [if_pos hr] at HLT
        clear hb hc' hs0 hs1 hr
        go_wp2_with fail
        refine HE.out.mono ?_
        rintro e w1 ⟨⟨A2, c2, rfl, hown2⟩, hK1⟩
        have hN1 := hN0.new hK1
        have hown1 := hown.new hN1
        have hK01 := hK.new hN1
        have hge : w.heap.size ≤ (wr.alloc (.cells #[.int .i64 r.kind, .int .u64 r.seq, .slice A' r.body.length c'] 42)).heap.size := hK0.size
        have hy := (Row.imp (hown1.apart hown2) (E := fun b => w.heap.size ≤ b ∧ some b ≠ blk A1) (fun b _ h => ⟨Nat.le_trans hge h.1, h.2⟩)).alloc (.cells #[.slice A2 (recEnc r).length c2] 31)
        have hmc := own_cap hown2
        have hmx := own_capMax hown2
        have hown1' := hown1.new ((New.refl w1).alloc (.cells #[.slice A2 (recEnc r).length c2] 31))
        have hrow := row_one w1 31 (.slice A2 (recEnc r).length c2)
        have hbd : k + 1 ≤ 1099511627776 := by omega
        have hsz : w.heap.size ≤ (w1.alloc (.cells #[.slice A2 (recEnc r).length c2] 31)).heap.size := (hK01.alloc _).size
        clear hown hK hN1 hN0 hK0 hK1 h1 h2 h3 HE hown2 hge
        go_wp2_with (at_builtin; refine app_imgs _ rfl (.tmp 19) (.tmp 21) rfl w.heap.size (fun b => w.heap.size ≤ b) A1 k c1 _ rfl hown1' (fun g => w1.heap.size ≤ g) _ 1 A2 _ c2 _ rfl hrow hy hmc hmx hbd hsz ?_; intro A3 c3 w3 hown3 hg3 hbk3)
        have hK3 := (hK01.alloc (.cells #[.slice A2 (recEnc r).length c2] 31)).grown hg3 (fun k hk _ => (hown1.lt k hk).1)
        clear hown1 hown1' hrow hy hmc hg3 hbk3 hK01 hsz
        go_roundw
        case rel => exact ⟨k + 1, _, _, by omega, by go_num, rfl, by rw [HLT.out]; exact hown3, hK3⟩
        case measure => simp [intOf]; omega
      · have hr' : recRight r = false := by simpa using hr
        have HE := Lib.hid (encode_no D A' r.body.length c' r _ (hb.new hN0) hc' (by omega) hs0 hs1 hr')
        rw [if_neg hr] at HLT
        clear hb hc' hs0 hs1 hr hr'
        go_wp2_with fail
        refine HE.out.mono ?_
        rintro e w1 ⟨rfl, hK1⟩
        have hN1 := hN0.new hK1
        have hown1 := hown.new hN1
        have hK01 := hK.new hN1
        have hy : Bs (w1.alloc (.cells #[.slice none 0 0] 31)) (fun b => w.heap.size ≤ b ∧ some b ≠ blk A1) none 0 [] := Row.nil _ _ _ _
        have hown1' := hown1.new ((New.refl w1).alloc (.cells #[.slice none 0 0] 31))
        have hrow := row_one w1 31 (.slice none 0 0)
        have hbd : k + 1 ≤ 1099511627776 := by omega
        have hsz : w.heap.size ≤ (w1.alloc (.cells #[.slice none 0 0] 31)).heap.size := (hK01.alloc _).size
        clear hown hK hN1 hN0 hK0 hK1 h1 h2 h3 HE
        go_wp2_with (at_builtin; refine app_imgs _ rfl (.tmp 19) (.tmp 21) rfl w.heap.size (fun b => w.heap.size ≤ b) A1 k c1 _ rfl hown1' (fun g => w1.heap.size ≤ g) _ 1 none _ 0 _ rfl hrow hy (Nat.le_refl _) (by decide) hbd hsz ?_; intro A3 c3 w3 hown3 hg3 hbk3)
        have hK3 := (hK01.alloc (.cells #[.slice none 0 0] 31)).grown hg3 (fun k hk _ => (hown1.lt k hk).1)
        clear hown1 hown1' hrow hy hg3 hbk3 hK01 hsz
        go_roundw
        case rel => exact ⟨k + 1, _, _, by omega, by go_num, rfl, by rw [HLT.out]; exact hown3, hK3⟩
        case measure => simp [intOf]; omega
    · obtain rfl : k = n := by omega
      rw [List.take_of_length_le (by omega)] at hown
      go_wp2_with fail
      go_ret
      exact ⟨⟨_, _, rfl, hown⟩, hK⟩














































































end Go.Proofs.YtfegdgaanmcecaaGreatDoor
/-
  PROVED HERE: the laws of append at rows of elements for one operation alone; no condition; no program is named.
-/
namespace Go.Proofs.YtfegdgaanmcecaaGreatDoor
open Go.RowKit

section
variable {α : Type} {E : Elt α}
/-- the law of append: many at once. -/
theorem wp_slM {P : Program} {o : Oper} {a : Act} {K : Act → World → Prop} {Q : Exit → Act → World → Prop} (w : World) (s x : Operand) (T t : TypeId)
    (ho : o.op = .call { callee := .builtin .append, args := #[s, x], argTypes := #[T, T] })
    (i : TypeInfo) (z : Value) (bytes : Nat) (ht : P.underlying T = some (.slice t)) (hi : P.info? t = some i) (hz : i.zero = some z) (hsize : i.size = E.size) (hby : i.bytes = bytes) (hzs : z.cells.size = E.size)
    (base : Nat) (D : Nat → Prop) (A : Option Addr) (n c : Nat) (ls : List α) (hs : a.eval s = .slice A n c) (hown : OwnSl t E w base D A n c ls)
    (D2 : Nat → Prop) (A2 : Option Addr) (m c2 : Nat) (us : List Value) (ms : List α) (hx : a.eval x = .slice A2 m c2) (hr : Row w D2 A2 m E.size us) (hm : ms.length = m) (hy : ∀ k (h : k < ms.length), E.At w (fun b => D b ∧ some b ≠ blk A) us (k * E.size) ms[k])
    (h63 : n + m ≤ 9223372036854775807) (hbytes : (n + m) * bytes ≤ 140737488355328) (hbase : base ≤ w.heap.size)
    (h : ∀ A3 c3 w3, OwnSl t E w3 base D A3 (n + m) c3 (ls ++ ms) → w.grownBy w3 (blk A) → (blk A3 = blk A ∨ blk A3 = some w.heap.size) → K (a.put o.dst (.slice A3 (n + m) c3)) w3) : o.wp P a w K Q := by
  obtain ⟨vs, h1, h2, h3⟩ := hown
  have hul : us.length = m * E.size := hr.1
  have hp := E.pos
  have hone : ∀ u ∈ us, u.oneCell' = true := by
    intro u hu
    obtain ⟨j, hj, rfl⟩ := List.mem_iff_getElem.1 hu
    have hjm : j / E.size < ms.length := by rw [hm]; exact Nat.div_lt_of_lt_mul (by rw [Nat.mul_comm]; omega)
    obtain ⟨u, hu1, hu2⟩ := E.one (hy (j / E.size) hjm) (j % E.size) (Nat.mod_lt _ hp)
    rw [Nat.mul_comm, Nat.div_add_mod, List.getElem?_eq_getElem hj] at hu1
    injection hu1 with hu1
    rw [hu1]
    exact hu2
  refine wp_append_row w s x T ho base t i z E.size bytes ht hi hz hsize hby hzs hp A n c vs hs h1 D2 A2 m c2 us hx hr hone (by unfold maxLen; exact h63) hbytes hbase ?_
  intro A3 c3 w3 hown3 hg3 hbk3
  refine h A3 c3 w3 ⟨vs ++ us, hown3, by rw [List.length_append]; omega, fun k hk => ?_⟩ hg3 hbk3
  have hvl : vs.length = n * E.size := h1.1
  have move : ∀ {xs : List Value} {j : Nat} {y : α}, E.At w (fun b => D b ∧ some b ≠ blk A) xs j y → E.At w3 (fun b => D b ∧ some b ≠ blk A3) xs j y := fun {xs j y} hb => by
    have hb3 := E.imp hb (E := fun b => (D b ∧ some b ≠ blk A) ∧ some b ≠ blk A3) fun b hlt hd => ⟨hd, ne_blk hbk3 hlt hd.2⟩
    exact E.imp (E.keep hb3 (keep_blk hg3) (fun b _ hd => hd.1.2)) fun b _ hd => ⟨hd.1.1, hd.2⟩
  by_cases hkn : k < ls.length
  · rw [List.getElem_append_left hkn]
    refine move (E.shift (h3 k hkn) fun j hj u hu => ?_)
    have h4 := Nat.mul_le_mul_right E.size (show k + 1 ≤ n by omega)
    rw [Nat.add_mul] at h4
    rw [List.getElem?_append_left (by omega)]
    exact hu
  · rw [List.getElem_append_right (by omega)]
    have hkl : k - ls.length < ms.length := by rw [List.length_append] at hk; omega
    refine move (E.shift (hy (k - ls.length) hkl) fun j hj u hu => ?_)
    have h4 : k * E.size = vs.length + (k - ls.length) * E.size := by rw [hvl, ← h2, ← Nat.add_mul]; congr 1; omega
    rw [h4, Nat.add_assoc, List.getElem?_append_right (by omega), Nat.add_sub_cancel_left]
    exact hu
/-- one more. -/
theorem wp_sl {P : Program} {o : Oper} {a : Act} {K : Act → World → Prop} {Q : Exit → Act → World → Prop} (w : World) (s x : Operand) (T t : TypeId)
    (ho : o.op = .call { callee := .builtin .append, args := #[s, x], argTypes := #[T, T] })
    (i : TypeInfo) (z : Value) (bytes : Nat) (ht : P.underlying T = some (.slice t)) (hi : P.info? t = some i) (hz : i.zero = some z) (hsize : i.size = E.size) (hby : i.bytes = bytes) (hzs : z.cells.size = E.size)
    (base : Nat) (D : Nat → Prop) (A : Option Addr) (n c : Nat) (ls : List α) (hs : a.eval s = .slice A n c) (hown : OwnSl t E w base D A n c ls)
    (D2 : Nat → Prop) (A2 : Option Addr) (c2 : Nat) (us : List Value) (y : α) (hx : a.eval x = .slice A2 1 c2) (hr : Row w D2 A2 1 E.size us) (hy : E.At w (fun b => D b ∧ some b ≠ blk A) us 0 y)
    (h63 : n + 1 ≤ 9223372036854775807) (hbytes : (n + 1) * bytes ≤ 140737488355328) (hbase : base ≤ w.heap.size)
    (h : ∀ A3 c3 w3, OwnSl t E w3 base D A3 (n + 1) c3 (ls ++ [y]) → w.grownBy w3 (blk A) → (blk A3 = blk A ∨ blk A3 = some w.heap.size) → K (a.put o.dst (.slice A3 (n + 1) c3)) w3) : o.wp P a w K Q := by
  refine wp_slM w s x T t ho i z bytes ht hi hz hsize hby hzs base D A n c ls hs hown D2 A2 1 c2 us [y] hx hr rfl (fun k hk => ?_) h63 hbytes hbase h
  obtain rfl : k = 0 := by simpa using hk
  rw [Nat.zero_mul]
  exact hy
end
end Go.Proofs.YtfegdgaanmcecaaGreatDoor
