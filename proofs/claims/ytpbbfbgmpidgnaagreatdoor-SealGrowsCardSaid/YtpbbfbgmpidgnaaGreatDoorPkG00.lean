/-
  PROVED HERE: texts that belong together, one behind the other; what each proves, and under which conditions, its own opening remark says: RefsM, Links, OwnImgs, Walk, Hold3, ChainMem.
-/
import Derived.Test.YtpbbfbgmpidgnaaGreatDoorPkT00
import Derived.Test.YtpbbfbgmpidgnaaGreatDoorPkT09
import Derived.Test.YtpbbfbgmpidgnaaGreatDoorPkT11
import Derived.Test.YtpbbfbgmpidgnaaGreatDoorPkT14
import Derived.Test.YtpbbfbgmpidgnaaGreatDoorPkT18
import Derived.Test.YtpbbfbgmpidgnaaGreatDoorPkT27
import Derived.Test.YtpbbfbgmpidgnaaGreatDoorPkT29
import Derived.Test.YtpbbfbgmpidgnaaGreatDoorPkT30
/-
  PROVED HERE: the law of append at rows of records, many at once; condition: fewer than 2^40 records.
-/
namespace Go.Proofs.YtpbbfbgmpidgnaaGreatDoor
open Go.RowKit

/-- records more. -/
theorem app_recsMR {ops : Array Oper} {rest : List Oper} {o : Oper} {a : Act} {Q : Exit → Act → World → Prop} (w : World) (hgd : o.guard = none) (s x : Operand)
    (ho : o.op = .call { callee := .builtin .append, args := #[s, x], argTypes := #[24, 24] })
    (base : Nat) (D : Nat → Prop) (A : Option Addr) (n c : Nat) (rs : List RecP) (hs : a.eval s = .slice A n c) (hown : OwnRefs w base D A n c rs)
    (base2 : Nat) (D2 : Nat → Prop) (A2 : Option Addr) (m c2 : Nat) (ls : List RecP) (hx : a.eval x = .slice A2 m c2) (hsrc : OwnRefs w base2 D2 A2 m c2 ls) (hD : ∀ b, D2 b → D b ∧ some b ≠ blk A)
    (h63 : n + m ≤ 1099511627776) (hbase : base ≤ w.heap.size)
    (h : ∀ A3 c3 w3, OwnRefs w3 base D A3 (n + m) c3 (rs ++ ls) → w.grownBy w3 (blk A) → (blk A3 = blk A ∨ blk A3 = some w.heap.size) → wpList Tryz.prog ops Q rest (a.put o.dst (.slice A3 (n + m) c3)) w3) : wpList Tryz.prog ops Q (o :: rest) a w := by
  obtain ⟨vs, h1, h2, h3⟩ := hown
  obtain ⟨us, g1, g2, g3⟩ := hsrc
  have hul : us.length = m * 3 := g1.1
  have hone : ∀ u ∈ us, u.oneCell' = true := by
    intro u hu
    obtain ⟨j, hj, rfl⟩ := List.mem_iff_getElem.1 hu
    have hjm : j / 3 < ls.length := by omega
    obtain ⟨A0, c0, e1, e2, e3, _⟩ := g3 (j / 3) hjm
    have hr : j = j / 3 * 3 ∨ j = j / 3 * 3 + 1 ∨ j = j / 3 * 3 + 2 := by omega
    rcases hr with hr | hr | hr
    · rw [← hr, List.getElem?_eq_getElem hj] at e1; injection e1 with e1; rw [e1]; rfl
    · rw [← hr, List.getElem?_eq_getElem hj] at e2; injection e2 with e2; rw [e2]; rfl
    · rw [← hr, List.getElem?_eq_getElem hj] at e3; injection e3 with e3; rw [e3]; rfl
  refine app_cells3r w hgd s x ho base A n c vs hs h1 _ A2 m c2 us hx (Row.of_own g1) hone h63 hbase ?_
  intro A3 c3 w3 hown3 hg3 hbk3
  refine h A3 c3 w3 ⟨vs ++ us, hown3, by rw [List.length_append]; omega, fun k hk => ?_⟩ hg3 hbk3
  have hvl : vs.length = n * 3 := h1.1
  have move : ∀ {A0 : Option Addr} {m0 : Nat} {z : List UInt8}, Bs w (fun b => D b ∧ some b ≠ blk A) A0 m0 z → Bs w3 (fun b => D b ∧ some b ≠ blk A3) A0 m0 z := fun {A0 m0 z} hb => by
    have hk3 : Keep (fun b => some b ≠ blk A) w w3 := (Keep.refl _ w).grown hg3 (fun k hk hd => absurd hk.symm hd)
    have hb3 : Bs w (fun b => (D b ∧ some b ≠ blk A) ∧ some b ≠ blk A3) A0 m0 z := hb.imp fun b hlt hd => ⟨hd, by
      rcases hbk3 with e | e
      · rw [e]; exact hd.2
      · rw [e]; intro e'; injection e'; omega⟩
    exact (Row.keep hb3 hk3 (fun b _ hd => hd.1.2)).imp fun b _ hd => ⟨hd.1.1, hd.2⟩
  by_cases hkn : k < rs.length
  · rw [List.getElem_append_left hkn]
    obtain ⟨A0, c0, e1, e2, e3, hc, hb, hq⟩ := h3 k hkn
    exact ⟨A0, c0, by rw [List.getElem?_append_left (by omega)]; exact e1, by rw [List.getElem?_append_left (by omega)]; exact e2, by rw [List.getElem?_append_left (by omega)]; exact e3, hc, move hb, hq⟩
  · rw [List.getElem_append_right (by omega)]
    have hkl : k - rs.length < ls.length := by rw [List.length_append] at hk; omega
    obtain ⟨A0, c0, e1, e2, e3, hc, hb, hq⟩ := g3 (k - rs.length) hkl
    refine ⟨A0, c0, ?_, ?_, ?_, hc, move (hb.imp fun b _ hd => hD b hd.1), hq⟩
    · rw [List.getElem?_append_right (by omega), show k * 3 - vs.length = (k - rs.length) * 3 from by omega]; exact e1
    · rw [List.getElem?_append_right (by omega), show k * 3 + 1 - vs.length = (k - rs.length) * 3 + 1 from by omega]; exact e2
    · rw [List.getElem?_append_right (by omega), show k * 3 + 2 - vs.length = (k - rs.length) * 3 + 2 from by omega]; exact e3
end Go.Proofs.YtpbbfbgmpidgnaaGreatDoor
/-
  PROVED HERE: what seal.Links answers; conditions: lengths that a slice may have.
-/
namespace Go.Proofs.YtpbbfbgmpidgnaaGreatDoor
open Go.RowKit

set_option maxRecDepth 100000 in
set_option maxHeartbeats 2000000 in
theorem links_any (D D2 : Nat → Prop) (A A2 : Option Addr) (n c n2 c2 : Nat) (id : List UInt8) (hs : List HeadP) (w : World) (hB : Bs w D A n id) (hc : n ≤ c) (hn : n ≤ 1099511620000) (hH : Heads w D2 A2 n2 hs) (hn2 : n2 ≤ 9223372036854775807) :
    Calls Tryz.prog 21 #[.slice A n c, .slice A2 n2 c2] w fun e w' => e = .returned (.int .i64 (linksOf id hs : Nat)) ∧ New w w' := by
  have HL := Lib.hid hH.len
  have HH := Lib.hid hH
  have HG := Lib.hid (genesis_any D A n c id w hB hc hn)
  have hle := (linksGo_le hs 0 (genesisOf id) 1).2
  clear hH hB
  go_enter Tryz.func21, Tryz.ntmps21
  go_wp2_with fail
  refine HG.out.mono ?_
  rintro e w1 ⟨⟨A1, c1, rfl, ho1⟩, hK1⟩
  go_wp2_with fail
  go_loopw [5, 6, 13] (fun s5 s6 i wx => ∃ (k : Nat) (B : Option Addr) (e : Nat) (prev : List UInt8) (first : Int), k ≤ n2 ∧ i = .int .i64 (k : Int) ∧ s5 = .slice B 32 e ∧ s6 = .int .u64 first ∧ OwnB wx w.heap.size 5 B 32 e prev ∧ linksOf id hs = linksGo k prev first (hs.drop k) ∧ New w wx) (fun _ _ i _ => n2 - (intOf i).toNat)
  case atStart => exact ⟨0, _, _, _, 1, Nat.zero_le _, rfl, rfl, rfl, ho1, rfl, hK1⟩
  case round =>
    clear ho1 hK1
    obtain ⟨k, B, eb, prev, first, hk, rfl, rfl, rfl, ho, hgo, hK⟩ := hrel
    have HGO := Lib.hid hgo
    clear hgo
    by_cases hlt : k < n2
    · have hkl : k < hs.length := by have := HL.out; omega
      obtain ⟨b, off, P1, p1, P2, p2, rfl, _, e0, e1, e2, e3, e4, e5, l1, l2, b1, b2, f0, f1⟩ := (HH.out.new hK).at_ hkl
      have HST := Lib.hid (links_step (i := k) (prev := prev) (first := first) hkl)
      have HSP := Lib.hid (links_stop (i := k) (prev := prev) (first := first) hkl)
      generalize hs[k] = h at *
      have hN : New wr (wr.alloc (.cells #[.int .i64 h.index, .int .u64 h.first, .int .i64 h.count, .int .i64 h.bytes, .slice P1 h.prev.length p1, .slice P2 h.root.length p2] 36)) := (New.refl wr).alloc _
      have HX := Lib.hid (heap_alloc_new wr (.cells #[.int .i64 h.index, .int .u64 h.first, .int .i64 h.count, .int .i64 h.bytes, .slice P1 h.prev.length p1, .slice P2 h.root.length p2] 36))
      have hK1 := hK.new hN
      have x0 := cellOf HX.out (k := 0) rfl
      have x1 := cellOf HX.out (k := 1) rfl
      have x4 := cellOf HX.out (k := 4) rfl
      have HB1 := Lib.hid (b1.new hN)
      have HB2 := Lib.hid (b2.new hN)
      have HO1 := Lib.hid (Own.keepNew ho hN)
      have HF0 := Lib.hid f0
      have HF1 := Lib.hid f1
      clear b1 b2 ho hN f0 f1
      by_cases h1 : h.index = k
      · have h1' : (h.index != (k : Int)) = false := by simpa using h1
        by_cases h2 : h.first = first
        · have h2' : (h.first != first) = false := by simpa using h2
          have HEQ := Lib.hid (equal_any _ _ P1 B h.prev.length p1 32 eb h.prev prev _ HB1.out (Row.of_own HO1.out))
          have H1 := Lib.hid h1
          have H2 := Lib.hid h2
          clear h1 h2
          go_wp2_with fail
          generalize wr.alloc _ = w2 at *
          refine HEQ.out.mono ?_
          rintro e w' ⟨rfl, rfl⟩
          by_cases h3 : h.prev = prev
          · have h3' : (h.prev == prev) = true := by simpa using h3
            have HS := Lib.hid (HST.out ⟨H1.out, H2.out, h3⟩)
            clear h3
            go_wp2_with fail
            clear x0 x1 x4 e0 e1 e2 e3 e4 e5
            have y0 : ∀ W, New w2 W → W.cell? ⟨wr.heap.size, 0, none⟩ = some (.int .i64 h.index) := fun W q => cellOf (q.blockAt HX.out trivial) rfl
            have y1 : ∀ W, New w2 W → W.cell? ⟨wr.heap.size, 1, none⟩ = some (.int .u64 h.first) := fun W q => cellOf (q.blockAt HX.out trivial) rfl
            have y2 : ∀ W, New w2 W → W.cell? ⟨wr.heap.size, 2, none⟩ = some (.int .i64 h.count) := fun W q => cellOf (q.blockAt HX.out trivial) rfl
            have y3 : ∀ W, New w2 W → W.cell? ⟨wr.heap.size, 3, none⟩ = some (.int .i64 h.bytes) := fun W q => cellOf (q.blockAt HX.out trivial) rfl
            have y4 : ∀ W, New w2 W → W.cell? ⟨wr.heap.size, 4, none⟩ = some (.slice P1 h.prev.length p1) := fun W q => cellOf (q.blockAt HX.out trivial) rfl
            have y5 : ∀ W, New w2 W → W.cell? ⟨wr.heap.size, 5, none⟩ = some (.slice P2 h.root.length p2) := fun W q => cellOf (q.blockAt HX.out trivial) rfl
            have HSE : Hid (∀ W, New w2 W → Calls Tryz.prog 61 #[.agg #[.int .i64 h.index, .int .u64 h.first, .int .i64 h.count, .int .i64 h.bytes, .slice P1 h.prev.length p1, .slice P2 h.root.length p2]] W fun e w' =>
                (∃ A' c', e = .returned (.slice A' 32 c') ∧ OwnB w' W.heap.size 5 A' 32 c' (sealOf h)) ∧ New W w') :=
              Lib.hid fun W q => seal_any D2 D2 P1 P2 h.prev.length p1 h.root.length p2 h W (HB1.out.new q) l1 (HB2.out.new q) l2 HF0.out HF1.out
            clear h1' h2' h3'
            refine hold_begin (by kernel_rfl) ?_
            have n0 : New w2 w2.drew := (New.refl w2).drew
            replace y0 := fun W (hW : New w2.drew W) => y0 W (Keep.new n0 hW)
            replace y1 := fun W (hW : New w2.drew W) => y1 W (Keep.new n0 hW)
            replace y2 := fun W (hW : New w2.drew W) => y2 W (Keep.new n0 hW)
            replace y3 := fun W (hW : New w2.drew W) => y3 W (Keep.new n0 hW)
            replace y4 := fun W (hW : New w2.drew W) => y4 W (Keep.new n0 hW)
            replace y5 := fun W (hW : New w2.drew W) => y5 W (Keep.new n0 hW)
            refine hold_read (i := 0) (v := ?_) rfl (by kernel_rfl) (by kernel_rfl) (by kernel_rfl) (fun _ _ _ h => h) rfl ?_ ?_
            rotate_left
            · intro w' hN
              go_simp
              try with_reducible rfl
            simp only [Act.put, List.getElem_toArray, List.getElem_cons_succ, List.getElem_cons_zero, List.setIfInBounds_toArray, List.set_cons_zero, List.set_cons_succ]
            refine hold_read (i := 2) (v := ?_) rfl (by kernel_rfl) (by kernel_rfl) (by kernel_rfl) (fun _ _ _ h => h) rfl ?_ ?_
            rotate_left
            · intro w' hN
              go_simp
              try with_reducible rfl
            simp only [Act.put, List.getElem_toArray, List.getElem_cons_succ, List.getElem_cons_zero, List.setIfInBounds_toArray, List.set_cons_zero, List.set_cons_succ]
            refine hold_read (i := 3) (v := ?_) rfl (by kernel_rfl) (by kernel_rfl) (by kernel_rfl) (fun _ _ _ h => h) rfl ?_ ?_
            rotate_left
            · intro w' hN
              go_simp
              try with_reducible rfl
            simp only [Act.put, List.getElem_toArray, List.getElem_cons_succ, List.getElem_cons_zero, List.setIfInBounds_toArray, List.set_cons_zero, List.set_cons_succ]
            refine hold_read (i := 4) (v := ?_) rfl (by kernel_rfl) (by kernel_rfl) (by kernel_rfl) (fun _ _ _ h => h) rfl ?_ ?_
            rotate_left
            · intro w' hN
              go_simp
              try with_reducible rfl
            simp only [Act.put, List.getElem_toArray, List.getElem_cons_succ, List.getElem_cons_zero, List.setIfInBounds_toArray, List.set_cons_zero, List.set_cons_succ]
            refine hold_read (i := 5) (v := ?_) rfl (by kernel_rfl) (by kernel_rfl) (by kernel_rfl) (fun _ _ _ h => h) rfl ?_ ?_
            rotate_left
            · intro w' hN
              go_simp
              try with_reducible rfl
            simp only [Act.put, List.getElem_toArray, List.getElem_cons_succ, List.getElem_cons_zero, List.setIfInBounds_toArray, List.set_cons_zero, List.set_cons_succ]
            refine hold_read (i := 6) (v := ?_) rfl (by kernel_rfl) (by kernel_rfl) (by kernel_rfl) (fun _ _ _ h => h) rfl ?_ ?_
            rotate_left
            · intro w' hN
              go_simp
              try with_reducible rfl
            simp only [Act.put, List.getElem_toArray, List.getElem_cons_succ, List.getElem_cons_zero, List.setIfInBounds_toArray, List.set_cons_zero, List.set_cons_succ]
            refine hold_step (i := 1) (by kernel_rfl) rfl rfl (fun K hK => ?_)
            go_simp
            refine (HSE.out _ n0).mono ?_
            rintro e w3 ⟨⟨A3, c3, rfl, o3⟩, k3⟩
            go_wp2_with fail
            refine hK.out _ _ k3 ?_
            clear hK K
            try simp only [Act.put, List.getElem_toArray, List.getElem_cons_succ, List.getElem_cons_zero, List.setIfInBounds_toArray, List.set_cons_zero, List.set_cons_succ]
            replace n0 := Keep.new n0 k3
            replace y0 := fun W (hW : New w3 W) => y0 W (Keep.new k3 hW)
            replace y1 := fun W (hW : New w3 W) => y1 W (Keep.new k3 hW)
            replace y2 := fun W (hW : New w3 W) => y2 W (Keep.new k3 hW)
            replace y3 := fun W (hW : New w3 W) => y3 W (Keep.new k3 hW)
            replace y4 := fun W (hW : New w3 W) => y4 W (Keep.new k3 hW)
            replace y5 := fun W (hW : New w3 W) => y5 W (Keep.new k3 hW)
            refine hold_read (i := 7) (v := ?_) rfl (by kernel_rfl) (by kernel_rfl) (by kernel_rfl) (fun _ _ _ h => h) rfl ?_ ?_
            rotate_left
            · intro w' hN
              go_simp
              try with_reducible rfl
            simp only [Act.put, List.getElem_toArray, List.getElem_cons_succ, List.getElem_cons_zero, List.setIfInBounds_toArray, List.set_cons_zero, List.set_cons_succ]
            refine hold_read (i := 8) (v := ?_) rfl (by kernel_rfl) (by kernel_rfl) (by kernel_rfl) (fun _ _ _ h => h) rfl ?_ ?_
            rotate_left
            · intro w' hN
              go_simp
              try with_reducible rfl
            simp only [Act.put, List.getElem_toArray, List.getElem_cons_succ, List.getElem_cons_zero, List.setIfInBounds_toArray, List.set_cons_zero, List.set_cons_succ]
            refine wpAnyH_done (by kernel_rfl) ?_ _
            have hK3 := hK1.new n0
            have hsz := hK1.size
            clear y0 y1 y2 y3 y4 y5
            go_wp2_with fail
            go_roundw
            case rel => exact ⟨k + 1, _, _, _, _, by omega, by go_num, rfl, rfl, own_base o3 (by exact hsz), by rw [HGO.out, HS.out], hK3⟩
            case measure => simp [intOf]; omega
          · have h3' : (h.prev == prev) = false := by simpa using h3
            have HS := Lib.hid (HSP.out (fun q => h3 q.2.2))
            clear h3
            go_wp2_with fail
            go_ret
            exact ⟨by rw [HGO.out, HS.out]; rfl, hK1⟩
        · have h2' : (h.first != first) = true := by simpa using h2
          have HS := Lib.hid (HSP.out (fun q => h2 q.2.1))
          clear h1 h2
          go_wp2_with fail
          go_ret
          exact ⟨by rw [HGO.out, HS.out]; rfl, hK1⟩
      · have h1' : (h.index != (k : Int)) = true := by simpa using h1
        have HS := Lib.hid (HSP.out (fun q => h1 q.1))
        clear h1
        go_wp2_with fail
        go_ret
        exact ⟨by rw [HGO.out, HS.out]; rfl, hK1⟩
    · obtain rfl : k = n2 := by omega
      have HE : Hid (linksOf id hs = k) := Lib.hid (by rw [HGO.out, List.drop_eq_nil_of_le (by rw [HL.out]; exact Nat.le_refl _)]; rfl)
      go_wp2_with fail
      go_ret
      exact ⟨by rw [HE.out]; rfl, hK⟩
end Go.Proofs.YtpbbfbgmpidgnaaGreatDoor
/-
  PROVED HERE: rows of images that a call makes, and the law of append at them; condition: fewer than 2^40 images.
-/
namespace Go.Proofs.YtpbbfbgmpidgnaaGreatDoor
open Go.RowKit

/-- images, the row of the call's own; their bytes lie in blocks that meet D, none in the row's. -/
def OwnImgs (w : World) (base : Nat) (D : Nat → Prop) (A : Option Addr) (n c : Nat) (ls : List (List UInt8)) : Prop :=
  ∃ vs : List Value, Own w base 22 1 A n c vs ∧ ls.length = n ∧ ∀ k (h : k < ls.length), ImgAt w (fun b => D b ∧ some b ≠ blk A) vs k ls[k]
section
variable {w w' : World} {base base' : Nat} {D E : Nat → Prop} {A : Option Addr} {n c : Nat} {ls : List (List UInt8)}
theorem OwnImgs.imgs (h : OwnImgs w base D A n c ls) : Imgs w (fun b => base ≤ b ∨ D b) A n ls := by
  obtain ⟨vs, h1, h2, h3⟩ := h
  exact ⟨vs, (Row.of_own h1).imp (fun _ _ h => .inl h), h2, fun k hk => (h3 k hk).imp fun _ _ h => .inr h.1⟩
theorem OwnImgs.nil (w : World) (base : Nat) (D : Nat → Prop) : OwnImgs w base D none 0 0 [] := ⟨[], Own.nil _ _ _ _, rfl, fun k hk => absurd hk (by simp)⟩
theorem OwnImgs.new (h : OwnImgs w base D A n c ls) (hk : New w w') : OwnImgs w' base D A n c ls := by
  obtain ⟨vs, h1, h2, h3⟩ := h
  exact ⟨vs, own_keep h1 hk (fun _ _ => trivial), h2, fun k hk' => (h3 k hk').keep hk fun _ _ _ => trivial⟩
theorem OwnImgs.rebase (h : OwnImgs w base' D A n c ls) (hb : base ≤ base') : OwnImgs w base D A n c ls := by
  obtain ⟨vs, h1, h2, h3⟩ := h
  exact ⟨vs, own_base h1 hb, h2, h3⟩
theorem OwnImgs.imp (h : OwnImgs w base D A n c ls) (hE : ∀ b, b < w.heap.size → D b → E b) : OwnImgs w base E A n c ls := by
  obtain ⟨vs, h1, h2, h3⟩ := h
  exact ⟨vs, h1, h2, fun k hk' => (h3 k hk').imp fun b hb hd => ⟨hE b hb hd.1, hd.2⟩⟩
theorem OwnImgs.keepE (h : OwnImgs w base D A n c ls) (hk : Keep E w w') (hb : ∀ k, blk A = some k → E k) (hD : ∀ b, D b → E b) : OwnImgs w' base D A n c ls := by
  obtain ⟨vs, h1, h2, h3⟩ := h
  exact ⟨vs, own_keep h1 hk hb, h2, fun k hk' => (h3 k hk').keep hk fun b _ hd => hD b hd.1⟩
theorem OwnImgs.len (h : OwnImgs w base D A n c ls) : ls.length = n := by obtain ⟨_, _, h, _⟩ := h; exact h
theorem OwnImgs.cap (h : OwnImgs w base D A n c ls) : n ≤ c := by obtain ⟨_, h, _⟩ := h; exact own_cap h
theorem OwnImgs.capMax (h : OwnImgs w base D A n c ls) : c ≤ 9223372036854775807 := by obtain ⟨_, h, _⟩ := h; exact own_capMax h
theorem OwnImgs.lt (h : OwnImgs w base D A n c ls) : ∀ k, blk A = some k → base ≤ k ∧ k < w.heap.size := by obtain ⟨_, h, _⟩ := h; exact own_lt h
end
/-- images more: their cells in a row, their bytes apart. -/
theorem app_imgsM {ops : Array Oper} {rest : List Oper} {o : Oper} {a : Act} {Q : Exit → Act → World → Prop} (w : World) (hgd : o.guard = none) (s x : Operand)
    (ho : o.op = .call { callee := .builtin .append, args := #[s, x], argTypes := #[23, 23] })
    (base : Nat) (D : Nat → Prop) (A : Option Addr) (n c : Nat) (ls : List (List UInt8)) (hs : a.eval s = .slice A n c) (hown : OwnImgs w base D A n c ls)
    (D2 : Nat → Prop) (A2 : Option Addr) (m c2 : Nat) (us : List Value) (ms : List (List UInt8)) (hx : a.eval x = .slice A2 m c2) (hr : Row w D2 A2 m 1 us) (hm : ms.length = m) (hy : ∀ k (h : k < ms.length), ImgAt w (fun b => D b ∧ some b ≠ blk A) us k ms[k])
    (h63 : n + m ≤ 1099511627776) (hbase : base ≤ w.heap.size)
    (h : ∀ A3 c3 w3, OwnImgs w3 base D A3 (n + m) c3 (ls ++ ms) → w.grownBy w3 (blk A) → (blk A3 = blk A ∨ blk A3 = some w.heap.size) → wpList Tryz.prog ops Q rest (a.put o.dst (.slice A3 (n + m) c3)) w3) : wpList Tryz.prog ops Q (o :: rest) a w := by
  obtain ⟨vs, h1, h2, h3⟩ := hown
  have hul : us.length = m := by have := hr.1; omega
  have hone : ∀ u ∈ us, u.oneCell' = true := by
    intro u hu
    obtain ⟨j, hj, rfl⟩ := List.mem_iff_getElem.1 hu
    obtain ⟨A0, c0, e1, _⟩ := hy j (by omega)
    rw [List.getElem?_eq_getElem hj] at e1; injection e1 with e1; rw [e1]; rfl
  refine app_rows w hgd s x ho base A n c vs hs h1 D2 A2 m c2 us hx hr hone h63 hbase ?_
  intro A3 c3 w3 hown3 hg3 hbk3
  refine h A3 c3 w3 ⟨vs ++ us, hown3, by rw [List.length_append]; omega, fun k hk => ?_⟩ hg3 hbk3
  have hvl : vs.length = n := by have := h1.1; simpa using this
  have move : ∀ {A0 : Option Addr} {m0 : Nat} {z : List UInt8}, Bs w (fun b => D b ∧ some b ≠ blk A) A0 m0 z → Bs w3 (fun b => D b ∧ some b ≠ blk A3) A0 m0 z := fun {A0 m0 z} hb => by
    have hk3 : Keep (fun b => some b ≠ blk A) w w3 := (Keep.refl _ w).grown hg3 (fun k hk hd => absurd hk.symm hd)
    have hb3 : Bs w (fun b => (D b ∧ some b ≠ blk A) ∧ some b ≠ blk A3) A0 m0 z := hb.imp fun b hlt hd => ⟨hd, by
      rcases hbk3 with e | e
      · rw [e]; exact hd.2
      · rw [e]; intro e'; injection e'; omega⟩
    exact (Row.keep hb3 hk3 (fun b _ hd => hd.1.2)).imp fun b _ hd => ⟨hd.1.1, hd.2⟩
  by_cases hkn : k < ls.length
  · rw [List.getElem_append_left hkn]
    obtain ⟨A0, c0, e, hc, hc9, hb⟩ := h3 k hkn
    exact ⟨A0, c0, by rw [List.getElem?_append_left (by omega)]; exact e, hc, hc9, move hb⟩
  · rw [List.getElem_append_right (by omega)]
    have hkl : k - ls.length < ms.length := by rw [List.length_append] at hk; omega
    obtain ⟨A0, c0, e, hc, hc9, hb⟩ := hy (k - ls.length) hkl
    exact ⟨A0, c0, by rw [List.getElem?_append_right (by omega), show k - vs.length = k - ls.length from by omega]; exact e, hc, hc9, move hb⟩
/-- one image more. -/
theorem app_imgs {ops : Array Oper} {rest : List Oper} {o : Oper} {a : Act} {Q : Exit → Act → World → Prop} (w : World) (hgd : o.guard = none) (s x : Operand)
    (ho : o.op = .call { callee := .builtin .append, args := #[s, x], argTypes := #[23, 23] })
    (base : Nat) (D : Nat → Prop) (A : Option Addr) (n c : Nat) (ls : List (List UInt8)) (hs : a.eval s = .slice A n c) (hown : OwnImgs w base D A n c ls)
    (D2 : Nat → Prop) (A2 : Option Addr) (c2 : Nat) (A' : Option Addr) (m c' : Nat) (y : List UInt8) (hx : a.eval x = .slice A2 1 c2) (hr : Row w D2 A2 1 1 [.slice A' m c']) (hy : Bs w (fun b => D b ∧ some b ≠ blk A) A' m y) (hmc : m ≤ c') (hc9 : c' ≤ 9223372036854775807)
    (h63 : n + 1 ≤ 1099511627776) (hbase : base ≤ w.heap.size)
    (h : ∀ A3 c3 w3, OwnImgs w3 base D A3 (n + 1) c3 (ls ++ [y]) → w.grownBy w3 (blk A) → (blk A3 = blk A ∨ blk A3 = some w.heap.size) → wpList Tryz.prog ops Q rest (a.put o.dst (.slice A3 (n + 1) c3)) w3) : wpList Tryz.prog ops Q (o :: rest) a w := by
  have hyl := hy.len
  refine app_imgsM w hgd s x ho base D A n c ls hs hown D2 A2 1 c2 [.slice A' m c'] [y] hx hr rfl (fun k hk => ?_) h63 hbase h
  obtain rfl : k = 0 := by simpa using hk
  subst hyl
  exact ⟨A', c', rfl, hmc, hc9, hy⟩
end Go.Proofs.YtpbbfbgmpidgnaaGreatDoor
/-
  PROVED HERE: what seal.Walk answers; conditions: lengths that a slice may have, at most a million images.
-/
namespace Go.Proofs.YtpbbfbgmpidgnaaGreatDoor
open Go.RowKit

set_option maxRecDepth 100000 in
set_option maxHeartbeats 2000000 in
theorem walk_any (D D2 : Nat → Prop) (A A2 : Option Addr) (n c n2 c2 : Nat) (id : List UInt8) (ls : List (List UInt8)) (w : World) (hB : Bs w D A n id) (hc : n ≤ c) (hn : n ≤ 1099511620000) (hI : Imgs w D2 A2 n2 ls) (hn2 : n2 ≤ 1000000) :
    Calls Tryz.prog 25 #[.slice A n c, .slice A2 n2 c2] w (WalkRet (walkOf id ls) w) := by
  have HL := Lib.hid hI.len
  have HI := Lib.hid hI
  have HB := Lib.hid hB
  clear hI hB
  go_enter Tryz.func25, Tryz.ntmps25
  go_wp2_with fail
  go_loopw [7, 8, 16] (fun s7 s8 i wx => ∃ (k m : Nat) (A' A'' : Option Addr) (c' c'' : Nat) (hs : List HeadP) (rs : List RecP), k ≤ n2 ∧ i = .int .i64 (k : Int) ∧ s7 = .slice A' k c' ∧ s8 = .slice A'' m c'' ∧ m ≤ 942 * k ∧ Pair wx w.heap.size A' k c' hs A'' m c'' rs ∧ New w wx ∧
    walkIn ls = (walkIn (ls.drop k)).map fun p => (hs ++ p.1, rs ++ p.2)) (fun _ _ i _ => n2 - (intOf i).toNat)
  case atStart => exact ⟨0, 0, none, none, 0, 0, [], [], Nat.zero_le _, rfl, rfl, rfl, Nat.zero_le _, Pair.nil _ _, New.refl _, by rw [List.drop_zero]; cases h : walkIn ls <;> simp [h]⟩
  case round =>
    obtain ⟨k, m, A', A'', c', c'', hs, rs, hk, rfl, rfl, rfl, hm, hpr, hK, hgo⟩ := hrel
    have HP := Lib.hid hpr
    have HG := Lib.hid hgo
    have HK := Lib.hid hK
    clear hpr hgo hK
    by_cases hlt : k < n2
    · have hkl : k < ls.length := by have := HL.out; omega
      obtain ⟨b, off, I, ci, rfl, _, u0, hci, hci9, hbs⟩ := (HI.out.new HK.out).at_ hkl
      have HW := Lib.hid (walk_more hkl HG.out)
      have HRD := Lib.hid (read_any D2 I ls[k].length ci ls[k] wr hbs hci hci9)
      have hsm := (segRead_small ls[k]).2.2
      have hfi := read_first ls[k]
      clear hbs
      generalize segRead ls[k] = d at *
      obtain ⟨h, rr, why⟩ := d
      dsimp only at hsm hfi HW
      generalize ls[k].length = il at *
      go_wp2_with fail
      refine HRD.out.mono ?_
      rintro e w2 ⟨⟨P1, p1, P2, p2, A3, c3, rfl, hp1, hp2, hb1, hb2, ho3⟩, hK2⟩
      dsimp only at hp1 hp2 hb1 hb2 ho3
      have HK2 := Lib.hid hK2
      clear hK2 HRD
      by_cases hy : why = 0
      · subst hy
        have HM1 := Lib.hid (HW.out.2 rfl)
        clear HW HG
        have hge : w.heap.size ≤ wr.heap.size := HK.out.size
        have hP0 := HP.out.new HK2.out
        have HP2 := Lib.hid hP0
        have hltA : ∀ k, blk A' = some k → k < wr.heap.size := fun k hk => (HP.out.heads.lt k hk).2
        have hltR : ∀ k, blk A'' = some k → k < wr.heap.size := fun k hk => (HP.out.recs.lt k hk).2
        have hy1 : Bs w2 (fun b => (w.heap.size ≤ b ∧ some b ≠ blk A'') ∧ some b ≠ blk A') P1 h.prev.length h.prev := Row.imp hb1 (fun b _ hb => ⟨⟨Nat.le_trans hge hb, fun e => by have := hltR b e.symm; omega⟩, fun e => by have := hltA b e.symm; omega⟩)
        have hy2 : Bs w2 (fun b => (w.heap.size ≤ b ∧ some b ≠ blk A'') ∧ some b ≠ blk A') P2 h.root.length h.root := Row.imp hb2 (fun b _ hb => ⟨⟨Nat.le_trans hge hb, fun e => by have := hltR b e.symm; omega⟩, fun e => by have := hltA b e.symm; omega⟩)
        have HA := Lib.hid hltA
        have HR := Lib.hid hltR
        have HY := Lib.hid (And.intro hy1 hy2)
        have HO3 := Lib.hid ho3
        have HF := Lib.hid hfi
        have HKK := Lib.hid (HK.out.new HK2.out)
        have hbd : k + 1 ≤ 1099511627776 := by omega
        have hbd2 : m + rr.length ≤ 1099511627776 := by omega
        clear hy1 hy2 hb1 hb2 ho3 hltA hltR hP0 hfi
        have hN : New w2 ((w2.alloc (.cells #[.int .i64 h.index, .int .u64 h.first, .int .i64 h.count, .int .i64 h.bytes, .slice P1 h.prev.length p1, .slice P2 h.root.length p2] 36)).alloc (.cells #[.int .i64 h.index, .int .u64 h.first, .int .i64 h.count, .int .i64 h.bytes, .slice P1 h.prev.length p1, .slice P2 h.root.length p2] 36)) := ((New.refl w2).alloc _).alloc _
        have hrow := Row.made (w2.alloc (.cells #[.int .i64 h.index, .int .u64 h.first, .int .i64 h.count, .int .i64 h.bytes, .slice P1 h.prev.length p1, .slice P2 h.root.length p2] 36)) 36 #[.int .i64 h.index, .int .u64 h.first, .int .i64 h.count, .int .i64 h.bytes, .slice P1 h.prev.length p1, .slice P2 h.root.length p2] 1 6 rfl
        rw [show (w2.alloc (.cells #[.int .i64 h.index, .int .u64 h.first, .int .i64 h.count, .int .i64 h.bytes, .slice P1 h.prev.length p1, .slice P2 h.root.length p2] 36)).heap.size = w2.heap.size + 1 from by simp] at hrow
        have HPA := Lib.hid (HP2.out.new hN)
        have HOA := Lib.hid (HO3.out.new hN)
        have hya1 := HY.out.1.new hN
        have hya2 := HY.out.2.new hN
        have HNA := Lib.hid (HKK.out.new hN)
        have hsA : w.heap.size ≤ ((w2.alloc (.cells #[.int .i64 h.index, .int .u64 h.first, .int .i64 h.count, .int .i64 h.bytes, .slice P1 h.prev.length p1, .slice P2 h.root.length p2] 36)).alloc (.cells #[.int .i64 h.index, .int .u64 h.first, .int .i64 h.count, .int .i64 h.bytes, .slice P1 h.prev.length p1, .slice P2 h.root.length p2] 36)).heap.size := HNA.out.size
        have hf0 := HF.out.1
        have hf1 := HF.out.2
        clear hN HP2 HY HO3 HKK HP
        go_wp2_with (first
          | (at_builtin; refine app_heads _ rfl _ _ rfl w.heap.size (fun b => w.heap.size ≤ b ∧ some b ≠ blk A'') A' k c' hs rfl HPA.out.heads _ _ 1 P1 P2 p1 p2 h rfl hrow hya1 hya2 hp1 hp2 hf0 hf1 hbd hsA ?_; intro A4 c4 w4 hown4 hg4 hbk4; have HP4 := Lib.hid (HPA.out.head hown4 hg4 hbk4); have HR4 := Lib.hid (HPA.out.read HA.out HOA.out hg4 hbk4); have HN4 := Lib.hid (HNA.out.grown hg4 (fun j hj _ => (HPA.out.heads.lt j hj).1)); have hs4 := HN4.out.size; clear hown4 hg4 hbk4)
          | (at_builtin; refine app_recsM _ rfl _ _ rfl w.heap.size (fun b => w.heap.size ≤ b ∧ some b ≠ blk A4) A'' m c'' rs rfl HP4.out.recs wr.heap.size (fun b => wr.heap.size ≤ b ∧ some b ≠ blk A4) A3 rr.length c3 rr rfl HR4.out (fun b hb => ⟨⟨Nat.le_trans hge hb.1, hb.2⟩, fun e => by have := HR.out b e.symm; omega⟩) hbd2 hs4 ?_; intro A5 c5 w5 hown5 hg5 hbk5; have HP5 := Lib.hid (HP4.out.more hown5 hg5 hbk5); have HN5 := Lib.hid (HN4.out.grown hg5 (fun j hj _ => (HP4.out.recs.lt j hj).1)); clear hown5 hg5 hbk5))
        go_roundw
        case rel => exact ⟨k + 1, m + rr.length, A4, A5, c4, c5, _, _, by omega, by go_num, rfl, rfl, by omega, HP5.out, HN5.out, HM1.out⟩
        case measure => simp [intOf]; omega
      · have hy' : (why != 0) = true := by simpa using hy
        have HM1 := Lib.hid (HW.out.1 hy)
        go_wp2_with fail
        refine bodyPost_ret (v := .tuple #[.slice none 0 0, .slice none 0 0, .int .i64 40]) (by simp [results, Tryz.results25, go_sem]) rfl ?_
        rw [show walkOf id ls = ([], [], 40) from by unfold walkOf; rw [HM1.out]]
        exact ⟨⟨none, 0, none, 0, rfl, OwnHeads.nil _ _ _, OwnRecs.nil _ _ _⟩, (HK.out.new HK2.out).alloc _⟩
    · obtain rfl : k = n2 := by omega
      have HM1 := Lib.hid (walk_done HL.out HG.out)
      have HLK := Lib.hid (links_any D _ A A' n c k c' id hs wr (HB.out.new HK.out) hc hn HP.out.heads.heads (by omega))
      go_wp2_with fail
      refine HLK.out.mono ?_
      rintro e w2 ⟨rfl, hK2⟩
      have hll : hs.length = k := HP.out.heads.len
      by_cases hl : linksOf id hs < hs.length
      · have hl' : ((linksOf id hs : Nat) : Int) < (k : Int) := by omega
        go_wp2_with fail
        refine bodyPost_ret (v := .tuple #[.slice none 0 0, .slice none 0 0, .int .i64 40]) (by simp [results, Tryz.results25, go_sem]) rfl ?_
        rw [show walkOf id ls = ([], [], 40) from by unfold walkOf; rw [HM1.out]; dsimp only; rw [if_pos hl]]
        exact ⟨⟨none, 0, none, 0, rfl, OwnHeads.nil _ _ _, OwnRecs.nil _ _ _⟩, HK.out.new hK2⟩
      · have hl' : ¬ ((linksOf id hs : Nat) : Int) < (k : Int) := by omega
        go_wp2_with fail
        refine bodyPost_ret (v := .tuple #[.slice A' k c', .slice A'' m c'', .int .i64 0]) (by simp [results, Tryz.results25, go_sem]) rfl ?_
        rw [show walkOf id ls = (hs, rs, 0) from by unfold walkOf; rw [HM1.out]; dsimp only; rw [if_neg hl]]
        have hp := (HP.out.new hK2).ret
        have h1 := hp.1.len
        have h2 := hp.2.len
        refine ⟨⟨A', c', A'', c'', ?_, ?_, ?_⟩, HK.out.new hK2⟩
        · dsimp only; rw [h1, h2]
        · dsimp only; rw [h1]; exact hp.1
        · dsimp only; rw [h2]; exact hp.2
end Go.Proofs.YtpbbfbgmpidgnaaGreatDoor
/-
  PROVED HERE: a law for a region that draws its order where two operations may come next; no condition; no program is named.
-/
namespace Go.Proofs.YtpbbfbgmpidgnaaGreatDoor
open Go.RowKit

section
variable {P : Program} {ops : Array Oper} {Q : Exit → Act → World → Prop} {md : Region.Mode}
/-- either of two makes memory, or is a call: each may come next. -/
theorem hold_step2 {i j : Nat} {o o' : Oper} {fuel : Nat} {listed : Array Bool} {a : Act} {w : World} (hr : Region.ready md ops listed = [i, j]) (ho : ops[i]? = some o) (hw : Region.wanted o (yielded ops a.tmps) = true) (ho' : ops[j]? = some o') (hw' : Region.wanted o' (yielded ops a.tmps) = true)
    (h : ∀ K : Act → World → Prop, Hid (∀ a' w', New w w' → wpAnyH P md ops Q (New w') fuel (listed.setIfInBounds i true) a' w' → K a' w') → Oper.wp P o a w K Q)
    (h' : ∀ K : Act → World → Prop, Hid (∀ a' w', New w w' → wpAnyH P md ops Q (New w') fuel (listed.setIfInBounds j true) a' w' → K a' w') → Oper.wp P o' a w K Q) : wpAnyH P md ops Q (New w) (fuel + 1) listed a w := by
  refine wpAnyH_all hr (by simp) fun k hk => ?_
  have hk' : k = i ∨ k = j := by simpa using hk
  unfold wpOp
  rcases hk' with rfl | rfl
  · simp only [ho, hw, if_true]
    exact .inl (h _ (Lib.hid fun a' w' hN hk => ⟨hN, held_strong (fun w2 h2 => Keep.new hN h2) _ _ _ _ hk⟩))
  · simp only [ho', hw', if_true]
    exact .inl (h' _ (Lib.hid fun a' w' hN hk => ⟨hN, held_strong (fun w2 h2 => Keep.new hN h2) _ _ _ _ hk⟩))
end
end Go.Proofs.YtpbbfbgmpidgnaaGreatDoor
/-
  PROVED HERE: images and the document's records that a call makes lie beside each other; no condition.
-/
namespace Go.Proofs.YtpbbfbgmpidgnaaGreatDoor
open Go.RowKit

/-- images and records that a call makes; the records' bytes lie below the call's own memory. -/
structure Chn (w : World) (base : Nat) (A : Option Addr) (n c : Nat) (ls : List (List UInt8)) (A' : Option Addr) (n' c' : Nat) (rs : List RecP) : Prop where
  imgs : OwnImgs w base (fun b => base ≤ b ∧ some b ≠ blk A') A n c ls
  refs : OwnRefs w base (fun b => b < base) A' n' c' rs
section
variable {w w' : World} {base : Nat} {A A' : Option Addr} {n c n' c' : Nat} {ls : List (List UInt8)} {rs : List RecP}
theorem Chn.nil (w : World) (base : Nat) : Chn w base none 0 0 [] none 0 0 [] := ⟨OwnImgs.nil _ _ _, OwnRefs.nil _ _ _⟩
theorem Chn.new (h : Chn w base A n c ls A' n' c' rs) (hk : New w w') : Chn w' base A n c ls A' n' c' rs := ⟨h.imgs.new hk, h.refs.new hk⟩
theorem Chn.ne (h : Chn w base A n c ls A' n' c' rs) : (∀ k, blk A' = some k → some k ≠ blk A) ∧ (∀ k, blk A = some k → some k ≠ blk A') := by
  obtain ⟨_, h1, _⟩ := h.imgs
  obtain ⟨_, h2, _⟩ := h.refs
  exact ⟨own_apart6 h1 h2 (by decide), own_apart6 h2 h1 (by decide)⟩
/-- behind one image more. -/
theorem Chn.image (h : Chn w base A n c ls A' n' c' rs) {A3 : Option Addr} {n3 c3 : Nat} {ls3 : List (List UInt8)} (h3 : OwnImgs w' base (fun b => base ≤ b ∧ some b ≠ blk A') A3 n3 c3 ls3) (hg : w.grownBy w' (blk A)) : Chn w' base A3 n3 c3 ls3 A' n' c' rs :=
  ⟨h3, h.refs.keepE (keep_blk hg) h.ne.1 (fun b hb e => by have := (h.imgs.lt b e.symm).1; omega)⟩
/-- behind records more. -/
theorem Chn.more (h : Chn w base A n c ls A' n' c' rs) {A3 : Option Addr} {n3 c3 : Nat} {rs3 : List RecP} (h3 : OwnRefs w' base (fun b => b < base) A3 n3 c3 rs3) (hg : w.grownBy w' (blk A')) (hbk : blk A3 = blk A' ∨ blk A3 = some w.heap.size) : Chn w' base A n c ls A3 n3 c3 rs3 :=
  ⟨((h.imgs.imp (E := fun b => (base ≤ b ∧ some b ≠ blk A3) ∧ some b ≠ blk A') fun b hb hd => ⟨⟨hd.1, ne_blk hbk hb hd.2⟩, hd.2⟩).keepE (keep_blk hg) h.ne.2 (fun b hd => hd.2)).imp fun b _ hd => hd.1, h3⟩
end
/-- images and records, handed back. -/
def ChainRet (d : ChainS) (w : World) (e : Ending) (w' : World) : Prop :=
  (∃ A1 c1 A2 c2, e = .returned (.tuple #[.slice A1 d.images.length c1, .slice A2 d.recs.length c2]) ∧ Chn w' w.heap.size A1 d.images.length c1 d.images A2 d.recs.length c2 d.recs) ∧ New w w'
theorem chainRecs_some {next : Int} {raw : List (List UInt8)} (h : raw.length ≠ 0) : chainRecs next raw = (List.range (min raw.length 6)).map fun k => ⟨1, IntKind.u64.wrap (next + IntKind.u64.wrap (k : Nat)), (raw.getD k []).take 60⟩ := by unfold chainRecs; rw [if_neg h]
theorem chainRecs_none {next : Int} {raw : List (List UInt8)} (h : raw.length = 0) : chainRecs next raw = [⟨2, next, []⟩] := by unfold chainRecs; rw [if_pos h]
theorem fits_right : ∀ {left : Nat} {rs : List RecP}, (∀ r ∈ rs, recRight r = true) → (leavesOf rs).flatten.length ≤ left → rs.length ≤ fitsIn left rs
  | left, [], _, _ => Nat.zero_le _
  | left, r :: rs, h, hl => by
    have h1 := h r (by simp)
    rw [leavesOf_cons h1, List.flatten_cons, List.length_append, recEnc_size r h1] at hl
    have := fits_right (left := left - recSize r) (rs := rs) (fun x hx => h x (by simp [hx])) (by omega)
    unfold fitsIn
    rw [if_pos ⟨h1, by omega⟩, List.length_cons]
    omega
/-- a chain's records are laid. -/
theorem chain_build {i : Nat} {next : Int} {prev : List UInt8} {raw : List (List UInt8)} (hi : i ≤ 1000) (h0 : 0 ≤ next) (h1 : next ≤ 1000000) (hp : prev.length = 32) : buildOf i next prev (chainRecs next raw) = (segBytes i next prev (chainRecs next raw), 0) := by
  have hf := chain_fine (raw := raw) hi h0 h1 hp
  have hfit : (chainRecs next raw).length ≤ fitsIn 942 (chainRecs next raw) := fits_right (fun r hr => (hf.right r hr).1) hf.room
  unfold buildOf
  rw [if_neg, if_neg]
  · rw [Bool.not_eq_false, seqsFrom_iff]; exact hf.seqs
  · rw [Bool.not_eq_false]
    unfold buildArgs
    rw [decide_eq_true_eq]
    exact ⟨hf.i0, hf.i1, hf.f1, hp, hf.any, hfit⟩
end Go.Proofs.YtpbbfbgmpidgnaaGreatDoor
