/-
  PROVED HERE: texts that belong together, one behind the other; what each proves, and under which conditions, its own opening remark says: Links18, Links, Zeros, BuildAny, Args17, Build17.
-/
import Derived.Lib.AppendZerosOnto
import Derived.Test.YtpbbfbgmpidgnaaGreatDoorPkW00
import Derived.Test.YtpbbfbgmpidgnaaGreatDoorPkW03
import Derived.Test.YtpbbfbgmpidgnaaGreatDoorPkW10
import Derived.Test.YtpbbfbgmpidgnaaGreatDoorPkW11
import Derived.Test.YtpbbfbgmpidgnaaGreatDoorPkW14
import Derived.Test.YtpbbfbgmpidgnaaGreatDoorPkW25
import Derived.Test.YtpbbfbgmpidgnaaGreatDoorPkW26
import Derived.Test.YtpbbfbgmpidgnaaGreatDoorPkW27
/-
  PROVED HERE: what permafrostref18.Links answers: what seal.Links does; conditions: lengths that a slice may have.
-/
namespace Go.Proofs.YtpbbfbgmpidgnaaGreatDoor
open Go.RowKit

set_option maxRecDepth 100000 in
set_option maxHeartbeats 2000000 in
theorem links18_any (D D2 : Nat → Prop) (A A2 : Option Addr) (n c n2 c2 : Nat) (id : List UInt8) (hs : List HeadP) (w : World) (hB : Bs w D A n id) (hn : n ≤ 1099511620000) (hH : Heads w D2 A2 n2 hs) (hn2 : n2 ≤ 9223372036854775807) :
    Calls Tryz.prog 24 #[.slice A n c, .slice A2 n2 c2] w fun e w' => e = .returned (.int .i64 (linksOf id hs : Nat)) ∧ New w w' := by
  have HL := Lib.hid hH.len
  have HH := Lib.hid hH
  have HG := Lib.hid (genesis18_any D A n c id w hB hn)
  have hle := (linksGo_le hs 0 (genesisOf id) 1).2
  clear hH hB
  go_enter Tryz.func24, Tryz.ntmps24
  go_wp2_with fail
  refine HG.out.mono ?_
  rintro e w1 ⟨⟨A1, c1, rfl, ho1⟩, hK1⟩
  go_wp2_with fail
  go_loopw [5, 6, 7] (fun s5 s6 i wx => ∃ (k : Nat) (B : Option Addr) (e : Nat) (prev : List UInt8) (first : Int), k ≤ n2 ∧ i = .int .i64 (k : Int) ∧ s5 = .slice B 32 e ∧ s6 = .int .u64 first ∧ OwnB wx w.heap.size 5 B 32 e prev ∧ linksOf id hs = linksGo k prev first (hs.drop k) ∧ New w wx) (fun _ _ i _ => n2 - (intOf i).toNat)
  case atStart => exact ⟨0, _, _, _, 1, Nat.zero_le _, rfl, rfl, rfl, ho1, rfl, hK1⟩
  case round =>
    clear ho1 hK1
    obtain ⟨k, B, eb, prev, first, hk, rfl, rfl, rfl, ho, hgo, hK⟩ := hrel
    have HGO := Lib.hid hgo
    clear hgo
    by_cases hlt : k < n2
    · have hkl : k < hs.length := by have := HL.out; omega
      obtain ⟨b, off, P1, p1, P2, p2, rfl, _, e0, e1, e2, e3, e4, e5, l1, l2, b1, b2, f0, f1⟩ := (HH.out.new hK).at_ hkl
      have HST := Lib.hid (links_step (i := k) (prev := prev) (first := first) hkl)
      have HSP := Lib.hid (links_stop (i := k) (prev := prev) (first := first) hkl)
      generalize hs[k] = h at *
      have HF0 := Lib.hid f0
      have HF1 := Lib.hid f1
      have t1 : ∀ m, (convert 22 9 (.slice P1 h.prev.length p1)).run Tryz.prog (wr.drewN m) = .ok (.string (strOf h.prev)) (wr.drewN m) := fun m => run_str (b1.new ((New.refl wr).drewN m))
      have t2 : ∀ m, (convert 22 9 (.slice B 32 eb)).run Tryz.prog (wr.drewN m) = .ok (.string (strOf prev)) (wr.drewN m) := fun m => run_str (Row.of_own (Own.keepNew ho ((New.refl wr).drewN m)))
      clear f0 f1
      by_cases h1 : h.index = k
      · have h1' : (h.index != (k : Int)) = false := by simpa using h1
        by_cases h2 : h.first = first
        · have h2' : (h.first != first) = false := by simpa using h2
          have H1 := Lib.hid h1
          have H2 := Lib.hid h2
          clear h1 h2
          by_cases h3 : h.prev = prev
          · have h3' : (h.prev == prev) = true := by simpa using h3
            have HS := Lib.hid (HST.out ⟨H1.out, H2.out, h3⟩)
            clear h3
            go_wp2_with fail
            go_quiet (fail)
            have hNq : New wr (wr.drewN nq) := (New.refl wr).drewN nq
            have e0 := hNq.cell_some e0 trivial
            have e1 := hNq.cell_some e1 trivial
            have e2 := hNq.cell_some e2 trivial
            have e3 := hNq.cell_some e3 trivial
            have e4 := hNq.cell_some e4 trivial
            have e5 := hNq.cell_some e5 trivial
            have hKq := hK.new hNq
            have HB1 := Lib.hid (b1.new hNq)
            have HB2 := Lib.hid (b2.new hNq)
            generalize wr.drewN nq = wq at *
            clear hNq t1 t2 b1 b2 ho hK h1' h2' h3'
            have HSE := Lib.hid (seal17_any D2 D2 P1 P2 h.prev.length p1 h.root.length p2 h wq HB1.out l1 HB2.out l2 HF0.out HF1.out)
            go_wp2_with fail
            refine HSE.out.mono ?_
            rintro e w3 ⟨⟨A3, c3, rfl, o3⟩, k3⟩
            have e1 := k3.cell_some e1 trivial
            have e2 := k3.cell_some e2 trivial
            have hK3 := hKq.new k3
            have hsz := hKq.size
            clear HSE
            go_wp2_with fail
            go_quiet (fail)
            go_wp2_with fail
            go_roundw
            case rel => exact ⟨k + 1, _, _, _, _, by omega, by go_num, rfl, rfl, own_base (Own.keepNew o3 ((New.refl w3).drewN _)) hsz, by rw [HGO.out, HS.out, H2.out], hK3.drewN _⟩
            case measure => simp [intOf]; omega
          · have h3' : (h.prev == prev) = false := by simpa using h3
            have HS := Lib.hid (HSP.out (fun q => h3 q.2.2))
            clear h3
            go_wp2_with fail
            go_quiet (fail)
            go_wp2_with fail
            go_ret
            exact ⟨by rw [HGO.out, HS.out]; rfl, hK.drewN _⟩
        · have h2' : (h.first != first) = true := by simpa using h2
          have HS := Lib.hid (HSP.out (fun q => h2 q.2.1))
          clear h1 h2
          go_wp2_with fail
          go_quiet (fail)
          go_wp2_with fail
          go_ret
          exact ⟨by rw [HGO.out, HS.out]; rfl, hK.drewN _⟩
      · have h1' : (h.index != (k : Int)) = true := by simpa using h1
        have HS := Lib.hid (HSP.out (fun q => h1 q.1))
        clear h1
        go_wp2_with fail
        go_quiet (fail)
        go_wp2_with fail
        go_ret
        exact ⟨by rw [HGO.out, HS.out]; rfl, hK.drewN _⟩
    · obtain rfl : k = n2 := by omega
      have HE : Hid (linksOf id hs = k) := Lib.hid (by rw [HGO.out, List.drop_eq_nil_of_le (by rw [HL.out]; exact Nat.le_refl _)]; rfl)
      go_wp2_with fail
      go_ret
      exact ⟨by rw [HE.out]; rfl, hK⟩
end Go.Proofs.YtpbbfbgmpidgnaaGreatDoor
/-
  PROVED HERE: what seal.Links answers; conditions: lengths that a slice may have.
-/
namespace Go.Proofs.YtpbbfbgmpidgnaaGreatDoor
open Go.RowKit

set_option maxRecDepth 100000 in
set_option maxHeartbeats 2000000 in
theorem links_any (D D2 : Nat → Prop) (A A2 : Option Addr) (n c n2 c2 : Nat) (id : List UInt8) (hs : List HeadP) (w : World) (hB : Bs w D A n id) (hc : n ≤ c) (hn : n ≤ 1099511620000) (hH : Heads w D2 A2 n2 hs) (hn2 : n2 ≤ 9223372036854775807) :
    Calls Tryz.prog 21 #[.slice A n c, .slice A2 n2 c2] w fun e w' => e = .returned (.int .i64 (linksOf id hs : Nat)) ∧ New w w' := by
  have HL := Lib.hid hH.len
  have HH := Lib.hid hH
  have HG := Lib.hid (genesis_any D A n c id w hB hc hn)
  have hle := (linksGo_le hs 0 (genesisOf id) 1).2
  clear hH hB
  go_enter Tryz.func21, Tryz.ntmps21
  go_wp2_with fail
  refine HG.out.mono ?_
  rintro e w1 ⟨⟨A1, c1, rfl, ho1⟩, hK1⟩
  go_wp2_with fail
  go_loopw [5, 6, 13] (fun s5 s6 i wx => ∃ (k : Nat) (B : Option Addr) (e : Nat) (prev : List UInt8) (first : Int), k ≤ n2 ∧ i = .int .i64 (k : Int) ∧ s5 = .slice B 32 e ∧ s6 = .int .u64 first ∧ OwnB wx w.heap.size 5 B 32 e prev ∧ linksOf id hs = linksGo k prev first (hs.drop k) ∧ New w wx) (fun _ _ i _ => n2 - (intOf i).toNat)
  case atStart => exact ⟨0, _, _, _, 1, Nat.zero_le _, rfl, rfl, rfl, ho1, rfl, hK1⟩
  case round =>
    clear ho1 hK1
    obtain ⟨k, B, eb, prev, first, hk, rfl, rfl, rfl, ho, hgo, hK⟩ := hrel
    have HGO := Lib.hid hgo
    clear hgo
    by_cases hlt : k < n2
    · have hkl : k < hs.length := by have := HL.out; omega
      obtain ⟨b, off, P1, p1, P2, p2, rfl, _, e0, e1, e2, e3, e4, e5, l1, l2, b1, b2, f0, f1⟩ := (HH.out.new hK).at_ hkl
      have HST := Lib.hid (links_step (i := k) (prev := prev) (first := first) hkl)
      have HSP := Lib.hid (links_stop (i := k) (prev := prev) (first := first) hkl)
      generalize hs[k] = h at *
      have hN : New wr (wr.alloc (.cells #[.int .i64 h.index, .int .u64 h.first, .int .i64 h.count, .int .i64 h.bytes, .slice P1 h.prev.length p1, .slice P2 h.root.length p2] 36)) := (New.refl wr).alloc _
      have HX := Lib.hid (heap_alloc_new wr (.cells #[.int .i64 h.index, .int .u64 h.first, .int .i64 h.count, .int .i64 h.bytes, .slice P1 h.prev.length p1, .slice P2 h.root.length p2] 36))
      have hK1 := hK.new hN
      have x0 := cellOf HX.out (k := 0) rfl
      have x1 := cellOf HX.out (k := 1) rfl
      have x4 := cellOf HX.out (k := 4) rfl
      have HB1 := Lib.hid (b1.new hN)
      have HB2 := Lib.hid (b2.new hN)
      have HO1 := Lib.hid (Own.keepNew ho hN)
      have HF0 := Lib.hid f0
      have HF1 := Lib.hid f1
      clear b1 b2 ho hN f0 f1
      by_cases h1 : h.index = k
      · have h1' : (h.index != (k : Int)) = false := by simpa using h1
        by_cases h2 : h.first = first
        · have h2' : (h.first != first) = false := by simpa using h2
          have HEQ := Lib.hid (equal_any _ _ P1 B h.prev.length p1 32 eb h.prev prev _ HB1.out (Row.of_own HO1.out))
          have H1 := Lib.hid h1
          have H2 := Lib.hid h2
          clear h1 h2
          go_wp2_with fail
          generalize wr.alloc _ = w2 at *
          refine HEQ.out.mono ?_
          rintro e w' ⟨rfl, rfl⟩
          by_cases h3 : h.prev = prev
          · have h3' : (h.prev == prev) = true := by simpa using h3
            have HS := Lib.hid (HST.out ⟨H1.out, H2.out, h3⟩)
            clear h3
            go_wp2_with fail
            clear x0 x1 x4 e0 e1 e2 e3 e4 e5
            have y0 : ∀ W, New w2 W → W.cell? ⟨wr.heap.size, 0, none⟩ = some (.int .i64 h.index) := fun W q => cellOf (q.blockAt HX.out trivial) rfl
            have y1 : ∀ W, New w2 W → W.cell? ⟨wr.heap.size, 1, none⟩ = some (.int .u64 h.first) := fun W q => cellOf (q.blockAt HX.out trivial) rfl
            have y2 : ∀ W, New w2 W → W.cell? ⟨wr.heap.size, 2, none⟩ = some (.int .i64 h.count) := fun W q => cellOf (q.blockAt HX.out trivial) rfl
            have y3 : ∀ W, New w2 W → W.cell? ⟨wr.heap.size, 3, none⟩ = some (.int .i64 h.bytes) := fun W q => cellOf (q.blockAt HX.out trivial) rfl
            have y4 : ∀ W, New w2 W → W.cell? ⟨wr.heap.size, 4, none⟩ = some (.slice P1 h.prev.length p1) := fun W q => cellOf (q.blockAt HX.out trivial) rfl
            have y5 : ∀ W, New w2 W → W.cell? ⟨wr.heap.size, 5, none⟩ = some (.slice P2 h.root.length p2) := fun W q => cellOf (q.blockAt HX.out trivial) rfl
            have HSE : Hid (∀ W, New w2 W → Calls Tryz.prog 61 #[.agg #[.int .i64 h.index, .int .u64 h.first, .int .i64 h.count, .int .i64 h.bytes, .slice P1 h.prev.length p1, .slice P2 h.root.length p2]] W fun e w' =>
                (∃ A' c', e = .returned (.slice A' 32 c') ∧ OwnB w' W.heap.size 5 A' 32 c' (sealOf h)) ∧ New W w') :=
              Lib.hid fun W q => seal_any D2 D2 P1 P2 h.prev.length p1 h.root.length p2 h W (HB1.out.new q) l1 (HB2.out.new q) l2 HF0.out HF1.out
            clear h1' h2' h3'
            refine hold_begin (by kernel_rfl) ?_
            have n0 : New w2 w2.drew := (New.refl w2).drew
            replace y0 := fun W (hW : New w2.drew W) => y0 W (Keep.new n0 hW)
            replace y1 := fun W (hW : New w2.drew W) => y1 W (Keep.new n0 hW)
            replace y2 := fun W (hW : New w2.drew W) => y2 W (Keep.new n0 hW)
            replace y3 := fun W (hW : New w2.drew W) => y3 W (Keep.new n0 hW)
            replace y4 := fun W (hW : New w2.drew W) => y4 W (Keep.new n0 hW)
            replace y5 := fun W (hW : New w2.drew W) => y5 W (Keep.new n0 hW)
            refine hold_read (i := 0) (v := ?_) rfl (by kernel_rfl) (by kernel_rfl) (by kernel_rfl) (fun _ _ _ h => h) rfl ?_ ?_
            rotate_left
            · intro w' hN
              go_simp
              try with_reducible rfl
            simp only [Act.put, List.getElem_toArray, List.getElem_cons_zero, List.setIfInBounds_toArray, List.set_cons_zero, List.set_cons_succ]
            refine hold_read (i := 2) (v := ?_) rfl (by kernel_rfl) (by kernel_rfl) (by kernel_rfl) (fun _ _ _ h => h) rfl ?_ ?_
            rotate_left
            · intro w' hN
              go_simp
              try with_reducible rfl
            simp only [Act.put, List.getElem_toArray, List.getElem_cons_succ, List.getElem_cons_zero, List.setIfInBounds_toArray, List.set_cons_zero, List.set_cons_succ]
            refine hold_read (i := 3) (v := ?_) rfl (by kernel_rfl) (by kernel_rfl) (by kernel_rfl) (fun _ _ _ h => h) rfl ?_ ?_
            rotate_left
            · intro w' hN
              go_simp
              try with_reducible rfl
            simp only [Act.put, List.getElem_toArray, List.getElem_cons_succ, List.getElem_cons_zero, List.setIfInBounds_toArray, List.set_cons_zero, List.set_cons_succ]
            refine hold_read (i := 4) (v := ?_) rfl (by kernel_rfl) (by kernel_rfl) (by kernel_rfl) (fun _ _ _ h => h) rfl ?_ ?_
            rotate_left
            · intro w' hN
              go_simp
              try with_reducible rfl
            simp only [Act.put, List.getElem_toArray, List.getElem_cons_succ, List.getElem_cons_zero, List.setIfInBounds_toArray, List.set_cons_zero, List.set_cons_succ]
            refine hold_read (i := 5) (v := ?_) rfl (by kernel_rfl) (by kernel_rfl) (by kernel_rfl) (fun _ _ _ h => h) rfl ?_ ?_
            rotate_left
            · intro w' hN
              go_simp
              try with_reducible rfl
            simp only [Act.put, List.getElem_toArray, List.getElem_cons_succ, List.getElem_cons_zero, List.setIfInBounds_toArray, List.set_cons_zero, List.set_cons_succ]
            refine hold_read (i := 6) (v := ?_) rfl (by kernel_rfl) (by kernel_rfl) (by kernel_rfl) (fun _ _ _ h => h) rfl ?_ ?_
            rotate_left
            · intro w' hN
              go_simp
              try with_reducible rfl
            simp only [Act.put, List.getElem_toArray, List.getElem_cons_succ, List.getElem_cons_zero, List.setIfInBounds_toArray, List.set_cons_zero, List.set_cons_succ]
            refine hold_step (i := 1) (by kernel_rfl) rfl rfl (fun K hK => ?_)
            go_simp
            refine (HSE.out _ n0).mono ?_
            rintro e w3 ⟨⟨A3, c3, rfl, o3⟩, k3⟩
            go_wp2_with fail
            refine hK.out _ _ k3 ?_
            clear hK K
            try simp only [Act.put, List.getElem_toArray, List.getElem_cons_succ, List.getElem_cons_zero, List.setIfInBounds_toArray, List.set_cons_zero, List.set_cons_succ]
            replace n0 := Keep.new n0 k3
            replace y0 := fun W (hW : New w3 W) => y0 W (Keep.new k3 hW)
            replace y1 := fun W (hW : New w3 W) => y1 W (Keep.new k3 hW)
            replace y2 := fun W (hW : New w3 W) => y2 W (Keep.new k3 hW)
            replace y3 := fun W (hW : New w3 W) => y3 W (Keep.new k3 hW)
            replace y4 := fun W (hW : New w3 W) => y4 W (Keep.new k3 hW)
            replace y5 := fun W (hW : New w3 W) => y5 W (Keep.new k3 hW)
            refine hold_read (i := 7) (v := ?_) rfl (by kernel_rfl) (by kernel_rfl) (by kernel_rfl) (fun _ _ _ h => h) rfl ?_ ?_
            rotate_left
            · intro w' hN
              go_simp
              try with_reducible rfl
            simp only [Act.put, List.getElem_toArray, List.getElem_cons_succ, List.getElem_cons_zero, List.setIfInBounds_toArray, List.set_cons_zero, List.set_cons_succ]
            refine hold_read (i := 8) (v := ?_) rfl (by kernel_rfl) (by kernel_rfl) (by kernel_rfl) (fun _ _ _ h => h) rfl ?_ ?_
            rotate_left
            · intro w' hN
              go_simp
              try with_reducible rfl
            simp only [Act.put, List.getElem_toArray, List.getElem_cons_succ, List.getElem_cons_zero, List.setIfInBounds_toArray, List.set_cons_zero, List.set_cons_succ]
            refine wpAnyH_done (by kernel_rfl) ?_ _
            have hK3 := hK1.new n0
            have hsz := hK1.size
            clear y0 y1 y2 y3 y4 y5
            go_wp2_with fail
            go_roundw
            case rel => exact ⟨k + 1, _, _, _, _, by omega, by go_num, rfl, rfl, own_base o3 (by exact hsz), by rw [HGO.out, HS.out], hK3⟩
            case measure => simp [intOf]; omega
          · have h3' : (h.prev == prev) = false := by simpa using h3
            have HS := Lib.hid (HSP.out (fun q => h3 q.2.2))
            clear h3
            go_wp2_with fail
            go_ret
            exact ⟨by rw [HGO.out, HS.out]; rfl, hK1⟩
        · have h2' : (h.first != first) = true := by simpa using h2
          have HS := Lib.hid (HSP.out (fun q => h2 q.2.1))
          clear h1 h2
          go_wp2_with fail
          go_ret
          exact ⟨by rw [HGO.out, HS.out]; rfl, hK1⟩
      · have h1' : (h.index != (k : Int)) = true := by simpa using h1
        have HS := Lib.hid (HSP.out (fun q => h1 q.1))
        clear h1
        go_wp2_with fail
        go_ret
        exact ⟨by rw [HGO.out, HS.out]; rfl, hK1⟩
    · obtain rfl : k = n2 := by omega
      have HE : Hid (linksOf id hs = k) := Lib.hid (by rw [HGO.out, List.drop_eq_nil_of_le (by rw [HL.out]; exact Nat.le_refl _)]; rfl)
      go_wp2_with fail
      go_ret
      exact ⟨by rw [HE.out]; rfl, hK⟩
end Go.Proofs.YtpbbfbgmpidgnaaGreatDoor
/-
  PROVED HERE: the law of append of so many noughts onto a row of bytes of the call's own, for one operation alone; condition: fewer than 2^47 bytes.
-/
namespace Go.Proofs.YtpbbfbgmpidgnaaGreatDoor
open Go.RowKit

theorem zeroCells_u8 (k : Nat) : (Builtin.zeroCells (Value.int .u8 0).cells k).toList = (List.replicate k (0 : UInt8)).map byteVal := by
  simp [Builtin.zeroCells, Value.cells, byteVal, bv]
  apply List.ext_getElem
  · simp
  · intro i h1 h2; simp [Nat.mod_one]
set_option maxRecDepth 20000 in
theorem run_zeros_own (w : World) (ty : TypeId) (base : Nat) (A : Option Addr) (n c k : Nat) (bs : List UInt8) (hown : OwnB w base 5 A n c bs) (h63 : n + k ≤ 1099511627776) (hbase : base ≤ w.heap.size) :
    ∃ A' c' w', (Builtin.append_ #[22, 3] ty #[.slice A n c, .int .i64 (k : Int)]).run Tryz.prog w = .ok (.slice A' (n + k) c') w' ∧ OwnB w' base 5 A' (n + k) c' (bs ++ List.replicate k 0) ∧ w.grownBy w' (blk A) ∧
      (blk A' = blk A ∨ blk A' = some w.heap.size) := by
  obtain ⟨i, hi, hz0, hz1, hz2⟩ := info_parts info_u8
  have ht := Tryz.underlying22
  have htn := Tryz.underlying3
  have hbl : bs.length = n := by have := hown.1; simpa using this
  have hw : IntKind.i64.wrap (k : Int) = k := IntWalk.i64_in _ (by omega)
  have hk0 : ¬ ((k : Int) < 0) := by omega
  have hk48 : ¬ (281474976710656 < (k : Int)) := by omega
  by_cases hroom : n + k ≤ c
  · rcases hown.2 with ⟨hv, hxs⟩ | ⟨g, cap, cur, hv, hbg, hg, hnc, hcm, hcs, htake⟩
    · injection hv with h1 h2 h3
      subst h1; subst h2; subst h3
      obtain rfl : k = 0 := by omega
      have hb : bs = [] := List.eq_nil_of_length_eq_zero hbl
      subst hb
      refine ⟨none, 0, w, ?_, Own.nil _ _ _ _, World.grownBy.refl w _, .inl rfl⟩
      have e0 : IntKind.i64.wrap 0 = 0 := IntWalk.i64_in _ (by decide)
      simp [Builtin.append_, run_underlying ht, run_underlying htn, sizeOf, typeInfo, zeroValue, hi, hz0, hz2, asInt, asIntOf, e0]
    · injection hv with h1 h2 h3
      subst h1; subst h3
      have hfit : n + k ≤ cur.size := by omega
      have hst := run_storeCells_at Tryz.prog g n 5 ((List.replicate k (0 : UInt8)).map byteVal) 0 cur w hg (by simp; omega) (byteVal_one _)
      simp only [Nat.add_zero] at hst
      refine ⟨some ⟨g, 0, none⟩, c, w.setRow g (cur.toList.take n ++ (List.replicate k (0 : UInt8)).map byteVal ++ cur.toList.drop (n + k)).toArray, ?_, ?_, ?_, .inl rfl⟩
      · by_cases hk : k = 0
        · subst hk
          have e0 : IntKind.i64.wrap 0 = 0 := IntWalk.i64_in _ (by decide)
          simp at hst
          simp [Builtin.append_, run_underlying ht, run_underlying htn, sizeOf, typeInfo, zeroValue, hi, hz0, hz1, hz2, asInt, asIntOf, e0, hnc, hst, Addr.add_lit]
        · have hz := zeroCells_u8 k
          simp [Builtin.append_, run_underlying ht, run_underlying htn, sizeOf, typeInfo, zeroValue, hi, hz0, hz1, hz2, asInt, asIntOf, hw, hk0, hk48, hroom, hk, hz, Addr.add_lit]
          simp at hst
          simp [hst]
      · refine ⟨by simp [hbl], .inr ⟨g, c, _, rfl, hbg, setRow_heap w g cur _ 5 _ hg, hroom, hcm, ?_, ?_⟩⟩
        · simp; omega
        · have htk : cur.toList.take n = bs.map byteVal := by simpa using htake
          have hl : (bs.map byteVal ++ (List.replicate k (0 : UInt8)).map byteVal).length = (n + k) * 1 := by simp [hbl]
          rw [htk, List.map_append, List.toList_toArray, ← hl, List.take_left]
      · exact ⟨rfl, rfl, rfl, by simp, fun j _ hj => setRow_other w g j _ (fun e => hj (by rw [e]; rfl))⟩
  · have hold : (Builtin.firstCells i.size n (.slice A n c)).run Tryz.prog w.drew = .ok (bs.map byteVal).toArray w.drew := by
      rcases hown.2 with ⟨hv, hxs⟩ | ⟨g, cap, cur, hv, hbg, hg, hnc, hcm, hcs, htake⟩
      · injection hv with h1 h2 h3
        subst h1; subst h2
        have hb : bs = [] := List.eq_nil_of_length_eq_zero hbl
        subst hb
        simp [Builtin.firstCells]
      · injection hv with h1 h2 h3
        subst h1
        exact run_firstCells_some w.drew i.size n ⟨g, 0, none⟩ n c _ (by simp [hbl, hz1]) (by intro j u hu; simpa using hown.cells (g := g) rfl j u hu)
    have hcapfit : Builtin.nextslicecap (n + k) c * i.bytes ≤ 281474976710656 := by
      rw [hz2]
      exact growslice_fits (by omega) (by omega)
    have hr := Lib.run_append_grow_zeros w 22 3 ty 5 i (.int .u8 0) .i64 .i64 ht htn hi hz0 A n c (bs.map byteVal) hold k (by have := own_cap hown; omega) (by omega) (by omega) (by omega) (by rw [hz2]; omega) hcapfit
    have hge := Go.grownCap_ge w (n + k) c 5
    have hle := Go.grownCap_le_maxLen w (n + k) c 5 (by unfold maxLen; omega)
    refine ⟨_, _, _, hr, ⟨by simp [hbl], .inr ⟨w.heap.size, _, _, rfl, hbase, heap_alloc_new w.drew _, hge, hle, ?_, ?_⟩⟩, ⟨rfl, rfl, rfl, by simp, fun j hj _ => Below.heap_alloc w.drew _ j hj⟩, .inr rfl⟩
    · simp [Builtin.zeroCells, Value.cells, hbl]; omega
    · have hl : (bs.map byteVal ++ (List.replicate k (0 : UInt8)).map byteVal).length = (n + k) * 1 := by simp [hbl]
      simp only [Array.toList_append, zeroCells_u8]
      rw [List.map_append, ← hl]
      exact List.take_left
theorem wp_zeros {o : Oper} {a : Act} {K : Act → World → Prop} {Q : Exit → Act → World → Prop} (w : World) (s x : Operand)
    (ho : o.op = .call { callee := .builtin .append, args := #[s, x], argTypes := #[22, 3] })
    (base : Nat) (A : Option Addr) (n c k : Nat) (bs : List UInt8) (hs : a.eval s = .slice A n c) (hown : OwnB w base 5 A n c bs) (hx : a.eval x = .int .i64 (k : Int))
    (h63 : n + k ≤ 1099511627776) (hbase : base ≤ w.heap.size)
    (h : ∀ A' c' w', OwnB w' base 5 A' (n + k) c' (bs ++ List.replicate k 0) → w.grownBy w' (blk A) → (blk A' = blk A ∨ blk A' = some w.heap.size) → K (a.put o.dst (.slice A' (n + k) c')) w') : o.wp Tryz.prog a w K Q := by
  obtain ⟨A', c', w', hr, h2, h3, h4⟩ := run_zeros_own w o.type base A n c k bs hown h63 hbase
  unfold Oper.wp execOp
  simp only [ho, resolve, invoke, builtin, Sem.run_bind, Sem.run_pure, Result.andThen_ok, List.map_toArray, List.map_cons, List.map_nil, hs, hx, hr]
  exact h A' c' w' h2 h3 h4
theorem app_zeros {ops : Array Oper} {rest : List Oper} {o : Oper} {a : Act} {Q : Exit → Act → World → Prop} (w : World) (hgd : o.guard = none) (s x : Operand)
    (ho : o.op = .call { callee := .builtin .append, args := #[s, x], argTypes := #[22, 3] })
    (base : Nat) (A : Option Addr) (n c k : Nat) (bs : List UInt8) (hs : a.eval s = .slice A n c) (hown : OwnB w base 5 A n c bs) (hx : a.eval x = .int .i64 (k : Int))
    (h63 : n + k ≤ 1099511627776) (hbase : base ≤ w.heap.size)
    (h : ∀ A' c' w', OwnB w' base 5 A' (n + k) c' (bs ++ List.replicate k 0) → w.grownBy w' (blk A) → (blk A' = blk A ∨ blk A' = some w.heap.size) → wpList Tryz.prog ops Q rest (a.put o.dst (.slice A' (n + k) c')) w') : wpList Tryz.prog ops Q (o :: rest) a w :=
  wpList_plain hgd fun _ hK => wp_zeros w s x ho base A n c k bs hs hown hx h63 hbase fun A' c' w' h2 h3 h4 => hK _ _ (h A' c' w' h2 h3 h4)
end Go.Proofs.YtpbbfbgmpidgnaaGreatDoor
/-
  PROVED HERE: what segment.Build answers, for any arguments; conditions: lengths that a slice may have.
-/
namespace Go.Proofs.YtpbbfbgmpidgnaaGreatDoor
open Go.RowKit

/-- the bytes and the refusal of Build. -/
def buildOf (index first : Int) (pr : List UInt8) (rs : List RecP) : List UInt8 × Int :=
  if buildArgs index first pr.length rs = false then ([], 1) else if seqsFrom first rs = false then ([], 12) else (segBytes index first pr rs, 0)
theorem buildOf_length (index first : Int) (pr : List UInt8) (rs : List RecP) : (buildOf index first pr rs).1.length = 0 ∨ (buildOf index first pr rs).1.length = 1024 := by
  unfold buildOf
  split
  · exact .inl rfl
  split
  · exact .inl rfl
  · rename_i h _
    right
    rw [Bool.not_eq_false] at h
    unfold buildArgs at h
    rw [decide_eq_true_eq] at h
    exact segBytes_length _ _ _ _ h.2.2.2.1 (fits_all _ _ h.2.2.2.2.2).2.1
/-- bytes and a refusal, handed back. -/
def BuildRet (d : List UInt8 × Int) (w : World) (e : Ending) (w' : World) : Prop :=
  (∃ A' c', e = .returned (.tuple #[.slice A' d.1.length c', .int .i64 d.2]) ∧ OwnB w' w.heap.size 5 A' d.1.length c' d.1) ∧ New w w'
theorem build_any (D D2 : Nat → Prop) (index first : Int) (A A2 : Option Addr) (c m c2 : Nat) (pr : List UInt8) (rs : List RecP) (w : World) (hB : Bs w D A pr.length pr) (hnc : pr.length ≤ c) (hR : Recs w D2 A2 m rs) (hm : m ≤ 9223372036854775807) (hf0 : 0 ≤ first) :
    Calls Tryz.prog 33 #[.int .i64 index, .int .u64 first, .slice A pr.length c, .slice A2 m c2] w (BuildRet (buildOf index first pr rs) w) := by
  cases h : buildArgs index first pr.length rs
  · refine (build_arg D D2 index first A A2 pr.length c m c2 rs w hR hm h).mono ?_
    rintro e w' ⟨rfl, hK⟩
    unfold buildOf
    rw [if_pos h]
    exact ⟨⟨none, 0, rfl, Own.nil _ _ _ _⟩, hK⟩
  · cases hq : seqsFrom first rs
    · refine (build_form D D2 index first A A2 pr.length c m c2 pr rs w hB hnc hR hm hf0 h hq).mono ?_
      rintro e w' ⟨rfl, hK⟩
      unfold buildOf
      rw [if_neg (by rw [h]; decide), if_pos hq]
      exact ⟨⟨none, 0, rfl, Own.nil _ _ _ _⟩, hK⟩
    · refine (build_ok D D2 index first A A2 pr.length c m c2 pr rs w hB hnc hR hm hf0 h hq).mono ?_
      rintro e w' ⟨⟨A', c', rfl, ho⟩, hK⟩
      have hl : (segBytes index first pr rs).length = 1024 := by simpa using ho.1
      unfold buildOf
      rw [if_neg (by rw [h]; decide), if_neg (by rw [hq]; decide)]
      refine ⟨⟨A', c', ?_, ?_⟩, hK⟩
      · dsimp only; rw [hl]
      · dsimp only; rw [hl]; exact ho
end Go.Proofs.YtpbbfbgmpidgnaaGreatDoor
/-
  PROVED HERE: which arguments permafrostref17.Build refuses; conditions: lengths that a slice may have.
-/
namespace Go.Proofs.YtpbbfbgmpidgnaaGreatDoor
open Go.RowKit

set_option maxRecDepth 100000 in
theorem build17_args1 (_D D2 : Nat → Prop) (index first : Int) (A A2 : Option Addr) (n c m c2 : Nat) (rs : List RecP) (w : World) (_hR : Recs w D2 A2 m rs) (_hm : m ≤ 9223372036854775807) (h1 : index < 0) :
    Calls Tryz.prog 34 #[.int .i64 index, .int .u64 first, .slice A n c, .slice A2 m c2] w fun e w' => e = .returned (.tuple #[.slice none 0 0, .int .i64 1]) ∧ New w w' := by
  clear _hR
  go_enter Tryz.func34, Tryz.ntmps34
  go_wp2_with fail
  go_ret2
  exact ⟨rfl, New.refl _⟩
set_option maxRecDepth 100000 in
theorem build17_args2 (_D D2 : Nat → Prop) (index first : Int) (A A2 : Option Addr) (n c m c2 : Nat) (rs : List RecP) (w : World) (_hR : Recs w D2 A2 m rs) (_hm : m ≤ 9223372036854775807) (h1 : ¬ (index < 0)) (h2 : 65535 < index) :
    Calls Tryz.prog 34 #[.int .i64 index, .int .u64 first, .slice A n c, .slice A2 m c2] w fun e w' => e = .returned (.tuple #[.slice none 0 0, .int .i64 1]) ∧ New w w' := by
  clear _hR
  go_enter Tryz.func34, Tryz.ntmps34
  go_wp2_with fail
  go_ret2
  exact ⟨rfl, New.refl _⟩
set_option maxRecDepth 100000 in
theorem build17_args3 (_D D2 : Nat → Prop) (index first : Int) (A A2 : Option Addr) (n c m c2 : Nat) (rs : List RecP) (w : World) (_hR : Recs w D2 A2 m rs) (_hm : m ≤ 9223372036854775807) (h1 : ¬ (index < 0)) (h2 : ¬ (65535 < index)) (h3 : 1099511627776 < first) :
    Calls Tryz.prog 34 #[.int .i64 index, .int .u64 first, .slice A n c, .slice A2 m c2] w fun e w' => e = .returned (.tuple #[.slice none 0 0, .int .i64 1]) ∧ New w w' := by
  clear _hR
  go_enter Tryz.func34, Tryz.ntmps34
  go_wp2_with fail
  go_ret2
  exact ⟨rfl, New.refl _⟩
set_option maxRecDepth 100000 in
theorem build17_args4 (_D D2 : Nat → Prop) (index first : Int) (A A2 : Option Addr) (n c m c2 : Nat) (rs : List RecP) (w : World) (_hR : Recs w D2 A2 m rs) (_hm : m ≤ 9223372036854775807) (h1 : ¬ (index < 0)) (h2 : ¬ (65535 < index)) (h3 : ¬ (1099511627776 < first)) (h4 : n ≠ 32) :
    Calls Tryz.prog 34 #[.int .i64 index, .int .u64 first, .slice A n c, .slice A2 m c2] w fun e w' => e = .returned (.tuple #[.slice none 0 0, .int .i64 1]) ∧ New w w' := by
  have h4' : ((n : Int) != 32) = true := by simp; omega
  clear _hR
  clear h4
  go_enter Tryz.func34, Tryz.ntmps34
  go_wp2_with fail
  go_ret2
  exact ⟨rfl, New.refl _⟩
set_option maxRecDepth 100000 in
theorem build17_args5 (_D D2 : Nat → Prop) (index first : Int) (A A2 : Option Addr) (n c m c2 : Nat) (rs : List RecP) (w : World) (_hR : Recs w D2 A2 m rs) (_hm : m ≤ 9223372036854775807) (h1 : ¬ (index < 0)) (h2 : ¬ (65535 < index)) (h3 : ¬ (1099511627776 < first)) (h4 : ¬ (n ≠ 32)) (h5 : m = 0) :
    Calls Tryz.prog 34 #[.int .i64 index, .int .u64 first, .slice A n c, .slice A2 m c2] w fun e w' => e = .returned (.tuple #[.slice none 0 0, .int .i64 1]) ∧ New w w' := by
  have h4' : ((n : Int) != 32) = false := by simp; omega
  have h5' : ((m : Int) == 0) = true := by simp; omega
  clear _hR
  clear h4
  clear h5
  go_enter Tryz.func34, Tryz.ntmps34
  go_wp2_with fail
  go_ret2
  exact ⟨rfl, New.refl _⟩
set_option maxRecDepth 100000 in
theorem build17_args6 (_D D2 : Nat → Prop) (index first : Int) (A A2 : Option Addr) (n c m c2 : Nat) (rs : List RecP) (w : World) (hR : Recs w D2 A2 m rs) (hm : m ≤ 9223372036854775807) (h1 : ¬ (index < 0)) (h2 : ¬ (65535 < index)) (h3 : ¬ (1099511627776 < first)) (h4 : ¬ (n ≠ 32)) (h5 : ¬ (m = 0)) (h6 : fitsIn 942 rs < m) :
    Calls Tryz.prog 34 #[.int .i64 index, .int .u64 first, .slice A n c, .slice A2 m c2] w fun e w' => e = .returned (.tuple #[.slice none 0 0, .int .i64 1]) ∧ New w w' := by
  have h4' : ((n : Int) != 32) = false := by simp; omega
  have h5' : ((m : Int) == 0) = false := by simp; omega
  have h6' : ((fitsIn 942 rs : Nat) : Int) < m := by omega
  have HF := Lib.hid (fun w' hN => fits17_any D2 A2 m c2 rs w' (hR.new (w' := w') hN) hm)
  clear hR
  clear h4
  clear h5
  go_enter Tryz.func34, Tryz.ntmps34
  go_wp2_with fail
  refine (HF.out _ (New.refl _)).mono ?_
  rintro e w1 ⟨rfl, hK1⟩
  go_wp2_with fail
  go_ret2
  exact ⟨rfl, hK1⟩
set_option maxRecDepth 100000 in
theorem build17_arg (D D2 : Nat → Prop) (index first : Int) (A A2 : Option Addr) (n c m c2 : Nat) (rs : List RecP) (w : World) (hR : Recs w D2 A2 m rs) (hm : m ≤ 9223372036854775807) (h : buildArgs index first n rs = false) :
    Calls Tryz.prog 34 #[.int .i64 index, .int .u64 first, .slice A n c, .slice A2 m c2] w fun e w' => e = .returned (.tuple #[.slice none 0 0, .int .i64 1]) ∧ New w w' := by
  have hl := hR.len
  unfold buildArgs at h
  rw [decide_eq_false_iff_not, hl] at h
  by_cases h1 : index < 0
  · exact build17_args1 D D2 index first A A2 n c m c2 rs w hR hm h1
  by_cases h2 : 65535 < index
  · exact build17_args2 D D2 index first A A2 n c m c2 rs w hR hm h1 h2
  by_cases h3 : 1099511627776 < first
  · exact build17_args3 D D2 index first A A2 n c m c2 rs w hR hm h1 h2 h3
  by_cases h4 : n ≠ 32
  · exact build17_args4 D D2 index first A A2 n c m c2 rs w hR hm h1 h2 h3 h4
  by_cases h5 : m = 0
  · exact build17_args5 D D2 index first A A2 n c m c2 rs w hR hm h1 h2 h3 h4 h5
  exact build17_args6 D D2 index first A A2 n c m c2 rs w hR hm h1 h2 h3 h4 h5 (by omega)
end Go.Proofs.YtpbbfbgmpidgnaaGreatDoor
/-
  PROVED HERE: what permafrostref17.Build answers: what segment.Build does; conditions: lengths that a slice may have.
-/
namespace Go.Proofs.YtpbbfbgmpidgnaaGreatDoor
open Go.RowKit

theorem Recs.at3' {w : World} {D : Nat → Prop} {A : Option Addr} {n : Nat} {rs : List RecP} (h : Recs w D A n rs) {k : Nat} (hk : k < rs.length) :
    ∃ b off A' c', A = some ⟨b, off, none⟩ ∧ D b ∧ w.cell? ⟨b, off + k * 3, none⟩ = some (.int .i64 rs[k].kind) ∧ w.cell? ⟨b, off + k * 3 + 1, none⟩ = some (.int .u64 rs[k].seq) ∧
      w.cell? ⟨b, off + k * 3 + 2, none⟩ = some (.slice A' rs[k].body.length c') ∧ rs[k].body.length ≤ c' ∧ Bs w D A' rs[k].body.length rs[k].body ∧ 0 ≤ rs[k].seq ∧ rs[k].seq ≤ 18446744073709551615 := by
  obtain ⟨vs, h1, h2, h3⟩ := h
  obtain ⟨A', c', e1, e2, e3, hc, hb, h5, h6, h7⟩ := h3 k hk
  obtain ⟨b, off, hA, hD, _, hcell⟩ := h1.2 (by omega)
  refine ⟨b, off, A', c', hA, hD, hcell _ _ e1, ?_, ?_, hc, hb, h5, h6⟩
  · rw [Nat.add_assoc]; exact hcell _ _ e2
  · rw [Nat.add_assoc]; exact hcell _ _ e3
theorem leaves_more {rs : List RecP} (hr : ∀ r ∈ rs, recRight r = true) {k : Nat} (hk : k < rs.length) : (leavesOf (rs.take (k + 1))).flatten = (leavesOf (rs.take k)).flatten ++ recEnc rs[k] := by
  rw [leaves_take rs k hk, if_pos (hr _ (List.getElem_mem hk)), List.flatten_append, List.flatten_singleton]
theorem leaves_part (rs : List RecP) (k : Nat) : (leavesOf (rs.take k)).flatten.length ≤ (leavesOf rs).flatten.length := by
  have h : leavesOf rs = leavesOf (rs.take k) ++ leavesOf (rs.drop k) := by
    unfold leavesOf
    rw [← List.map_append, List.take_append_drop]
  rw [h, List.flatten_append, List.length_append]
  exact Nat.le_add_right _ _
theorem seqs_bad {first : Int} {rs : List RecP} {k : Nat} (hk : k < rs.length) (h : rs[k].seq ≠ first + k) : seqsFrom first rs = false := by
  rw [← Bool.not_eq_true, seqsFrom_iff]
  exact fun h' => h (h' k hk)
set_option maxRecDepth 100000 in
set_option maxHeartbeats 4000000 in
theorem build17_go (D D2 : Nat → Prop) (index first : Int) (A A2 : Option Addr) (c m c2 : Nat) (pr : List UInt8) (rs : List RecP) (w : World) (hB : Bs w D A 32 pr) (_hnc : 32 ≤ c) (hR : Recs w D2 A2 m rs) (hf0 : 0 ≤ first)
    (h1 : ¬ index < 0) (h2 : ¬ 65535 < index) (h3 : ¬ 1099511627776 < first) (hm0 : m ≠ 0) (hfit : ¬ fitsIn 942 rs < m) (hm62 : m ≤ 62) (hr : ∀ r ∈ rs, recRight r = true) (hroom : (leavesOf rs).flatten.length ≤ 942) :
    Calls Tryz.prog 34 #[.int .i64 index, .int .u64 first, .slice A 32 c, .slice A2 m c2] w (BuildRet (if seqsFrom first rs = false then ([], 12) else (segBytes index first pr rs, 0)) w) := by
  have HL := Lib.hid hR.len
  have h5' : ((m : Int) == 0) = false := by simpa using hm0
  have h6' : ¬ ((fitsIn 942 rs : Nat) : Int) < (m : Int) := by omega
  have HF := Lib.hid (fun w' hN => fits17_any D2 A2 m c2 rs w' (hR.new (w' := w') hN) (by omega))
  have HR := Lib.hid (hR.imp (E := fun b => b < w.heap.size) fun b hb _ => hb)
  have HB := Lib.hid (hB.imp (E := fun b => b < w.heap.size) fun b hb _ => hb)
  have HRI := Lib.hid hr
  have HRO := Lib.hid hroom
  have HM0 := Lib.hid hm0
  clear hR hB hr hroom hm0 hfit
  generalize fitsIn 942 rs = fi at *
  obtain ⟨d, hd⟩ : ∃ d, d = (if seqsFrom first rs = false then (([] : List UInt8), (12 : Int)) else (segBytes index first pr rs, 0)) := ⟨_, rfl⟩
  rw [← hd]
  have HD := Lib.hid hd
  clear hd
  go_enter Tryz.func34, Tryz.ntmps34
  go_wp2_with fail
  refine (HF.out _ (New.refl _)).mono ?_
  rintro e w1 ⟨rfl, n0⟩
  go_wp2_with fail
  have HK1 := Lib.hid n0
  have hdf : decide (fi < m) = false := by simp; omega
  simp only [hdf]
  clear HF n0 hdf h6'
  go_loopw [10, 11] (fun s10 i wx => ∃ (k L : Nat) (A' : Option Addr) (c' : Nat) (bs : List UInt8), k ≤ m ∧ i = .int .i64 (k : Int) ∧ s10 = .slice A' L c' ∧ L ≤ 942 ∧ bs = (leavesOf (rs.take k)).flatten ∧ OwnB wx w.heap.size 5 A' L c' bs ∧ (∀ j (h : j < rs.length), j < k → rs[j].seq = first + j) ∧ New w wx) (fun _ i _ => m - (intOf i).toNat)
  case atStart => exact ⟨0, 0, none, 0, [], Nat.zero_le _, rfl, rfl, Nat.zero_le _, by simp [leavesOf], Own.nil _ _ _ _, fun j h hj => absurd hj (by omega), HK1.out⟩
  case round =>
    obtain ⟨k, L, A', c', bs, hk, rfl, rfl, hL, hbs, hown, hsq, hK⟩ := hrel
    have HBS := Lib.hid hbs
    have HSQ := Lib.hid hsq
    have HK := Lib.hid hK
    have HO := Lib.hid hown
    clear hbs hsq hK hown
    by_cases hlt : k < m
    · have hkl : k < rs.length := by have := HL.out; omega
      obtain ⟨b, off, B, d, rfl, hbb, u0, u1, u2, hbd, hbb2, hs0, hs1⟩ := (HR.out.new HK.out).at3' hkl
      have hri := HRI.out rs[k] (List.getElem_mem hkl)
      have hel : (recEnc rs[k]).length = 15 + rs[k].body.length := by rw [recEnc_size _ hri]; unfold recSize; rw [if_pos hri]
      have HMO := Lib.hid (leaves_more HRI.out hkl)
      have hpart := leaves_part rs (k + 1)
      rw [HMO.out, ← HBS.out, List.length_append, hel, show bs.length = L from by simpa using HO.out.1] at hpart
      have hL2 : L + (15 + rs[k].body.length) ≤ 942 := Nat.le_trans hpart HRO.out
      have HSB := Lib.hid (seqs_bad (first := first) hkl)
      have HSK : Hid (rs[k].seq = first + k → ∀ j (h : j < rs.length), j < k + 1 → rs[j].seq = first + j) := Lib.hid (by
        intro e j h hj
        by_cases hjk : j = k
        · subst hjk; exact e
        · exact HSQ.out j h (by omega))
      have HEN := Lib.hid (fun W (hW : New wr W) => encode16_any _ B rs[k].body.length d rs[k] W (hbb2.new hW) hbd (by omega) hs0 hs1)
      clear hpart hbb2 hri
      generalize rs[k] = r at *
      have hk1 : IntKind.u64.wrap (k : Int) = (k : Int) := by rw [IntKind.wrap_u64]; omega
      have hk2 : IntKind.u64.wrap (first + (k : Int)) = first + (k : Int) := by rw [IntKind.wrap_u64]; omega
      have HEL := Lib.hid hel
      clear hel
      by_cases hse : r.seq = first + k
      · have hse' : (r.seq != first + (k : Int)) = false := by simpa using hse
        have HSE := Lib.hid (HSK.out hse)
        clear hse HSB HSK
        go_wp2_with fail
        refine (HEN.out _ (New.refl _)).mono ?_
        rintro e w2 ⟨⟨A3, c3, rfl, o3⟩, hK2⟩
        have ho2 := Own.keepNew HO.out hK2
        have hb2 : L + (recEnc r).length ≤ 140737488355328 := by rw [HEL.out]; omega
        have hsz2 : w.heap.size ≤ w2.heap.size := Nat.le_trans HK.out.size hK2.size
        go_wp2_with (at_builtin; refine app_bytes _ rfl _ _ rfl w.heap.size A' L c' bs rfl ho2 _ A3 _ c3 _ rfl (Row.of_own o3) hb2 hsz2 ?_; intro A4 c4 w4 hown4 hg4 hbk4)
        go_roundw
        case rel => exact ⟨k + 1, L + (recEnc r).length, A4, c4, _, by omega, by go_num, rfl, by rw [HEL.out]; exact hL2, by rw [HBS.out, HMO.out], hown4, HSE.out, (HK.out.new hK2).grown hg4 (fun j hj _ => (own_lt ho2 j hj).1)⟩
        case measure => simp [intOf]; omega
      · have hse' : (r.seq != first + (k : Int)) = true := by simpa using hse
        have HSE := Lib.hid (HSB.out hse)
        clear hse HSB HSK
        go_wp2_with fail
        have hd := HD.out
        rw [if_pos HSE.out] at hd
        refine bodyPost_ret (v := .tuple #[.slice none 0 0, .int .i64 12]) (by simp [results, Tryz.results34, go_sem]) rfl ?_
        rw [hd]
        exact ⟨⟨none, 0, rfl, Own.nil _ _ _ _⟩, HK.out⟩
    · obtain rfl : k = m := by omega
      have hbl : bs = (leavesOf rs).flatten := by rw [HBS.out, List.take_of_length_le (by rw [HL.out]; exact Nat.le_refl _)]
      have hll : (leavesOf rs).flatten.length = L := by rw [← hbl]; simpa using HO.out.1
      have hseq : seqsFrom first rs = true := by rw [seqsFrom_iff]; exact fun j h => HSQ.out j h (by rw [← HL.out]; exact h)
      have hd := HD.out
      rw [if_neg (by rw [hseq]; decide)] at hd
      have HSEG : Hid (segBytes index first pr rs = [] ++ beI 2 index ++ beI 8 first ++ beI 2 (k : Int) ++ beI 2 (L : Int) ++ pr ++ rootOf (leavesOf rs) ++ be4 (crcSum ([] ++ beI 2 index ++ beI 8 first ++ beI 2 (k : Int) ++ beI 2 (L : Int) ++ pr ++ rootOf (leavesOf rs))) ++ bs ++ List.replicate (942 - L) 0) := Lib.hid (by
        unfold segBytes segHead
        rw [hll, hbl, HL.out]
        simp only [List.nil_append])
      have hlen : (segBytes index first pr rs).length = 1024 := segBytes_length index first pr rs (Bs.len HB.out) HRO.out
      have HLEN := Lib.hid hlen
      generalize segBytes index first pr rs = S at *
      subst hd
      have HBL := Lib.hid hbl
      clear hbl hll hseq hlen HSQ HBS HD
      have hsz : w.heap.size ≤ wr.heap.size := HK.out.size
      go_wp2_with fail
      refine (short4_any (fun _ => True) none 0 0 [] index wr (Row.nil _ _ _ _) (by decide)).mono ?_
      rintro e w2 ⟨⟨A2', d2, rfl, o2⟩, k2⟩
      have l2 : ([] ++ beI 2 index).length = 2 := by simp [beI_length]
      rw [l2] at o2 ⊢
      generalize [] ++ beI 2 index = b2 at *
      go_wp2_with fail
      refine (long4_any _ A2' 2 d2 b2 first w2 (Row.of_own o2) (by decide) hf0 (by omega)).mono ?_
      rintro e w3 ⟨⟨A3, d3, rfl, o3⟩, k3⟩
      have l3 : (b2 ++ beI 8 first).length = 10 := by rw [List.length_append, l2, beI_length]
      rw [l3] at o3 ⊢
      generalize b2 ++ beI 8 first = b3 at *
      clear l2 o2
      go_wp2_with fail
      refine (short4_any _ A3 10 d3 b3 (k : Int) w3 (Row.of_own o3) (by decide)).mono ?_
      rintro e w4 ⟨⟨A4, d4, rfl, o4⟩, k4⟩
      have l4 : (b3 ++ beI 2 (k : Int)).length = 12 := by rw [List.length_append, l3, beI_length]
      rw [l4] at o4 ⊢
      generalize b3 ++ beI 2 (k : Int) = b4 at *
      clear l3 o3
      go_wp2_with fail
      refine (short4_any _ A4 12 d4 b4 (L : Int) w4 (Row.of_own o4) (by decide)).mono ?_
      rintro e w5 ⟨⟨A5, d5, rfl, o5⟩, k5⟩
      have l5 : (b4 ++ beI 2 (L : Int)).length = 14 := by rw [List.length_append, l4, beI_length]
      rw [l5] at o5 ⊢
      generalize b4 ++ beI 2 (L : Int) = b5 at *
      clear l4 o4
      have K5 : New wr w5 := ((k2.new k3).new k4).new k5
      have ob5 := own_base (base := wr.heap.size) o5 ((k2.new k3).new k4).size
      have hbp := HB.out.new (HK.out.new K5)
      have HKL := Lib.hid (Keep.of_new (D := fun b => b < wr.heap.size) K5)
      have hs5 : wr.heap.size ≤ w5.heap.size := K5.size
      clear o5 k2 k3 k4 k5 K5
      go_wp2_with (at_builtin; refine app_bytes _ rfl _ _ rfl wr.heap.size A5 14 d5 b5 rfl ob5 _ A 32 c pr rfl hbp (by decide) hs5 ?_; intro A6 d6 w6 o6 hg6 hbk6)
      have HK6 := Lib.hid (HKL.out.grown hg6 (fun j hj hd => absurd hd (by have := (own_lt ob5 j hj).1; show ¬ j < wr.heap.size; omega)))
      have hs6 : wr.heap.size ≤ w6.heap.size := HK6.out.size
      have hR6 := (HR.out.new HK.out).keep HK6.out (fun b _ hb => Nat.lt_of_lt_of_le hb hsz)
      clear ob5 hbp HKL hg6 hbk6
      refine (leaves17_any _ A2 k c2 rs w6 hR6 (by omega)).mono ?_
      rintro e w7 ⟨⟨A7, d7, rfl, o7⟩, k7⟩
      go_wp2_with fail
      refine (root6_any k _ A7 d7 (leavesOf rs) w7 o7.bss o7.cap (by have := HRO.out; omega) (by omega) o7.capMax).mono ?_
      rintro e w8 ⟨⟨A8, d8, rfl, o8⟩, k8⟩
      have ob8 := Own.keepNew (Own.keepNew o6 k7) k8
      have HK8 := Lib.hid ((HK6.out.new k7).new k8)
      have hs8 : wr.heap.size ≤ w8.heap.size := HK8.out.size
      have hb8 := Row.of_own o8
      clear hR6 o6 o7 k7 k8 o8 HK6
      generalize rootOf (leavesOf rs) = rt at *
      go_wp2_with (at_builtin; refine app_bytes _ rfl _ _ rfl wr.heap.size A6 (14 + 32) d6 _ rfl ob8 _ A8 32 d8 rt rfl hb8 (by decide) hs8 ?_; intro A9 d9 w9 o9 hg9 hbk9)
      have HK9 := Lib.hid (HK8.out.grown hg9 (fun j hj hd => absurd hd (by have := (own_lt ob8 j hj).1; show ¬ j < wr.heap.size; omega)))
      generalize b5 ++ pr ++ rt = b9 at *
      clear ob8 hb8 HK8 hg9 hbk9
      refine (sum3_any _ A9 (14 + 32 + 32) d9 b9 w9 (Row.of_own o9) (by decide)).mono ?_
      rintro e w' ⟨rfl, rfl⟩
      have l9 : b9.length = 78 := by simpa using o9.1
      generalize crcSum b9 = cs at *
      go_wp2_with fail
      refine (sum4_any _ A9 (14 + 32 + 32) d9 b9 cs w9 (Row.of_own o9) (by decide)).mono ?_
      rintro e w10 ⟨⟨A10, d10, rfl, o10⟩, k10⟩
      have l10 : (b9 ++ be4 cs).length = 82 := by rw [List.length_append, l9]; rfl
      rw [l10] at o10 ⊢
      generalize b9 ++ be4 cs = b10 at *
      have HK10 := Lib.hid (HK9.out.new k10)
      have hbody := (Row.of_own HO.out).imp (E := fun b => b < wr.heap.size) (fun b hb _ => hb)
      have hb10 := Row.keep hbody HK10.out (fun _ _ h => h)
      have ob10 := own_base (base := wr.heap.size) o10 HK9.out.size
      have hs10 : wr.heap.size ≤ w10.heap.size := HK10.out.size
      have hbd : 82 + L ≤ 140737488355328 := by omega
      clear o9 o10 k10 HK9 hbody
      have hx : Value.int .i64 (1024 - (82 + (L : Int))) = Value.int .i64 ((942 - L : Nat) : Int) := congrArg (Value.int .i64) (by omega)
      have hbz : 82 + L + (942 - L) ≤ 1099511627776 := by omega
      go_wp2_with (first
        | (at_builtin; refine app_bytes _ rfl _ _ rfl wr.heap.size A10 82 d10 _ rfl ob10 _ A' L c' bs rfl hb10 hbd hs10 ?_; intro A11 d11 w11 o11 hg11 hbk11; have hs11 : wr.heap.size ≤ w11.heap.size := Nat.le_trans hs10 hg11.size)
        | (at_builtin; refine app_zeros _ rfl _ _ rfl wr.heap.size A11 (82 + L) d11 (942 - L) _ rfl o11 hx hbz hs11 ?_; intro A12 d12 w12 o12 hg12 hbk12))
      have hfin := (HK10.out.grown hg11 (fun j hj hd => absurd hd (by have := (own_lt ob10 j hj).1; show ¬ j < wr.heap.size; omega))).grown hg12 (fun j hj hd => absurd hd (by have := (own_lt o11 j hj).1; show ¬ j < wr.heap.size; omega))
      have hK : New w w12 := (Keep.trans2 (D := fun b => b < w.heap.size) (Keep.of_new HK.out) hfin (fun i hi _ => Nat.lt_of_lt_of_le hi hsz)).toNew (fun i hi => hi)
      have hl : 82 + L + (942 - L) = S.length := by rw [HLEN.out]; omega
      have ho := own_base (base := w.heap.size) o12 hsz
      rw [← HSEG.out, hl] at ho
      refine bodyPost_ret (v := .tuple #[.slice A12 (82 + L + (942 - L)) d12, .int .i64 0]) (by simp [results, Tryz.results34, go_sem]) rfl ?_
      rw [hl]
      exact ⟨⟨A12, d12, rfl, ho⟩, hK⟩
theorem build17_any (D D2 : Nat → Prop) (index first : Int) (A A2 : Option Addr) (c m c2 : Nat) (pr : List UInt8) (rs : List RecP) (w : World) (hB : Bs w D A pr.length pr) (hnc : pr.length ≤ c) (hR : Recs w D2 A2 m rs) (hm : m ≤ 9223372036854775807) (hf0 : 0 ≤ first) :
    Calls Tryz.prog 34 #[.int .i64 index, .int .u64 first, .slice A pr.length c, .slice A2 m c2] w (BuildRet (buildOf index first pr rs) w) := by
  cases h : buildArgs index first pr.length rs
  · refine (build17_arg D D2 index first A A2 pr.length c m c2 rs w hR hm h).mono ?_
    rintro e w' ⟨rfl, hK⟩
    unfold buildOf
    rw [if_pos h]
    exact ⟨⟨none, 0, rfl, Own.nil _ _ _ _⟩, hK⟩
  · have hl := hR.len
    have h' := h
    unfold buildArgs at h'
    rw [decide_eq_true_eq] at h'
    obtain ⟨h1, h2, h3, h4, h5, h6⟩ := h'
    obtain ⟨g1, g2, g3⟩ := fits_all _ _ h6
    unfold buildOf
    rw [if_neg (by rw [h]; decide)]
    rw [h4] at hB hnc ⊢
    exact build17_go D D2 index first A A2 c m c2 pr rs w hB hnc hR hf0 (by omega) (by omega) (by omega) (by omega) (by omega) (by omega) g1 g2
end Go.Proofs.YtpbbfbgmpidgnaaGreatDoor
