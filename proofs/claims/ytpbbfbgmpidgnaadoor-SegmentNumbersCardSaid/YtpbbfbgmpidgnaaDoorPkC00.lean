/-
  PROVED HERE: the law SegmentNumbers answers true; no condition.
-/
import Derived.Deep.CutBlock
import Derived.Deep.CutRange
import Derived.Deep.Light
import Derived.Test.YtpbbfbgmpidgnaaDoorPkS00
import Derived.Test.YtpbbfbgmpidgnaaDoorPkS11
import Derived.Test.YtpbbfbgmpidgnaaDoorPkS18
import Derived.Test.YtpbbfbgmpidgnaaDoorPkS25
import Derived.Test.YtpbbfbgmpidgnaaDoorPkS27
import Derived.Test.YtpbbfbgmpidgnaaDoorPkS30
import Derived.Test.YtpbbfbgmpidgnaaDoorPkS31
namespace Go.Proofs.YtpbbfbgmpidgnaaDoor
open Go.RowKit

def zs (n : Nat) : Array Value := madeCells #[.int .u8 0] n
theorem zs_list (n : Nat) : (zs n).toList = (List.replicate n (0 : UInt8)).map byteVal := by unfold zs; rw [toList_madeCells_one, List.map_replicate]; rfl
theorem zs_size (n : Nat) : (zs n).size = n * 1 := by unfold zs; rw [size_madeCells, Nat.mul_one]
theorem make_zs (n : Nat) (hn : n ≤ 2000) (w : World) : (Instr.makeSlice 24 (.int .i64 (n : Int)) (.int .i64 (n : Int))).run Tryd.prog w = .ok (.slice (some ⟨w.heap.size, 0, none⟩) n n) (w.alloc (.cells (zs n) 5)) := by
  obtain ⟨i, hi, hz0, hz1, hz2⟩ := info_parts info_u8
  have h := run_makeSlice (P := Tryd.prog) w 24 5 i (.int .u8 0) Tryd.underlying24 hi hz0 .i64 .i64 (n : Int) (n : Int) (by omega) (Int.le_refl _) (by rw [hz1]; omega) (by rw [hz2]; omega) (by omega)
  rw [hz1, Nat.mul_one, Int.toNat_natCast] at h
  exact h
theorem zs_bs (n : Nat) (w : World) : Bs (w.alloc (.cells (zs n) 5)) (fun b => w.heap.size ≤ b) (some ⟨w.heap.size, 0, none⟩) n (List.replicate n (0 : UInt8)) := by
  have h := Row.made w 5 (zs n) n 1 (zs_size n)
  rw [zs_list] at h
  exact h
theorem size_at : ∀ k, k < 10 → ∃ n : Nat, n ≤ 2000 ∧ ([.int .i64 0, .int .i64 1, .int .i64 5, .int .i64 441, .int .i64 442, .int .i64 443, .int .i64 444, .int .i64 899, .int .i64 900, .int .i64 901] : List Value)[k]? = some (.int .i64 (n : Int)) := by
  intro k hk
  have h : k = 0 ∨ k = 1 ∨ k = 2 ∨ k = 3 ∨ k = 4 ∨ k = 5 ∨ k = 6 ∨ k = 7 ∨ k = 8 ∨ k = 9 := by omega
  rcases h with rfl | rfl | rfl | rfl | rfl | rfl | rfl | rfl | rfl | rfl
  · exact ⟨0, by decide, rfl⟩
  · exact ⟨1, by decide, rfl⟩
  · exact ⟨5, by decide, rfl⟩
  · exact ⟨441, by decide, rfl⟩
  · exact ⟨442, by decide, rfl⟩
  · exact ⟨443, by decide, rfl⟩
  · exact ⟨444, by decide, rfl⟩
  · exact ⟨899, by decide, rfl⟩
  · exact ⟨900, by decide, rfl⟩
  · exact ⟨901, by decide, rfl⟩
/-- the three records. -/
def recs3 (n : Nat) : List RecP := [⟨1, 7, (List.replicate n (0 : UInt8))⟩, ⟨1, 8, (List.replicate n (0 : UInt8))⟩, ⟨2, 9, []⟩]
theorem recs3_at {n : Nat} (hn : n ≤ 2000) {w : World} {D : Nat → Prop} {A B : Option Addr} (ba : Bs w D A n (List.replicate n (0 : UInt8))) (bb : Bs w D B n (List.replicate n (0 : UInt8))) : ∀ k (h : k < (recs3 n).length), RecAt9 w D [.int .i64 1, .int .u64 7, .slice A n n, .int .i64 1, .int .u64 8, .slice B n n, .int .i64 2, .int .u64 9, .slice none 0 0] (k * 3) (recs3 n)[k] := by
  have hl : (List.replicate n (0 : UInt8)).length = n := List.length_replicate
  intro k hk
  have hk3 : k = 0 ∨ k = 1 ∨ k = 2 := by
    have h3 : (recs3 n).length = 3 := rfl
    omega
  rcases hk3 with rfl | rfl | rfl
  · exact ⟨A, n, rfl, rfl, by show some _ = some (Value.slice A (List.replicate n (0 : UInt8)).length n); rw [hl], Nat.le_of_eq hl, by show Bs w D A (List.replicate n (0 : UInt8)).length (List.replicate n (0 : UInt8)); rw [hl]; exact ba, by show (0 : Int) ≤ 7; decide, by show (7 : Int) ≤ 18446744073709551615; decide, by omega⟩
  · exact ⟨B, n, rfl, rfl, by show some _ = some (Value.slice B (List.replicate n (0 : UInt8)).length n); rw [hl], Nat.le_of_eq hl, by show Bs w D B (List.replicate n (0 : UInt8)).length (List.replicate n (0 : UInt8)); rw [hl]; exact bb, by show (0 : Int) ≤ 8; decide, by show (8 : Int) ≤ 18446744073709551615; decide, by omega⟩
  · exact ⟨none, 0, rfl, rfl, rfl, Nat.le_refl _, Row.nil _ _ _ _, by show (0 : Int) ≤ 9; decide, by show (9 : Int) ≤ 18446744073709551615; decide, by decide⟩
theorem recs3_body {n : Nat} (hn : n ≤ 2000) : ∀ r ∈ recs3 n, r.body.length ≤ 9223372036854770000 := by
  unfold recs3
  simp only [List.forall_mem_cons, List.length_replicate, List.length_nil]
  exact ⟨by omega, by omega, by decide, by simp⟩
theorem recAt_of9 {w : World} {D : Nat → Prop} {vs : List Value} {i : Nat} {r : RecP} (h : RecAt9 w D vs i r) (hb : r.body.length ≤ 9223372036854770000) : RecAt w D vs i r := by
  obtain ⟨A, c, h1, h2, h3, h4, h5, h6, h7, h8⟩ := h
  exact ⟨A, c, h1, h2, h3, h4, h5, h6, h7, hb, h8⟩
theorem RecAt9.keepD {w w' : World} {D : Nat → Prop} {vs : List Value} {i : Nat} {r : RecP} (h : RecAt9 w D vs i r) (hk : New w w') : RecAt9 w' D vs i r := by
  obtain ⟨A, c, h1, h2, h3, h4, h5, h6⟩ := h
  exact ⟨A, c, h1, h2, h3, h4, h5.new hk, h6⟩
theorem row_tail {w : World} {D : Nat → Prop} {g : Nat} (h : Bs w D (some ⟨g, 0, none⟩) 32 (List.replicate 32 (0 : UInt8))) : Bs w (fun _ => True) (some ⟨g, 1, none⟩) 31 (List.replicate 31 (0 : UInt8)) :=
  (Row.from_ h (l := 1) (by decide)).imp fun _ _ _ => trivial
def ixOf : Nat → Int
  | 1 => -1
  | 2 => 65536
  | 6 => 65535
  | _ => 3
def fiOf : Nat → Int
  | 3 => 8
  | 5 => 1099511627777
  | _ => 7
def pvOf (g : Nat) : Nat → Value
  | 4 => .slice (some ⟨g, 1, none⟩) 31 31
  | _ => .slice (some ⟨g, 0, none⟩) 32 32
theorem seal_wrong : sealOf ⟨0, 0, 0, 0, [1], [2]⟩ = sealOf ⟨0, 0, 0, 0, [], []⟩ := by
  unfold sealOf
  rw [show sealRow ⟨0, 0, 0, 0, [1], [2]⟩ = sealRow ⟨0, 0, 0, 0, [], []⟩ from rfl]
set_option maxRecDepth 100000 in
set_option maxHeartbeats 4000000 in
theorem segnumbers_any (w : World) : Calls Tryd.prog 6 #[] w fun e w' => e = .returned (.bool true) ∧ New w w' := by
  have mk32 : ∀ W, (Instr.makeSlice 24 (.int .i64 32) (.int .i64 32)).run Tryd.prog W = .ok (.slice (some ⟨W.heap.size, 0, none⟩) 32 32) (W.alloc (.cells (zs 32) 5)) := fun W => make_zs 32 (by decide) W
  have HPV0 := Lib.hid ((zs_bs 32 w).alloc (.cells #[.int .i64 0, .int .i64 1, .int .i64 5, .int .i64 441, .int .i64 442, .int .i64 443, .int .i64 444, .int .i64 899, .int .i64 900, .int .i64 901] 3))
  have HIN0 := Lib.hid (Row.made (w.alloc (.cells (zs 32) 5)) 3 #[.int .i64 0, .int .i64 1, .int .i64 5, .int .i64 441, .int .i64 442, .int .i64 443, .int .i64 444, .int .i64 899, .int .i64 900, .int .i64 901] 10 1 rfl)
  have HN0 := Lib.hid ((((New.refl w).alloc (.cells (zs 32) 5))).alloc (.cells #[.int .i64 0, .int .i64 1, .int .i64 5, .int .i64 441, .int .i64 442, .int .i64 443, .int .i64 444, .int .i64 899, .int .i64 900, .int .i64 901] 3))
  rw [World.size_alloc] at HIN0
  go_enter Tryd.func6, Tryd.ntmps6
  go_wp2_with fail
  clear mk32
  generalize (w.alloc (.cells (zs 32) 5)).alloc (.cells #[.int .i64 0, .int .i64 1, .int .i64 5, .int .i64 441, .int .i64 442, .int .i64 443, .int .i64 444, .int .i64 899, .int .i64 900, .int .i64 901] 3) = w1 at *
  generalize w.heap.size = g0 at *
  go_loopw [19] (fun i wx => ∃ k : Nat, k ≤ 10 ∧ i = .int .i64 (k : Int) ∧ New w1 wx) (fun i _ => 10 - (intOf i).toNat)
  case atStart => exact ⟨0, by decide, rfl, New.refl _⟩
  case round =>
    obtain ⟨k, hk, rfl, hK⟩ := hrel
    by_cases hlt : k < 10
    · obtain ⟨n, hn, hv⟩ := size_at k hlt
      obtain ⟨b', off, hA', _, _, hcell⟩ := (Row.new HIN0.out hK).at_ (by decide)
      injection hA' with hA'
      injection hA' with hb' hof
      subst hb'
      subst hof
      have ux0 : wr.cell? ⟨g0 + 1, k, none⟩ = some (.int .i64 (n : Int)) := by
        have h := hcell k _ hv
        rw [Nat.zero_add] at h
        exact h
      have HPV := Lib.hid (HPV0.out.new hK)
      have HK := Lib.hid hK
      clear hK hv hcell
      have mkn : ∀ W, (Instr.makeSlice 24 (.int .i64 (n : Int)) (.int .i64 (n : Int))).run Tryd.prog W = .ok (.slice (some ⟨W.heap.size, 0, none⟩) n n) (W.alloc (.cells (zs n) 5)) := fun W => make_zs n hn W
      go_wp2_with fail
      refine hold_beginS (New wr.drew) (by kernel_rfl) ?_
      have n0 : New wr.drew wr.drew := New.refl _
      refine hold_read0 (i := 0) (v := ?_) n0 rfl (by kernel_rfl) (by kernel_rfl) (by kernel_rfl) (fun _ _ _ h => h) rfl ?_ ?_
      rotate_left
      · intro w' hN
        go_simp
        try with_reducible rfl
      simp only [Act.put, List.getElem_toArray, List.getElem_cons_zero, List.setIfInBounds_toArray, List.set_cons_zero, List.set_cons_succ]
      refine hold_read0 (i := 3) (v := ?_) n0 rfl (by kernel_rfl) (by kernel_rfl) (by kernel_rfl) (fun _ _ _ h => h) rfl ?_ ?_
      rotate_left
      · intro w' hN
        go_simp
        try with_reducible rfl
      simp only [Act.put, List.getElem_toArray, List.getElem_cons_succ, List.getElem_cons_zero, List.setIfInBounds_toArray, List.set_cons_zero, List.set_cons_succ]
      refine hold_read0 (i := 6) (v := ?_) n0 rfl (by kernel_rfl) (by kernel_rfl) (by kernel_rfl) (fun _ _ _ h => h) rfl ?_ ?_
      rotate_left
      · intro w' hN
        go_simp
        try with_reducible rfl
      simp only [Act.put, List.getElem_toArray, List.getElem_cons_succ, List.getElem_cons_zero, List.setIfInBounds_toArray, List.set_cons_zero, List.set_cons_succ]
      refine hold_meets (fuel2 := 2) (listed2 := #[true, true, true, true, true, true, true, false, false]) (C := fun a W T => ∃ ga gb : Nat, a = ({ tmps := #[u0, Value.slice (some { block := g0, off := 0 }) 32 32, undef, Value.int IntKind.i64 ↑n, u4, u5, u6, u7, u8, u9, u10, u11, u12, u13, u14, u15, Value.slice (some { block := g0, off := 0 }) 32 32, Value.slice (some { block := g0 + 1, off := 0 }) 10 10, Value.int IntKind.i64 10, Value.int IntKind.i64 ↑k, Value.bool true, Value.pointer (some { block := g0 + 1, off := k }), Value.int IntKind.i64 ↑n, Value.int IntKind.i64 ↑n, (.slice (some ⟨ga, 0, none⟩) n n), (.agg #[.int .i64 1, .int .u64 7, .slice (some ⟨ga, 0, none⟩) n n]), Value.int IntKind.i64 ↑n, (.slice (some ⟨gb, 0, none⟩) n n), (.agg #[.int .i64 1, .int .u64 8, .slice (some ⟨gb, 0, none⟩) n n]), Value.agg #[Value.int IntKind.i64 2, Value.int IntKind.u64 9, Value.slice none 0 0], u30, u31, u32, u33, u34, u35, u36, u37, u38, u39, u40, u41, u42, u43, u44, u45, u46, u47, u48, u49, u50, u51, u52, u53, u54, u55, u56, u57, u58, u59, u60, u61, u62, u63, u64, u65, u66, u67, u68, u69, u70, u71, u72, u73, u74, u75, u76, u77, u78, u79, u80, u81, u82, u83, u84, u85, u86, u87, u88, u89, u90, u91, u92, u93, u94, u95, u96, u97, u98, u99, u100, u101, u102, u103, u104, u105, u106, u107, u108, u109, u110, u111, u112, u113, u114, u115, u116, u117, u118, u119, u120, u121, u122, u123, u124, u125, u126, u127, u128, u129, u130, u131, u132, u133, u134, u135, u136, u137, u138, u139, u140, u141, u142, u143, undef, undef, undef, undef, undef, undef, undef, undef, undef, undef, undef, undef, undef, undef, undef, undef, undef, undef, undef, undef, undef, undef, undef], defers := [] } : Act) ∧ T = New wr.drew ∧ New wr.drew W ∧ Bs W (fun _ => True) (some ⟨ga, 0, none⟩) n (List.replicate n (0 : UInt8)) ∧ Bs W (fun _ => True) (some ⟨gb, 0, none⟩) n (List.replicate n (0 : UInt8))) ?_ (fun HJ => ?_)
      · rintro a wj T ⟨ga, gb, rfl, rfl, nj, ba, bb⟩
        refine hold_step0 (i := 7) (by kernel_rfl) rfl rfl (fun K hK => ?_)
        have kk := (New.refl wj).alloc (.cells #[.int .i64 1, .int .u64 7, .slice (some ⟨ga, 0, none⟩) n n, .int .i64 1, .int .u64 8, .slice (some ⟨gb, 0, none⟩) n n, .int .i64 2, .int .u64 9, .slice none 0 0] 43)
        go_simp
        go_wp2_with fail
        have n1 := nj.new kk
        refine hK.out _ _ n1 ?_
        clear hK K
        try simp only [List.setIfInBounds_toArray, List.set_cons_zero, List.set_cons_succ]
        refine hold_read0 (i := 8) (v := ?_) n1 rfl (by kernel_rfl) (by kernel_rfl) (by kernel_rfl) (fun _ _ _ h => h) rfl ?_ ?_
        rotate_left
        · intro w' hN
          go_simp
          try with_reducible rfl
        simp only [Act.put, List.getElem_toArray, List.getElem_cons_succ, List.getElem_cons_zero, List.setIfInBounds_toArray]
        refine wpAnyH_done (by kernel_rfl) ?_ _
        have HRW : Hid (Row (wj.alloc (.cells #[.int .i64 1, .int .u64 7, .slice (some ⟨ga, 0, none⟩) n n, .int .i64 1, .int .u64 8, .slice (some ⟨gb, 0, none⟩) n n, .int .i64 2, .int .u64 9, .slice none 0 0] 43)) (fun _ => True) (some ⟨wj.heap.size, 0, none⟩) 3 3 [.int .i64 1, .int .u64 7, .slice (some ⟨ga, 0, none⟩) n n, .int .i64 1, .int .u64 8, .slice (some ⟨gb, 0, none⟩) n n, .int .i64 2, .int .u64 9, .slice none 0 0]) := Lib.hid ((Row.made wj _ _ 3 3 rfl).imp fun _ _ _ => trivial)
        have HRA : Hid (∀ k (h : k < (recs3 n).length), RecAt9 (wj.alloc (.cells #[.int .i64 1, .int .u64 7, .slice (some ⟨ga, 0, none⟩) n n, .int .i64 1, .int .u64 8, .slice (some ⟨gb, 0, none⟩) n n, .int .i64 2, .int .u64 9, .slice none 0 0] 43)) (fun b => b < (wj.alloc (.cells #[.int .i64 1, .int .u64 7, .slice (some ⟨ga, 0, none⟩) n n, .int .i64 1, .int .u64 8, .slice (some ⟨gb, 0, none⟩) n n, .int .i64 2, .int .u64 9, .slice none 0 0] 43)).heap.size) [.int .i64 1, .int .u64 7, .slice (some ⟨ga, 0, none⟩) n n, .int .i64 1, .int .u64 8, .slice (some ⟨gb, 0, none⟩) n n, .int .i64 2, .int .u64 9, .slice none 0 0] (k * 3) (recs3 n)[k]) := Lib.hid (by
          have ba' := (ba.new kk).imp (E := fun b => b < (wj.alloc (.cells #[.int .i64 1, .int .u64 7, .slice (some ⟨ga, 0, none⟩) n n, .int .i64 1, .int .u64 8, .slice (some ⟨gb, 0, none⟩) n n, .int .i64 2, .int .u64 9, .slice none 0 0] 43)).heap.size) fun b hb _ => hb
          have bb' := (bb.new kk).imp (E := fun b => b < (wj.alloc (.cells #[.int .i64 1, .int .u64 7, .slice (some ⟨ga, 0, none⟩) n n, .int .i64 1, .int .u64 8, .slice (some ⟨gb, 0, none⟩) n n, .int .i64 2, .int .u64 9, .slice none 0 0] 43)).heap.size) fun b hb _ => hb
          exact recs3_at hn ba' bb')
        have HN5 : Hid (New w1 (wj.alloc (.cells #[.int .i64 1, .int .u64 7, .slice (some ⟨ga, 0, none⟩) n n, .int .i64 1, .int .u64 8, .slice (some ⟨gb, 0, none⟩) n n, .int .i64 2, .int .u64 9, .slice none 0 0] 43))) := Lib.hid (Keep.new (HK.out.drew) n1)
        have hrl : (recs3 n).length = 3 := rfl
        have HBD : Hid (∀ r ∈ recs3 n, r.body.length ≤ 9223372036854770000) := Lib.hid (recs3_body hn)
        have HPV5 := Lib.hid (HPV0.out.new HN5.out)
        clear ba bb n1 nj kk HPV HK ux0 mkn n0
        generalize wj.alloc (.cells #[.int .i64 1, .int .u64 7, .slice (some ⟨ga, 0, none⟩) n n, .int .i64 1, .int .u64 8, .slice (some ⟨gb, 0, none⟩) n n, .int .i64 2, .int .u64 9, .slice none 0 0] 43) = w5 at *
        generalize wj.heap.size = gl at *
        generalize recs3 n = rs at *
        generalize ([.int .i64 1, .int .u64 7, .slice (some ⟨ga, 0, none⟩) n n, .int .i64 1, .int .u64 8, .slice (some ⟨gb, 0, none⟩) n n, .int .i64 2, .int .u64 9, .slice none 0 0] : List Value) = vs at *
        generalize wr = wz at *
        go_wp2_with fail
        go_loopw [5, 6] (fun s5 i wx => ∃ (k2 : Nat) (A' : Option Addr) (c' : Nat), k2 ≤ 3 ∧ i = .int .i64 (k2 : Int) ∧ s5 = .slice A' k2 c' ∧ OwnRefs wx w5.heap.size (fun b => b < w5.heap.size) A' k2 c' (rs.take k2) ∧ New w5 wx) (fun _ i _ => 3 - (intOf i).toNat)
        case atStart => exact ⟨0, none, 0, Nat.zero_le _, rfl, rfl, OwnRefs.nil _ _ _, New.refl _⟩
        case round =>
          obtain ⟨k2, A', c', hk2, rfl, rfl, ho, hK⟩ := hrel
          have HO := Lib.hid ho
          have HK := Lib.hid hK
          clear ho hK
          by_cases hlt2 : k2 < 3
          · have hlk : k2 < rs.length := by omega
            obtain ⟨B0, c0, e0, e1, e2, l1, b1, f0, f1, c9⟩ := HRA.out k2 hlk
            obtain ⟨b', off, hA', _, hlw, hcell⟩ := HRW.out.at_ (by decide)
            injection hA' with hA'
            injection hA' with hb' hof
            subst hb'
            subst hof
            have hlw : gl < w5.heap.size := hlw
            have e0 := hcell _ _ e0
            have e1 := hcell _ _ e1
            have e2 := hcell _ _ e2
            rw [Nat.zero_add] at e0 e1 e2
            have HT : Hid (rs.take (k2 + 1) = rs.take k2 ++ [rs[k2]]) := Lib.hid (by rw [List.take_add_one, List.getElem?_eq_getElem hlk]; rfl)
            have hsz := HK.out.size
            have y0 : ∀ W, Keep (Lo w5.heap.size) wr.drew W → W.cell? ⟨gl, k2 * 3, none⟩ = some (.int .i64 rs[k2].kind) := fun W h => h.cell_some (a := wr.drew) (HK.out.cell_some e0 trivial) hlw
            have y1 : ∀ W, Keep (Lo w5.heap.size) wr.drew W → W.cell? ⟨gl, k2 * 3 + 1, none⟩ = some (.int .u64 rs[k2].seq) := fun W h => h.cell_some (a := wr.drew) (HK.out.cell_some e1 trivial) hlw
            have y2 : ∀ W, Keep (Lo w5.heap.size) wr.drew W → W.cell? ⟨gl, k2 * 3 + 2, none⟩ = some (.slice B0 rs[k2].body.length c0) := fun W h => h.cell_some (a := wr.drew) (HK.out.cell_some e2 trivial) hlw
            clear e0 e1 e2 hcell
            generalize rs[k2] = r at *
            have kA : New wr.drew (wr.drew.alloc (.cells #[.int .i64 r.kind, .int .u64 r.seq, .slice B0 r.body.length c0] 60)) := (New.refl _).alloc _
            have hrow : Row (wr.drew.alloc (.cells #[.int .i64 r.kind, .int .u64 r.seq, .slice B0 r.body.length c0] 60)) (fun b => wr.drew.heap.size ≤ b) (some ⟨wr.drew.heap.size, 0, none⟩) 1 3 [.int .i64 r.kind, .int .u64 r.seq, .slice B0 r.body.length c0] := Row.made wr.drew _ _ 1 3 rfl
            have HOA := Lib.hid (OwnRefs.new (OwnRefs.new HO.out ((New.refl wr).drew)) kA)
            have hwb : Bs (wr.drew.alloc (.cells #[.int .i64 r.kind, .int .u64 r.seq, .slice B0 r.body.length c0] 60)) (fun b => b < w5.heap.size ∧ some b ≠ blk A') B0 r.body.length r.body := (Row.new (Row.drew (b1.new HK.out)) kA).imp fun b _ hd => ⟨hd, fun e => by have := (HO.out.lt b e.symm).1; omega⟩
            have HIT : Hid (∀ k (hk : k < [r].length), RecAt9 (wr.drew.alloc (.cells #[.int .i64 r.kind, .int .u64 r.seq, .slice B0 r.body.length c0] 60)) (fun b => b < w5.heap.size ∧ some b ≠ blk A') [.int .i64 r.kind, .int .u64 r.seq, .slice B0 r.body.length c0] (k * 3) [r][k]) := Lib.hid fun k hk => by
              obtain rfl : k = 0 := by simpa using hk
              exact ⟨B0, c0, rfl, rfl, rfl, l1, hwb, f0, f1, c9⟩
            have hbd : k2 + 1 ≤ 1099511627776 := by omega
            have hsA : w5.heap.size ≤ (wr.drew.alloc (.cells #[.int .i64 r.kind, .int .u64 r.seq, .slice B0 r.body.length c0] 60)).heap.size := Nat.le_trans hsz kA.size
            clear b1 hwb
            go_wp2_with fail
            refine hold_beginS (Keep (Lo w5.heap.size) wr.drew) (by kernel_rfl) ?_
            have n0 : Keep (Lo w5.heap.size) wr.drew wr.drew := Keep.refl _ _
            refine hold_read0 (i := 0) (v := ?_) n0 rfl (by kernel_rfl) (by kernel_rfl) (by kernel_rfl) (fun _ _ _ h => h) rfl ?_ ?_
            rotate_left
            · intro w' hN
              go_simp
              try with_reducible rfl
            simp only [Act.put, List.getElem_toArray, List.getElem_cons_zero, List.setIfInBounds_toArray, List.set_cons_zero, List.set_cons_succ]
            refine hold_read0 (i := 1) (v := ?_) n0 rfl (by kernel_rfl) (by kernel_rfl) (by kernel_rfl) (fun _ _ _ h => h) rfl ?_ ?_
            rotate_left
            · intro w' hN
              go_simp
              try with_reducible rfl
            simp only [Act.put, List.getElem_toArray, List.getElem_cons_succ, List.getElem_cons_zero, List.setIfInBounds_toArray, List.set_cons_zero, List.set_cons_succ]
            refine hold_read0 (i := 2) (v := ?_) n0 rfl (by kernel_rfl) (by kernel_rfl) (by kernel_rfl) (fun _ _ _ h => h) rfl ?_ ?_
            rotate_left
            · intro w' hN
              go_simp
              try with_reducible rfl
            simp only [Act.put, List.getElem_toArray, List.getElem_cons_succ, List.getElem_cons_zero, List.setIfInBounds_toArray, List.set_cons_zero, List.set_cons_succ]
            refine hold_read0 (i := 3) (v := ?_) n0 rfl (by kernel_rfl) (by kernel_rfl) (by kernel_rfl) (fun _ _ _ h => h) rfl ?_ ?_
            rotate_left
            · intro w' hN
              go_simp
              try with_reducible rfl
            simp only [Act.put, List.getElem_toArray, List.getElem_cons_succ, List.getElem_cons_zero, List.setIfInBounds_toArray, List.set_cons_zero, List.set_cons_succ]
            refine hold_read0 (i := 4) (v := ?_) n0 rfl (by kernel_rfl) (by kernel_rfl) (by kernel_rfl) (fun _ _ _ h => h) rfl ?_ ?_
            rotate_left
            · intro w' hN
              go_simp
              try with_reducible rfl
            simp only [Act.put, List.getElem_toArray, List.getElem_cons_succ, List.getElem_cons_zero, List.setIfInBounds_toArray, List.set_cons_zero, List.set_cons_succ]
            refine hold_read0 (i := 5) (v := ?_) n0 rfl (by kernel_rfl) (by kernel_rfl) (by kernel_rfl) (fun _ _ _ h => h) rfl ?_ ?_
            rotate_left
            · intro w' hN
              go_simp
              try with_reducible rfl
            simp only [Act.put, List.getElem_toArray, List.getElem_cons_succ, List.getElem_cons_zero, List.setIfInBounds_toArray, List.set_cons_zero, List.set_cons_succ]
            refine hold_read0 (i := 6) (v := ?_) n0 rfl (by kernel_rfl) (by kernel_rfl) (by kernel_rfl) (fun _ _ _ h => h) rfl ?_ ?_
            rotate_left
            · intro w' hN
              go_simp
              try with_reducible rfl
            simp only [Act.put, List.getElem_toArray, List.getElem_cons_succ, List.getElem_cons_zero, List.setIfInBounds_toArray, List.set_cons_zero, List.set_cons_succ]
            refine hold_read0 (i := 7) (v := ?_) n0 rfl (by kernel_rfl) (by kernel_rfl) (by kernel_rfl) (fun _ _ _ h => h) rfl ?_ ?_
            rotate_left
            · intro w' hN
              go_simp
              try with_reducible rfl
            simp only [Act.put, List.getElem_toArray, List.getElem_cons_succ, List.getElem_cons_zero, List.setIfInBounds_toArray, List.set_cons_zero, List.set_cons_succ]
            refine hold_read0 (i := 8) (v := ?_) n0 rfl (by kernel_rfl) (by kernel_rfl) (by kernel_rfl) (fun _ _ _ h => h) rfl ?_ ?_
            rotate_left
            · intro w' hN
              go_simp
              try with_reducible rfl
            simp only [Act.put, List.getElem_toArray, List.getElem_cons_succ, List.getElem_cons_zero, List.setIfInBounds_toArray, List.set_cons_zero, List.set_cons_succ]
            refine hold_read0 (i := 9) (v := ?_) n0 rfl (by kernel_rfl) (by kernel_rfl) (by kernel_rfl) (fun _ _ _ h => h) rfl ?_ ?_
            rotate_left
            · intro w' hN
              go_simp
              try with_reducible rfl
            simp only [Act.put, List.getElem_toArray, List.getElem_cons_succ, List.getElem_cons_zero, List.setIfInBounds_toArray, List.set_cons_zero, List.set_cons_succ]
            refine hold_read0 (i := 10) (v := ?_) n0 rfl (by kernel_rfl) (by kernel_rfl) (by kernel_rfl) (fun _ _ _ h => h) rfl ?_ ?_
            rotate_left
            · intro w' hN
              go_simp
              try with_reducible rfl
            simp only [Act.put, List.getElem_toArray, List.getElem_cons_succ, List.getElem_cons_zero, List.setIfInBounds_toArray, List.set_cons_zero, List.set_cons_succ]
            refine hold_read0 (i := 11) (v := ?_) n0 rfl (by kernel_rfl) (by kernel_rfl) (by kernel_rfl) (fun _ _ _ h => h) rfl ?_ ?_
            rotate_left
            · intro w' hN
              go_simp
              try with_reducible rfl
            simp only [Act.put, List.getElem_toArray, List.getElem_cons_succ, List.getElem_cons_zero, List.setIfInBounds_toArray, List.set_cons_zero, List.set_cons_succ]
            refine hold_read0 (i := 12) (v := ?_) n0 rfl (by kernel_rfl) (by kernel_rfl) (by kernel_rfl) (fun _ _ _ h => h) rfl ?_ ?_
            rotate_left
            · intro w' hN
              go_simp
              try with_reducible rfl
            simp only [Act.put, List.getElem_toArray, List.getElem_cons_succ, List.getElem_cons_zero, List.setIfInBounds_toArray, List.set_cons_zero, List.set_cons_succ]
            refine hold_read0 (i := 13) (v := ?_) n0 rfl (by kernel_rfl) (by kernel_rfl) (by kernel_rfl) (fun _ _ _ h => h) rfl ?_ ?_
            rotate_left
            · intro w' hN
              go_simp
              try with_reducible rfl
            simp only [Act.put, List.getElem_toArray, List.getElem_cons_succ, List.getElem_cons_zero, List.setIfInBounds_toArray, List.set_cons_zero, List.set_cons_succ]
            refine hold_read0 (i := 14) (v := ?_) n0 rfl (by kernel_rfl) (by kernel_rfl) (by kernel_rfl) (fun _ _ _ h => h) rfl ?_ ?_
            rotate_left
            · intro w' hN
              go_simp
              try with_reducible rfl
            simp only [Act.put, List.getElem_toArray, List.getElem_cons_succ, List.getElem_cons_zero, List.setIfInBounds_toArray, List.set_cons_zero, List.set_cons_succ]
            refine hold_read0 (i := 15) (v := ?_) n0 rfl (by kernel_rfl) (by kernel_rfl) (by kernel_rfl) (fun _ _ _ h => h) rfl ?_ ?_
            rotate_left
            · intro w' hN
              go_simp
              try with_reducible rfl
            simp only [Act.put, List.getElem_toArray, List.getElem_cons_succ, List.getElem_cons_zero, List.setIfInBounds_toArray, List.set_cons_zero, List.set_cons_succ]
            refine hold_read0 (i := 16) (v := ?_) n0 rfl (by kernel_rfl) (by kernel_rfl) (by kernel_rfl) (fun _ _ _ h => h) rfl ?_ ?_
            rotate_left
            · intro w' hN
              go_simp
              try with_reducible rfl
            simp only [Act.put, List.getElem_toArray, List.getElem_cons_succ, List.getElem_cons_zero, List.setIfInBounds_toArray, List.set_cons_zero, List.set_cons_succ]
            refine hold_step0 (i := 17) (by kernel_rfl) rfl rfl (fun K hK => ?_)
            go_simp
            go_wp2_with fail
            have n1 := Keep.new n0 kA
            refine hK.out _ _ n1 ?_
            clear hK K
            try simp only [Act.put, List.getElem_toArray, List.getElem_cons_succ, List.getElem_cons_zero, List.setIfInBounds_toArray, List.set_cons_zero, List.set_cons_succ]
            replace n0 := n1
            clear n1
            refine hold_step0 (i := 18) (by kernel_rfl) rfl rfl (fun K hK => ?_)
            refine wp_refsM _ _ _ rfl w5.heap.size (fun b => b < w5.heap.size) A' k2 c' (rs.take k2) rfl HOA.out _ _ 1 1 _ [r] rfl hrow rfl HIT.out hbd hsA ?_
            intro A3 c3 w3 hown3 hg3 hbk3
            have n1 := n0.grown hg3 (fun j hj hd => absurd hd (by have := (HOA.out.lt j hj).1; show ¬ j < w5.heap.size; omega))
            refine hK.out _ _ n1 ?_
            clear hK K
            try simp only [Act.put, List.getElem_toArray, List.getElem_cons_succ, List.getElem_cons_zero, List.setIfInBounds_toArray, List.set_cons_zero, List.set_cons_succ]
            replace n0 := n1
            clear n1
            refine hold_read0 (i := 19) (v := ?_) n0 rfl (by kernel_rfl) (by kernel_rfl) (by kernel_rfl) (fun _ _ _ h => h) rfl ?_ ?_
            rotate_left
            · intro w' hN
              go_simp
              try with_reducible rfl
            simp only [Act.put, List.getElem_toArray, List.getElem_cons_succ, List.getElem_cons_zero, List.setIfInBounds_toArray, List.set_cons_zero, List.set_cons_succ]
            refine wpAnyH_done (by kernel_rfl) ?_ _
            have hK3 : New w5 w3 := (Keep.trans2 (D := fun b => b < w5.heap.size) (Keep.of_new HK.out).drew n0 (fun i _ hi => hi)).toNew (fun i hi => hi)
            clear y0 y1 y2 n0 hg3 hbk3 kA hrow
            go_wp2_with fail
            go_roundw
            case rel => exact ⟨k2 + 1, A3, c3, by omega, by go_num, rfl, by rw [HT.out]; exact hown3, hK3⟩
            case measure => simp [intOf]; omega
          · obtain rfl : k2 = 3 := by omega
            have ht : rs.take 3 = rs := List.take_of_length_le (by omega)
            rw [ht] at HO
            have HN6 := Lib.hid (HN5.out.new HK.out)
            have hc3 : 3 ≤ c' := HO.out.cap
            have hc39 := HO.out.capMax
            have HX : Hid (Recs wr (fun b => b < w5.heap.size) (some ⟨gl, 0, none⟩) 3 rs) := Lib.hid ⟨vs, Row.new (HRW.out.imp fun b hb _ => hb) HK.out, hrl, fun k hk => (recAt_of9 (HRA.out k hk) (HBD.out _ (List.getElem_mem hk))).keep HK.out (fun _ _ _ => trivial)⟩
            have HY : Hid (Recs wr _ A' 3 rs) := Lib.hid (HO.out.recs HBD.out)
            have HPV6 := Lib.hid (HPV5.out.new HK.out)
            clear HO HRW HRA HBD HPV5 HK ht
            generalize wr = w6 at *
            go_wp2_with fail
            go_loopw [7] (fun i wx => ∃ q : Nat, q ≤ 4 ∧ i = .int .i64 (q : Int) ∧ New w6 wx) (fun i _ => 4 - (intOf i).toNat)
            case atStart => exact ⟨0, by decide, rfl, New.refl _⟩
            case round =>
              obtain ⟨q, hq4, rfl, hK⟩ := hrel
              by_cases hq : q < 4
              · have hq3 : (q : Int) ≤ 3 := by omega
                have hqn : q ≤ 3 := by omega
                have HK := Lib.hid hK
                clear hK
                have hpv : (List.replicate 32 (0 : UInt8)).length = 32 := List.length_replicate
                have hpw : (List.replicate 31 (0 : UInt8)).length = 31 := List.length_replicate
                have bA := HPV6.out.new HK.out
                have bB : Bs wr (fun _ => True) (some ⟨g0, 1, none⟩) 31 (List.replicate 31 (0 : UInt8)) := row_tail bA
                have HB1 := fun ix f W (h0 : 0 ≤ f) (h : New wr W) => build_any _ _ ix f (some ⟨g0, 0, none⟩) (some ⟨gl, 0, none⟩) 32 q 3 (List.replicate 32 (0 : UInt8)) (rs.take q) W (by rw [hpv]; exact bA.new h) (by rw [hpv]; exact Nat.le_refl _) (((HX.out.new HK.out).new h).take hqn) (by omega) h0
                have HB2 := fun ix f W (h0 : 0 ≤ f) (h : New wr W) => build_any _ _ ix f (some ⟨g0, 1, none⟩) (some ⟨gl, 0, none⟩) 31 q 3 (List.replicate 31 (0 : UInt8)) (rs.take q) W (by rw [hpw]; exact bB.new h) (by rw [hpw]; exact Nat.le_refl _) (((HX.out.new HK.out).new h).take hqn) (by omega) h0
                have HB3 := fun ix f W (h0 : 0 ≤ f) (h : New wr W) => build17_any _ _ ix f (some ⟨g0, 0, none⟩) A' 32 q c' (List.replicate 32 (0 : UInt8)) (rs.take q) W (by rw [hpv]; exact bA.new h) (by rw [hpv]; exact Nat.le_refl _) (((HY.out.new HK.out).new h).take hqn) (by omega) h0
                have HB4 := fun ix f W (h0 : 0 ≤ f) (h : New wr W) => build17_any _ _ ix f (some ⟨g0, 1, none⟩) A' 31 q c' (List.replicate 31 (0 : UInt8)) (rs.take q) W (by rw [hpw]; exact bB.new h) (by rw [hpw]; exact Nat.le_refl _) (((HY.out.new HK.out).new h).take hqn) (by omega) h0
                rw [hpv] at HB1 HB3
                rw [hpw] at HB2 HB4
                replace HB1 := Lib.hid HB1
                replace HB2 := Lib.hid HB2
                replace HB3 := Lib.hid HB3
                replace HB4 := Lib.hid HB4
                have HFA := Lib.hid (fun W (h : New wr W) => fits_any _ (some ⟨gl, 0, none⟩) q 3 (rs.take q) W (((HX.out.new HK.out).new h).take hqn) (by omega))
                have HFB := Lib.hid (fun W (h : New wr W) => fits17_any _ A' q c' (rs.take q) W (((HY.out.new HK.out).new h).take hqn) (by omega))
                have HLA := Lib.hid (fun W (h : New wr W) => leaves_any _ (some ⟨gl, 0, none⟩) q 3 (rs.take q) W (((HX.out.new HK.out).new h).take hqn) (by omega))
                have HLB := Lib.hid (fun W (h : New wr W) => leaves17_any _ A' q c' (rs.take q) W (((HY.out.new HK.out).new h).take hqn) (by omega))
                have HT : Hid (∀ h, h < 7 → ∃ z s, (∀ W, New wr W → Calls Tryd.prog 11 #[.int .i64 (ixOf h), .int .u64 (fiOf h), pvOf g0 h, .slice (some ⟨gl, 0, none⟩) q 3] W (BuildRet (z, s) W)) ∧ (∀ W, New wr W → Calls Tryd.prog 24 #[.int .i64 (ixOf h), .int .u64 (fiOf h), pvOf g0 h, .slice A' q c'] W (BuildRet (z, s) W))) := Lib.hid fun h hh => by
                  have hcs : h = 0 ∨ h = 1 ∨ h = 2 ∨ h = 3 ∨ h = 4 ∨ h = 5 ∨ h = 6 := by omega
                  rcases hcs with rfl | rfl | rfl | rfl | rfl | rfl | rfl
                  · exact ⟨(buildOf 3 7 (List.replicate 32 (0 : UInt8)) (rs.take q)).1, (buildOf 3 7 (List.replicate 32 (0 : UInt8)) (rs.take q)).2, fun W h => HB1.out 3 7 W (by decide) h, fun W h => HB3.out 3 7 W (by decide) h⟩
                  · exact ⟨(buildOf (-1) 7 (List.replicate 32 (0 : UInt8)) (rs.take q)).1, (buildOf (-1) 7 (List.replicate 32 (0 : UInt8)) (rs.take q)).2, fun W h => HB1.out (-1) 7 W (by decide) h, fun W h => HB3.out (-1) 7 W (by decide) h⟩
                  · exact ⟨(buildOf 65536 7 (List.replicate 32 (0 : UInt8)) (rs.take q)).1, (buildOf 65536 7 (List.replicate 32 (0 : UInt8)) (rs.take q)).2, fun W h => HB1.out 65536 7 W (by decide) h, fun W h => HB3.out 65536 7 W (by decide) h⟩
                  · exact ⟨(buildOf 3 8 (List.replicate 32 (0 : UInt8)) (rs.take q)).1, (buildOf 3 8 (List.replicate 32 (0 : UInt8)) (rs.take q)).2, fun W h => HB1.out 3 8 W (by decide) h, fun W h => HB3.out 3 8 W (by decide) h⟩
                  · exact ⟨(buildOf 3 7 (List.replicate 31 (0 : UInt8)) (rs.take q)).1, (buildOf 3 7 (List.replicate 31 (0 : UInt8)) (rs.take q)).2, fun W h => HB2.out 3 7 W (by decide) h, fun W h => HB4.out 3 7 W (by decide) h⟩
                  · exact ⟨(buildOf 3 1099511627777 (List.replicate 32 (0 : UInt8)) (rs.take q)).1, (buildOf 3 1099511627777 (List.replicate 32 (0 : UInt8)) (rs.take q)).2, fun W h => HB1.out 3 1099511627777 W (by decide) h, fun W h => HB3.out 3 1099511627777 W (by decide) h⟩
                  · exact ⟨(buildOf 65535 7 (List.replicate 32 (0 : UInt8)) (rs.take q)).1, (buildOf 65535 7 (List.replicate 32 (0 : UInt8)) (rs.take q)).2, fun W h => HB1.out 65535 7 W (by decide) h, fun W h => HB3.out 65535 7 W (by decide) h⟩
                generalize hrq : rs.take q = rq at *
                clear hrq bA bB hpv hpw HB1 HB2 HB3 HB4
                have hqc : (q : Int) ≤ c' := by omega
                generalize fitsIn 942 rq = ft at *
                generalize leavesOf rq = lv at *
                generalize wr = w7 at *
                go_wp2_with fail
                go_loopw [8] (fun i wx => ∃ h : Nat, h ≤ 7 ∧ i = .int .i64 (h : Int) ∧ New w7 wx) (fun i _ => 7 - (intOf i).toNat)
                case atStart => exact ⟨0, by decide, rfl, New.refl _⟩
                case round =>
                  obtain ⟨hw, hh7, rfl, hK⟩ := hrel
                  by_cases h7 : hw < 7
                  · have hcs : hw = 0 ∨ hw = 1 ∨ hw = 2 ∨ hw = 3 ∨ hw = 4 ∨ hw = 5 ∨ hw = 6 := by omega
                    have HK8 := Lib.hid hK
                    clear hh7
                    go_upto_block 8 with fail
                    go_cut [8, 9, 10, 11] from 60 to 142 (fun s8 s9 s10 s11 wx => ∃ h : Nat, h < 7 ∧ h = hw ∧ s8 = .int .i64 (h : Int) ∧ s9 = .int .i64 (ixOf h) ∧ s10 = .int .u64 (fiOf h) ∧ s11 = pvOf g0 h ∧ wr = wx)
                    case first =>
                      clear HK8 hK HT
                      rcases hcs with rfl | rfl | rfl | rfl | rfl | rfl | rfl
                      all_goals
                        go_wp2_with fail
                        go_meet
                      · exact ⟨0, by decide, rfl, rfl, rfl, rfl, rfl, rfl⟩
                      · exact ⟨1, by decide, rfl, rfl, rfl, rfl, rfl, rfl⟩
                      · exact ⟨2, by decide, rfl, rfl, rfl, rfl, rfl, rfl⟩
                      · exact ⟨3, by decide, rfl, rfl, rfl, rfl, rfl, rfl⟩
                      · exact ⟨4, by decide, rfl, rfl, rfl, rfl, rfl, rfl⟩
                      · exact ⟨5, by decide, rfl, rfl, rfl, rfl, rfl, rfl⟩
                      · exact ⟨6, by decide, rfl, rfl, rfl, rfl, rfl, rfl⟩
                    case rest =>
                      obtain ⟨h', hh', rfl, rfl, rfl, rfl, rfl, rfl⟩ := hcut
                      obtain ⟨z, s, HA, HB⟩ := HT.out h' hh'
                      clear hK hcs
                      replace HA := Lib.hid HA
                      replace HB := Lib.hid HB
                      go_wp2_with fail
                      refine (HA.out _ HK8.out).mono ?_
                      rintro e w9 ⟨⟨Z1, zc1, rfl, p9⟩, k9⟩
                      dsimp only at p9 ⊢
                      go_wp2_with fail
                      refine (HB.out w9 (HK8.out.new k9)).mono ?_
                      rintro e w10 ⟨⟨Z2, zc2, rfl, p10⟩, k10⟩
                      dsimp only at p10 ⊢
                      have K10 := (HK8.out.new k9).new k10
                      have v1 := fun W (h : New w10 W) => run_str (c := zc1) (Row.of_own (Own.keepNew (Own.keepNew p9 k10) h))
                      have v2 := fun W (h : New w10 W) => run_str (c := zc2) (Row.of_own (Own.keepNew p10 h))
                      have HZ := Lib.hid (fun W (h : New w10 W) => readlaw_any _ Z2 z.length zc2 z W (Row.of_own (Own.keepNew p10 h)) (own_cap p10) (own_capMax p10))
                      clear HA HB p9 p10 k9 k10
                      go_upto_region 33 with fail
                      go_cut [142] from 60 to 142 (fun s142 wx => s142 = .bool false ∧ New w7 wx)
                      case first =>
                        rename_i hmet
                        revert hmet
                        go_light
                        intro hmet
                        by_cases hz : z.length = 0
                        · have hz0 : decide (0 < z.length) = false := decide_eq_false (by omega)
                          clear hz
                          refine hold_begin (by kernel_rfl) ?_
                          have n0 : New w10 w10.drew := (New.refl w10).drew
                          replace v1 := fun W (hW : New w10.drew W) => v1 W (Keep.new n0 hW)
                          replace v2 := fun W (hW : New w10.drew W) => v2 W (Keep.new n0 hW)
                          refine hold_read (i := 0) (v := ?_) rfl (by kernel_rfl) (by kernel_rfl) (by kernel_rfl) (fun _ _ _ h => h) rfl ?_ ?_
                          rotate_left
                          · intro w' hN
                            go_simp
                            try with_reducible rfl
                          simp only [Act.put, List.getElem_toArray, List.setIfInBounds_toArray]
                          refine hold_read (i := 1) (v := ?_) rfl (by kernel_rfl) (by kernel_rfl) (by kernel_rfl) (fun _ _ _ h => h) rfl ?_ ?_
                          rotate_left
                          · intro w' hN
                            go_simp
                            try with_reducible rfl
                          simp only [Act.put, List.getElem_toArray, List.getElem_cons_succ, List.getElem_cons_zero, List.setIfInBounds_toArray, List.set_cons_zero, List.set_cons_succ]
                          refine hold_read (i := 2) (v := ?_) rfl (by kernel_rfl) (by kernel_rfl) (by kernel_rfl) (fun _ _ _ h => h) rfl ?_ ?_
                          rotate_left
                          · intro w' hN
                            go_simp
                            try with_reducible rfl
                          simp only [Act.put, List.getElem_toArray, List.getElem_cons_succ, List.getElem_cons_zero, List.setIfInBounds_toArray, List.set_cons_zero, List.set_cons_succ]
                          refine hold_read (i := 3) (v := ?_) rfl (by kernel_rfl) (by kernel_rfl) (by kernel_rfl) (fun _ _ _ h => h) rfl ?_ ?_
                          rotate_left
                          · intro w' hN
                            go_simp
                            try with_reducible rfl
                          simp only [Act.put, List.getElem_toArray, List.getElem_cons_succ, List.getElem_cons_zero, List.setIfInBounds_toArray, List.set_cons_zero, List.set_cons_succ]
                          refine hold_read (i := 4) (v := ?_) rfl (by kernel_rfl) (by kernel_rfl) (by kernel_rfl) (fun _ _ _ h => h) rfl ?_ ?_
                          rotate_left
                          · intro w' hN
                            go_simp
                            try with_reducible rfl
                          simp only [Act.put, List.getElem_toArray, List.getElem_cons_succ, List.getElem_cons_zero, List.setIfInBounds_toArray, List.set_cons_zero, List.set_cons_succ]
                          refine hold_read (i := 5) (v := ?_) rfl (by kernel_rfl) (by kernel_rfl) (by kernel_rfl) (fun _ _ _ h => h) rfl ?_ ?_
                          rotate_left
                          · intro w' hN
                            go_simp
                            try with_reducible rfl
                          simp only [Act.put, List.getElem_toArray, List.getElem_cons_succ, List.getElem_cons_zero, List.setIfInBounds_toArray, List.set_cons_zero, List.set_cons_succ]
                          refine hold_read (i := 6) (v := ?_) rfl (by kernel_rfl) (by kernel_rfl) (by kernel_rfl) (fun _ _ _ h => h) rfl ?_ ?_
                          rotate_left
                          · intro w' hN
                            go_simp
                            try with_reducible rfl
                          simp only [Act.put, List.getElem_toArray, List.getElem_cons_succ, List.getElem_cons_zero, List.setIfInBounds_toArray, List.set_cons_zero, List.set_cons_succ]
                          refine hold_read (i := 7) (v := ?_) rfl (by kernel_rfl) (by kernel_rfl) (by kernel_rfl) (fun _ _ _ h => h) rfl ?_ ?_
                          rotate_left
                          · intro w' hN
                            go_simp
                            try with_reducible rfl
                          simp only [Act.put, List.getElem_toArray, List.getElem_cons_succ, List.getElem_cons_zero, List.setIfInBounds_toArray, List.set_cons_zero, List.set_cons_succ]
                          refine hold_read (i := 8) (v := ?_) rfl (by kernel_rfl) (by kernel_rfl) (by kernel_rfl) (fun _ _ _ h => h) rfl ?_ ?_
                          rotate_left
                          · intro w' hN
                            go_simp
                            try with_reducible rfl
                          simp only [Act.put, List.getElem_toArray, List.getElem_cons_succ, List.getElem_cons_zero, List.setIfInBounds_toArray, List.set_cons_zero, List.set_cons_succ]
                          refine hold_read (i := 9) (v := ?_) rfl (by kernel_rfl) (by kernel_rfl) (by kernel_rfl) (fun _ _ _ h => h) rfl ?_ ?_
                          rotate_left
                          · intro w' hN
                            go_simp
                            try with_reducible rfl
                          simp only [Act.put, List.getElem_toArray, List.getElem_cons_succ, List.getElem_cons_zero, List.setIfInBounds_toArray, List.set_cons_zero, List.set_cons_succ]
                          refine hold_read (i := 10) (v := ?_) rfl (by kernel_rfl) (by kernel_rfl) (by kernel_rfl) (fun _ _ _ h => h) rfl ?_ ?_
                          rotate_left
                          · intro w' hN
                            go_simp
                            try with_reducible rfl
                          simp only [Act.put, List.getElem_toArray, List.getElem_cons_succ, List.getElem_cons_zero, List.setIfInBounds_toArray, List.set_cons_zero, List.set_cons_succ]
                          refine hold_read (i := 11) (v := ?_) rfl (by kernel_rfl) (by kernel_rfl) (by kernel_rfl) (fun _ _ _ h => h) rfl ?_ ?_
                          rotate_left
                          · intro w' hN
                            go_simp
                            try with_reducible rfl
                          simp only [Act.put, List.getElem_toArray, List.getElem_cons_succ, List.getElem_cons_zero, List.setIfInBounds_toArray, List.set_cons_zero, List.set_cons_succ]
                          refine hold_read (i := 12) (v := ?_) rfl (by kernel_rfl) (by kernel_rfl) (by kernel_rfl) (fun _ _ _ h => h) rfl ?_ ?_
                          rotate_left
                          · intro w' hN
                            go_simp
                            try with_reducible rfl
                          simp only [Act.put, List.getElem_toArray, List.getElem_cons_succ, List.getElem_cons_zero, List.setIfInBounds_toArray, List.set_cons_zero, List.set_cons_succ]
                          refine hold_read (i := 13) (v := ?_) rfl (by kernel_rfl) (by kernel_rfl) (by kernel_rfl) (fun _ _ _ h => h) rfl ?_ ?_
                          rotate_left
                          · intro w' hN
                            go_simp
                            try with_reducible rfl
                          simp only [Act.put, List.getElem_toArray, List.getElem_cons_succ, List.getElem_cons_zero, List.setIfInBounds_toArray, List.set_cons_zero, List.set_cons_succ]
                          refine hold_read (i := 15) (v := ?_) rfl (by kernel_rfl) (by kernel_rfl) (by kernel_rfl) (fun _ _ _ h => h) rfl ?_ ?_
                          rotate_left
                          · intro w' hN
                            go_simp
                            try with_reducible rfl
                          simp only [Act.put, List.getElem_toArray, List.getElem_cons_succ, List.getElem_cons_zero, List.setIfInBounds_toArray, List.set_cons_zero, List.set_cons_succ]
                          refine hold_read (i := 16) (v := ?_) rfl (by kernel_rfl) (by kernel_rfl) (by kernel_rfl) (fun _ _ _ h => h) rfl ?_ ?_
                          rotate_left
                          · intro w' hN
                            go_simp
                            try with_reducible rfl
                          simp only [Act.put, List.getElem_toArray, List.getElem_cons_succ, List.getElem_cons_zero, List.setIfInBounds_toArray, List.set_cons_zero, List.set_cons_succ]
                          refine hold_read (i := 17) (v := ?_) rfl (by kernel_rfl) (by kernel_rfl) (by kernel_rfl) (fun _ _ _ h => h) rfl ?_ ?_
                          rotate_left
                          · intro w' hN
                            go_simp
                            try with_reducible rfl
                          simp only [Act.put, List.getElem_toArray, List.getElem_cons_succ, List.getElem_cons_zero, List.setIfInBounds_toArray, List.set_cons_zero, List.set_cons_succ]
                          refine hold_step (i := 14) (by kernel_rfl) rfl rfl (fun K hK => ?_)
                          go_simp
                          refine (HFA.out _ (K10.new n0)).mono ?_
                          rintro e w11 ⟨rfl, k11⟩
                          go_wp2_with fail
                          refine hK.out _ _ k11 ?_
                          clear hK K
                          try simp only [Act.put, List.getElem_toArray, List.getElem_cons_succ, List.getElem_cons_zero, List.setIfInBounds_toArray, List.set_cons_zero, List.set_cons_succ]
                          replace n0 := Keep.new n0 k11
                          replace v1 := fun W (hW : New w11 W) => v1 W (Keep.new k11 hW)
                          replace v2 := fun W (hW : New w11 W) => v2 W (Keep.new k11 hW)
                          refine hold_step (i := 18) (by kernel_rfl) rfl rfl (fun K hK => ?_)
                          go_simp
                          refine (HFB.out _ (K10.new n0)).mono ?_
                          rintro e w12 ⟨rfl, k12⟩
                          go_wp2_with fail
                          refine hK.out _ _ k12 ?_
                          clear hK K
                          try simp only [Act.put, List.getElem_toArray, List.getElem_cons_succ, List.getElem_cons_zero, List.setIfInBounds_toArray, List.set_cons_zero, List.set_cons_succ]
                          replace n0 := Keep.new n0 k12
                          replace v1 := fun W (hW : New w12 W) => v1 W (Keep.new k12 hW)
                          replace v2 := fun W (hW : New w12 W) => v2 W (Keep.new k12 hW)
                          refine hold_read (i := 19) (v := ?_) rfl (by kernel_rfl) (by kernel_rfl) (by kernel_rfl) (fun _ _ _ h => h) rfl ?_ ?_
                          rotate_left
                          · intro w' hN
                            go_simp
                            try with_reducible rfl
                          simp only [Act.put, List.getElem_toArray, List.getElem_cons_succ, List.getElem_cons_zero, List.setIfInBounds_toArray, List.set_cons_zero, List.set_cons_succ]
                          refine hold_read (i := 20) (v := ?_) rfl (by kernel_rfl) (by kernel_rfl) (by kernel_rfl) (fun _ _ _ h => h) rfl ?_ ?_
                          rotate_left
                          · intro w' hN
                            go_simp
                            try with_reducible rfl
                          simp only [Act.put, List.getElem_toArray, List.getElem_cons_succ, List.getElem_cons_zero, List.setIfInBounds_toArray, List.set_cons_zero, List.set_cons_succ]
                          refine hold_read (i := 21) (v := ?_) rfl (by kernel_rfl) (by kernel_rfl) (by kernel_rfl) (fun _ _ _ h => h) rfl ?_ ?_
                          rotate_left
                          · intro w' hN
                            go_simp
                            try with_reducible rfl
                          simp only [Act.put, List.getElem_toArray, List.getElem_cons_succ, List.getElem_cons_zero, List.setIfInBounds_toArray, List.set_cons_zero, List.set_cons_succ]
                          refine hold_read (i := 22) (v := ?_) rfl (by kernel_rfl) (by kernel_rfl) (by kernel_rfl) (fun _ _ _ h => h) rfl ?_ ?_
                          rotate_left
                          · intro w' hN
                            go_simp
                            try with_reducible rfl
                          simp only [Act.put, List.getElem_toArray, List.getElem_cons_succ, List.getElem_cons_zero, List.setIfInBounds_toArray, List.set_cons_zero, List.set_cons_succ]
                          refine hold_read (i := 23) (v := ?_) rfl (by kernel_rfl) (by kernel_rfl) (by kernel_rfl) (fun _ _ _ h => h) rfl ?_ ?_
                          rotate_left
                          · intro w' hN
                            go_simp
                            try with_reducible rfl
                          simp only [Act.put, List.getElem_toArray, List.getElem_cons_succ, List.getElem_cons_zero, List.setIfInBounds_toArray, List.set_cons_zero, List.set_cons_succ]
                          refine hold_read (i := 24) (v := ?_) rfl (by kernel_rfl) (by kernel_rfl) (by kernel_rfl) (fun _ _ _ h => h) rfl ?_ ?_
                          rotate_left
                          · intro w' hN
                            go_simp
                            try with_reducible rfl
                          simp only [Act.put, List.getElem_toArray, List.getElem_cons_succ, List.getElem_cons_zero, List.setIfInBounds_toArray, List.set_cons_zero, List.set_cons_succ]
                          refine hold_read (i := 26) (v := ?_) rfl (by kernel_rfl) (by kernel_rfl) (by kernel_rfl) (fun _ _ _ h => h) rfl ?_ ?_
                          rotate_left
                          · intro w' hN
                            go_simp
                            try with_reducible rfl
                          simp only [Act.put, List.getElem_toArray, List.getElem_cons_succ, List.getElem_cons_zero, List.setIfInBounds_toArray, List.set_cons_zero, List.set_cons_succ]
                          refine hold_read (i := 27) (v := ?_) rfl (by kernel_rfl) (by kernel_rfl) (by kernel_rfl) (fun _ _ _ h => h) rfl ?_ ?_
                          rotate_left
                          · intro w' hN
                            go_simp
                            try with_reducible rfl
                          simp only [Act.put, List.getElem_toArray, List.getElem_cons_succ, List.getElem_cons_zero, List.setIfInBounds_toArray, List.set_cons_zero, List.set_cons_succ]
                          refine hold_read (i := 28) (v := ?_) rfl (by kernel_rfl) (by kernel_rfl) (by kernel_rfl) (fun _ _ _ h => h) rfl ?_ ?_
                          rotate_left
                          · intro w' hN
                            go_simp
                            try with_reducible rfl
                          simp only [Act.put, List.getElem_toArray, List.getElem_cons_succ, List.getElem_cons_zero, List.setIfInBounds_toArray, List.set_cons_zero, List.set_cons_succ]
                          refine hold_step (i := 25) (by kernel_rfl) rfl rfl (fun K hK => ?_)
                          go_simp
                          refine (HLA.out _ (K10.new n0)).mono ?_
                          rintro e w13 ⟨⟨L1, lc1, rfl, o13⟩, k13⟩
                          go_wp2_with fail
                          refine hK.out _ _ k13 ?_
                          clear hK K
                          try simp only [Act.put, List.getElem_toArray, List.getElem_cons_succ, List.getElem_cons_zero, List.setIfInBounds_toArray, List.set_cons_zero, List.set_cons_succ]
                          replace n0 := Keep.new n0 k13
                          replace v1 := fun W (hW : New w13 W) => v1 W (Keep.new k13 hW)
                          replace v2 := fun W (hW : New w13 W) => v2 W (Keep.new k13 hW)
                          refine hold_step (i := 29) (by kernel_rfl) rfl rfl (fun K hK => ?_)
                          go_simp
                          refine (HLB.out _ (K10.new n0)).mono ?_
                          rintro e w14 ⟨⟨L2, lc2, rfl, o14⟩, k14⟩
                          go_wp2_with fail
                          refine hK.out _ _ k14 ?_
                          clear hK K
                          try simp only [Act.put, List.getElem_toArray, List.getElem_cons_succ, List.getElem_cons_zero, List.setIfInBounds_toArray, List.set_cons_zero, List.set_cons_succ]
                          replace n0 := Keep.new n0 k14
                          replace v1 := fun W (hW : New w14 W) => v1 W (Keep.new k14 hW)
                          replace v2 := fun W (hW : New w14 W) => v2 W (Keep.new k14 hW)
                          refine hold_step (i := 30) (by kernel_rfl) rfl rfl (fun K hK => ?_)
                          go_simp
                          refine (lists_any _ _ L1 L2 q lc1 q lc2 lv lv _ (o13.new k14).bss o14.bss (by omega)).mono ?_
                          rintro e w15 ⟨he, k15⟩; rw [show decide (lv = lv) = true from by simp] at he; subst he
                          go_wp2_with fail
                          refine hK.out _ _ k15 ?_
                          clear hK K
                          try simp only [Act.put, List.getElem_toArray, List.getElem_cons_succ, List.getElem_cons_zero, List.setIfInBounds_toArray, List.set_cons_zero, List.set_cons_succ]
                          replace n0 := Keep.new n0 k15
                          replace v1 := fun W (hW : New w15 W) => v1 W (Keep.new k15 hW)
                          replace v2 := fun W (hW : New w15 W) => v2 W (Keep.new k15 hW)
                          refine hold_read (i := 31) (v := ?_) rfl (by kernel_rfl) (by kernel_rfl) (by kernel_rfl) (fun _ _ _ h => h) rfl ?_ ?_
                          rotate_left
                          · intro w' hN
                            go_simp
                            try with_reducible rfl
                          simp only [Act.put, List.getElem_toArray, List.getElem_cons_succ, List.getElem_cons_zero, List.setIfInBounds_toArray, List.set_cons_zero, List.set_cons_succ]
                          refine hold_read (i := 32) (v := ?_) rfl (by kernel_rfl) (by kernel_rfl) (by kernel_rfl) (fun _ _ _ h => h) rfl ?_ ?_
                          rotate_left
                          · intro w' hN
                            go_simp
                            try with_reducible rfl
                          simp only [Act.put, List.getElem_toArray, List.getElem_cons_succ, List.getElem_cons_zero, List.setIfInBounds_toArray, List.set_cons_zero, List.set_cons_succ]
                          refine hold_read (i := 33) (v := ?_) rfl (by kernel_rfl) (by kernel_rfl) (by kernel_rfl) (fun _ _ _ h => h) rfl ?_ ?_
                          rotate_left
                          · intro w' hN
                            go_simp
                            try with_reducible rfl
                          simp only [Act.put, List.getElem_toArray, List.getElem_cons_succ, List.getElem_cons_zero, List.setIfInBounds_toArray, List.set_cons_zero, List.set_cons_succ]
                          refine hold_read (i := 34) (v := ?_) rfl (by kernel_rfl) (by kernel_rfl) (by kernel_rfl) (fun _ _ _ h => h) rfl ?_ ?_
                          rotate_left
                          · intro w' hN
                            go_simp
                            try with_reducible rfl
                          simp only [Act.put, List.getElem_toArray, List.getElem_cons_succ, List.getElem_cons_zero, List.setIfInBounds_toArray, List.set_cons_zero, List.set_cons_succ]
                          refine hold_read (i := 35) (v := ?_) rfl (by kernel_rfl) (by kernel_rfl) (by kernel_rfl) (fun _ _ _ h => h) rfl ?_ ?_
                          rotate_left
                          · intro w' hN
                            go_simp
                            try with_reducible rfl
                          simp only [Act.put, List.getElem_toArray, List.getElem_cons_succ, List.getElem_cons_zero, List.setIfInBounds_toArray, List.set_cons_zero, List.set_cons_succ]
                          refine hold_read (i := 36) (v := ?_) rfl (by kernel_rfl) (by kernel_rfl) (by kernel_rfl) (fun _ _ _ h => h) rfl ?_ ?_
                          rotate_left
                          · intro w' hN
                            go_simp
                            try with_reducible rfl
                          simp only [Act.put, List.getElem_toArray, List.getElem_cons_succ, List.getElem_cons_zero, List.setIfInBounds_toArray, List.set_cons_zero, List.set_cons_succ]
                          refine hold_read (i := 37) (v := ?_) rfl (by kernel_rfl) (by kernel_rfl) (by kernel_rfl) (fun _ _ _ h => h) rfl ?_ ?_
                          rotate_left
                          · intro w' hN
                            go_simp
                            try with_reducible rfl
                          simp only [Act.put, List.getElem_toArray, List.getElem_cons_succ, List.getElem_cons_zero, List.setIfInBounds_toArray, List.set_cons_zero, List.set_cons_succ]
                          refine hold_skip (i := 38) rfl (by kernel_rfl) (by kernel_rfl) (by kernel_rfl) (fun _ _ _ h => h) rfl ?_
                          simp only [Act.put, List.getElem_toArray, List.getElem_cons_succ, List.getElem_cons_zero, List.setIfInBounds_toArray, List.set_cons_zero, List.set_cons_succ]
                          refine hold_skip (i := 39) rfl (by kernel_rfl) (by kernel_rfl) (by kernel_rfl) (fun _ _ _ h => h) rfl ?_
                          simp only [Act.put, List.getElem_toArray, List.getElem_cons_succ, List.getElem_cons_zero, List.setIfInBounds_toArray, List.set_cons_zero, List.set_cons_succ]
                          refine hold_skip (i := 40) rfl (by kernel_rfl) (by kernel_rfl) (by kernel_rfl) (fun _ _ _ h => h) rfl ?_
                          simp only [Act.put, List.getElem_toArray, List.getElem_cons_succ, List.getElem_cons_zero, List.setIfInBounds_toArray, List.set_cons_zero, List.set_cons_succ]
                          refine hold_read (i := 41) (v := ?_) rfl (by kernel_rfl) (by kernel_rfl) (by kernel_rfl) (fun _ _ _ h => h) rfl ?_ ?_
                          rotate_left
                          · intro w' hN
                            go_simp
                            try with_reducible rfl
                          simp only [Act.put, List.getElem_toArray, List.getElem_cons_succ, List.getElem_cons_zero, List.setIfInBounds_toArray, List.set_cons_zero, List.set_cons_succ]
                          refine hold_read (i := 42) (v := ?_) rfl (by kernel_rfl) (by kernel_rfl) (by kernel_rfl) (fun _ _ _ h => h) rfl ?_ ?_
                          rotate_left
                          · intro w' hN
                            go_simp
                            try with_reducible rfl
                          simp only [Act.put, List.getElem_toArray, List.getElem_cons_succ, List.getElem_cons_zero, List.setIfInBounds_toArray, List.set_cons_zero, List.set_cons_succ]
                          refine wpAnyH_done (by kernel_rfl) ?_ _
                          have K15 := K10.new n0
                          go_wp2_with fail
                          go_meet
                          exact ⟨rfl, K15⟩
                        · have hz0 : decide (0 < z.length) = true := decide_eq_true (by omega)
                          clear hz
                          refine hold_begin (by kernel_rfl) ?_
                          have n0 : New w10 w10.drew := (New.refl w10).drew
                          replace v1 := fun W (hW : New w10.drew W) => v1 W (Keep.new n0 hW)
                          replace v2 := fun W (hW : New w10.drew W) => v2 W (Keep.new n0 hW)
                          refine hold_read (i := 0) (v := ?_) rfl (by kernel_rfl) (by kernel_rfl) (by kernel_rfl) (fun _ _ _ h => h) rfl ?_ ?_
                          rotate_left
                          · intro w' hN
                            go_simp
                            try with_reducible rfl
                          simp only [Act.put, List.getElem_toArray, List.getElem_cons_zero, List.setIfInBounds_toArray, List.set_cons_zero, List.set_cons_succ]
                          refine hold_read (i := 1) (v := ?_) rfl (by kernel_rfl) (by kernel_rfl) (by kernel_rfl) (fun _ _ _ h => h) rfl ?_ ?_
                          rotate_left
                          · intro w' hN
                            go_simp
                            try with_reducible rfl
                          simp only [Act.put, List.getElem_toArray, List.getElem_cons_succ, List.getElem_cons_zero, List.setIfInBounds_toArray, List.set_cons_zero, List.set_cons_succ]
                          refine hold_read (i := 2) (v := ?_) rfl (by kernel_rfl) (by kernel_rfl) (by kernel_rfl) (fun _ _ _ h => h) rfl ?_ ?_
                          rotate_left
                          · intro w' hN
                            go_simp
                            try with_reducible rfl
                          simp only [Act.put, List.getElem_toArray, List.getElem_cons_succ, List.getElem_cons_zero, List.setIfInBounds_toArray, List.set_cons_zero, List.set_cons_succ]
                          refine hold_read (i := 3) (v := ?_) rfl (by kernel_rfl) (by kernel_rfl) (by kernel_rfl) (fun _ _ _ h => h) rfl ?_ ?_
                          rotate_left
                          · intro w' hN
                            go_simp
                            try with_reducible rfl
                          simp only [Act.put, List.getElem_toArray, List.getElem_cons_succ, List.getElem_cons_zero, List.setIfInBounds_toArray, List.set_cons_zero, List.set_cons_succ]
                          refine hold_read (i := 4) (v := ?_) rfl (by kernel_rfl) (by kernel_rfl) (by kernel_rfl) (fun _ _ _ h => h) rfl ?_ ?_
                          rotate_left
                          · intro w' hN
                            go_simp
                            try with_reducible rfl
                          simp only [Act.put, List.getElem_toArray, List.getElem_cons_succ, List.getElem_cons_zero, List.setIfInBounds_toArray, List.set_cons_zero, List.set_cons_succ]
                          refine hold_read (i := 5) (v := ?_) rfl (by kernel_rfl) (by kernel_rfl) (by kernel_rfl) (fun _ _ _ h => h) rfl ?_ ?_
                          rotate_left
                          · intro w' hN
                            go_simp
                            try with_reducible rfl
                          simp only [Act.put, List.getElem_toArray, List.getElem_cons_succ, List.getElem_cons_zero, List.setIfInBounds_toArray, List.set_cons_zero, List.set_cons_succ]
                          refine hold_read (i := 6) (v := ?_) rfl (by kernel_rfl) (by kernel_rfl) (by kernel_rfl) (fun _ _ _ h => h) rfl ?_ ?_
                          rotate_left
                          · intro w' hN
                            go_simp
                            try with_reducible rfl
                          simp only [Act.put, List.getElem_toArray, List.getElem_cons_succ, List.getElem_cons_zero, List.setIfInBounds_toArray, List.set_cons_zero, List.set_cons_succ]
                          refine hold_read (i := 7) (v := ?_) rfl (by kernel_rfl) (by kernel_rfl) (by kernel_rfl) (fun _ _ _ h => h) rfl ?_ ?_
                          rotate_left
                          · intro w' hN
                            go_simp
                            try with_reducible rfl
                          simp only [Act.put, List.getElem_toArray, List.getElem_cons_succ, List.getElem_cons_zero, List.setIfInBounds_toArray, List.set_cons_zero, List.set_cons_succ]
                          refine hold_read (i := 8) (v := ?_) rfl (by kernel_rfl) (by kernel_rfl) (by kernel_rfl) (fun _ _ _ h => h) rfl ?_ ?_
                          rotate_left
                          · intro w' hN
                            go_simp
                            try with_reducible rfl
                          simp only [Act.put, List.getElem_toArray, List.getElem_cons_succ, List.getElem_cons_zero, List.setIfInBounds_toArray, List.set_cons_zero, List.set_cons_succ]
                          refine hold_read (i := 9) (v := ?_) rfl (by kernel_rfl) (by kernel_rfl) (by kernel_rfl) (fun _ _ _ h => h) rfl ?_ ?_
                          rotate_left
                          · intro w' hN
                            go_simp
                            try with_reducible rfl
                          simp only [Act.put, List.getElem_toArray, List.getElem_cons_succ, List.getElem_cons_zero, List.setIfInBounds_toArray, List.set_cons_zero, List.set_cons_succ]
                          refine hold_read (i := 10) (v := ?_) rfl (by kernel_rfl) (by kernel_rfl) (by kernel_rfl) (fun _ _ _ h => h) rfl ?_ ?_
                          rotate_left
                          · intro w' hN
                            go_simp
                            try with_reducible rfl
                          simp only [Act.put, List.getElem_toArray, List.getElem_cons_succ, List.getElem_cons_zero, List.setIfInBounds_toArray, List.set_cons_zero, List.set_cons_succ]
                          refine hold_read (i := 11) (v := ?_) rfl (by kernel_rfl) (by kernel_rfl) (by kernel_rfl) (fun _ _ _ h => h) rfl ?_ ?_
                          rotate_left
                          · intro w' hN
                            go_simp
                            try with_reducible rfl
                          simp only [Act.put, List.getElem_toArray, List.getElem_cons_succ, List.getElem_cons_zero, List.setIfInBounds_toArray, List.set_cons_zero, List.set_cons_succ]
                          refine hold_read (i := 12) (v := ?_) rfl (by kernel_rfl) (by kernel_rfl) (by kernel_rfl) (fun _ _ _ h => h) rfl ?_ ?_
                          rotate_left
                          · intro w' hN
                            go_simp
                            try with_reducible rfl
                          simp only [Act.put, List.getElem_toArray, List.getElem_cons_succ, List.getElem_cons_zero, List.setIfInBounds_toArray, List.set_cons_zero, List.set_cons_succ]
                          refine hold_read (i := 13) (v := ?_) rfl (by kernel_rfl) (by kernel_rfl) (by kernel_rfl) (fun _ _ _ h => h) rfl ?_ ?_
                          rotate_left
                          · intro w' hN
                            go_simp
                            try with_reducible rfl
                          simp only [Act.put, List.getElem_toArray, List.getElem_cons_succ, List.getElem_cons_zero, List.setIfInBounds_toArray, List.set_cons_zero, List.set_cons_succ]
                          refine hold_read (i := 15) (v := ?_) rfl (by kernel_rfl) (by kernel_rfl) (by kernel_rfl) (fun _ _ _ h => h) rfl ?_ ?_
                          rotate_left
                          · intro w' hN
                            go_simp
                            try with_reducible rfl
                          simp only [Act.put, List.getElem_toArray, List.getElem_cons_succ, List.getElem_cons_zero, List.setIfInBounds_toArray, List.set_cons_zero, List.set_cons_succ]
                          refine hold_read (i := 16) (v := ?_) rfl (by kernel_rfl) (by kernel_rfl) (by kernel_rfl) (fun _ _ _ h => h) rfl ?_ ?_
                          rotate_left
                          · intro w' hN
                            go_simp
                            try with_reducible rfl
                          simp only [Act.put, List.getElem_toArray, List.getElem_cons_succ, List.getElem_cons_zero, List.setIfInBounds_toArray, List.set_cons_zero, List.set_cons_succ]
                          refine hold_read (i := 17) (v := ?_) rfl (by kernel_rfl) (by kernel_rfl) (by kernel_rfl) (fun _ _ _ h => h) rfl ?_ ?_
                          rotate_left
                          · intro w' hN
                            go_simp
                            try with_reducible rfl
                          simp only [Act.put, List.getElem_toArray, List.getElem_cons_succ, List.getElem_cons_zero, List.setIfInBounds_toArray, List.set_cons_zero, List.set_cons_succ]
                          refine hold_step (i := 14) (by kernel_rfl) rfl rfl (fun K hK => ?_)
                          go_simp
                          refine (HFA.out _ (K10.new n0)).mono ?_
                          rintro e w11 ⟨rfl, k11⟩
                          go_wp2_with fail
                          refine hK.out _ _ k11 ?_
                          clear hK K
                          try simp only [Act.put, List.getElem_toArray, List.getElem_cons_succ, List.getElem_cons_zero, List.setIfInBounds_toArray, List.set_cons_zero, List.set_cons_succ]
                          replace n0 := Keep.new n0 k11
                          replace v1 := fun W (hW : New w11 W) => v1 W (Keep.new k11 hW)
                          replace v2 := fun W (hW : New w11 W) => v2 W (Keep.new k11 hW)
                          refine hold_step (i := 18) (by kernel_rfl) rfl rfl (fun K hK => ?_)
                          go_simp
                          refine (HFB.out _ (K10.new n0)).mono ?_
                          rintro e w12 ⟨rfl, k12⟩
                          go_wp2_with fail
                          refine hK.out _ _ k12 ?_
                          clear hK K
                          try simp only [Act.put, List.getElem_toArray, List.getElem_cons_succ, List.getElem_cons_zero, List.setIfInBounds_toArray, List.set_cons_zero, List.set_cons_succ]
                          replace n0 := Keep.new n0 k12
                          replace v1 := fun W (hW : New w12 W) => v1 W (Keep.new k12 hW)
                          replace v2 := fun W (hW : New w12 W) => v2 W (Keep.new k12 hW)
                          refine hold_read (i := 19) (v := ?_) rfl (by kernel_rfl) (by kernel_rfl) (by kernel_rfl) (fun _ _ _ h => h) rfl ?_ ?_
                          rotate_left
                          · intro w' hN
                            go_simp
                            try with_reducible rfl
                          simp only [Act.put, List.getElem_toArray, List.getElem_cons_succ, List.getElem_cons_zero, List.setIfInBounds_toArray, List.set_cons_zero, List.set_cons_succ]
                          refine hold_read (i := 20) (v := ?_) rfl (by kernel_rfl) (by kernel_rfl) (by kernel_rfl) (fun _ _ _ h => h) rfl ?_ ?_
                          rotate_left
                          · intro w' hN
                            go_simp
                            try with_reducible rfl
                          simp only [Act.put, List.getElem_toArray, List.getElem_cons_succ, List.getElem_cons_zero, List.setIfInBounds_toArray, List.set_cons_zero, List.set_cons_succ]
                          refine hold_read (i := 21) (v := ?_) rfl (by kernel_rfl) (by kernel_rfl) (by kernel_rfl) (fun _ _ _ h => h) rfl ?_ ?_
                          rotate_left
                          · intro w' hN
                            go_simp
                            try with_reducible rfl
                          simp only [Act.put, List.getElem_toArray, List.getElem_cons_succ, List.getElem_cons_zero, List.setIfInBounds_toArray, List.set_cons_zero, List.set_cons_succ]
                          refine hold_read (i := 22) (v := ?_) rfl (by kernel_rfl) (by kernel_rfl) (by kernel_rfl) (fun _ _ _ h => h) rfl ?_ ?_
                          rotate_left
                          · intro w' hN
                            go_simp
                            try with_reducible rfl
                          simp only [Act.put, List.getElem_toArray, List.getElem_cons_succ, List.getElem_cons_zero, List.setIfInBounds_toArray, List.set_cons_zero, List.set_cons_succ]
                          refine hold_read (i := 23) (v := ?_) rfl (by kernel_rfl) (by kernel_rfl) (by kernel_rfl) (fun _ _ _ h => h) rfl ?_ ?_
                          rotate_left
                          · intro w' hN
                            go_simp
                            try with_reducible rfl
                          simp only [Act.put, List.getElem_toArray, List.getElem_cons_succ, List.getElem_cons_zero, List.setIfInBounds_toArray, List.set_cons_zero, List.set_cons_succ]
                          refine hold_read (i := 24) (v := ?_) rfl (by kernel_rfl) (by kernel_rfl) (by kernel_rfl) (fun _ _ _ h => h) rfl ?_ ?_
                          rotate_left
                          · intro w' hN
                            go_simp
                            try with_reducible rfl
                          simp only [Act.put, List.getElem_toArray, List.getElem_cons_succ, List.getElem_cons_zero, List.setIfInBounds_toArray, List.set_cons_zero, List.set_cons_succ]
                          refine hold_read (i := 26) (v := ?_) rfl (by kernel_rfl) (by kernel_rfl) (by kernel_rfl) (fun _ _ _ h => h) rfl ?_ ?_
                          rotate_left
                          · intro w' hN
                            go_simp
                            try with_reducible rfl
                          simp only [Act.put, List.getElem_toArray, List.getElem_cons_succ, List.getElem_cons_zero, List.setIfInBounds_toArray, List.set_cons_zero, List.set_cons_succ]
                          refine hold_read (i := 27) (v := ?_) rfl (by kernel_rfl) (by kernel_rfl) (by kernel_rfl) (fun _ _ _ h => h) rfl ?_ ?_
                          rotate_left
                          · intro w' hN
                            go_simp
                            try with_reducible rfl
                          simp only [Act.put, List.getElem_toArray, List.getElem_cons_succ, List.getElem_cons_zero, List.setIfInBounds_toArray, List.set_cons_zero, List.set_cons_succ]
                          refine hold_read (i := 28) (v := ?_) rfl (by kernel_rfl) (by kernel_rfl) (by kernel_rfl) (fun _ _ _ h => h) rfl ?_ ?_
                          rotate_left
                          · intro w' hN
                            go_simp
                            try with_reducible rfl
                          simp only [Act.put, List.getElem_toArray, List.getElem_cons_succ, List.getElem_cons_zero, List.setIfInBounds_toArray, List.set_cons_zero, List.set_cons_succ]
                          refine hold_step (i := 25) (by kernel_rfl) rfl rfl (fun K hK => ?_)
                          go_simp
                          refine (HLA.out _ (K10.new n0)).mono ?_
                          rintro e w13 ⟨⟨L1, lc1, rfl, o13⟩, k13⟩
                          go_wp2_with fail
                          refine hK.out _ _ k13 ?_
                          clear hK K
                          try simp only [Act.put, List.getElem_toArray, List.getElem_cons_succ, List.getElem_cons_zero, List.setIfInBounds_toArray, List.set_cons_zero, List.set_cons_succ]
                          replace n0 := Keep.new n0 k13
                          replace v1 := fun W (hW : New w13 W) => v1 W (Keep.new k13 hW)
                          replace v2 := fun W (hW : New w13 W) => v2 W (Keep.new k13 hW)
                          refine hold_step (i := 29) (by kernel_rfl) rfl rfl (fun K hK => ?_)
                          go_simp
                          refine (HLB.out _ (K10.new n0)).mono ?_
                          rintro e w14 ⟨⟨L2, lc2, rfl, o14⟩, k14⟩
                          go_wp2_with fail
                          refine hK.out _ _ k14 ?_
                          clear hK K
                          try simp only [Act.put, List.getElem_toArray, List.getElem_cons_succ, List.getElem_cons_zero, List.setIfInBounds_toArray, List.set_cons_zero, List.set_cons_succ]
                          replace n0 := Keep.new n0 k14
                          replace v1 := fun W (hW : New w14 W) => v1 W (Keep.new k14 hW)
                          replace v2 := fun W (hW : New w14 W) => v2 W (Keep.new k14 hW)
                          refine hold_step (i := 30) (by kernel_rfl) rfl rfl (fun K hK => ?_)
                          go_simp
                          refine (lists_any _ _ L1 L2 q lc1 q lc2 lv lv _ (o13.new k14).bss o14.bss (by omega)).mono ?_
                          rintro e w15 ⟨he, k15⟩; rw [show decide (lv = lv) = true from by simp] at he; subst he
                          go_wp2_with fail
                          refine hK.out _ _ k15 ?_
                          clear hK K
                          try simp only [Act.put, List.getElem_toArray, List.getElem_cons_succ, List.getElem_cons_zero, List.setIfInBounds_toArray, List.set_cons_zero, List.set_cons_succ]
                          replace n0 := Keep.new n0 k15
                          replace v1 := fun W (hW : New w15 W) => v1 W (Keep.new k15 hW)
                          replace v2 := fun W (hW : New w15 W) => v2 W (Keep.new k15 hW)
                          refine hold_read (i := 31) (v := ?_) rfl (by kernel_rfl) (by kernel_rfl) (by kernel_rfl) (fun _ _ _ h => h) rfl ?_ ?_
                          rotate_left
                          · intro w' hN
                            go_simp
                            try with_reducible rfl
                          simp only [Act.put, List.getElem_toArray, List.getElem_cons_succ, List.getElem_cons_zero, List.setIfInBounds_toArray, List.set_cons_zero, List.set_cons_succ]
                          refine hold_read (i := 32) (v := ?_) rfl (by kernel_rfl) (by kernel_rfl) (by kernel_rfl) (fun _ _ _ h => h) rfl ?_ ?_
                          rotate_left
                          · intro w' hN
                            go_simp
                            try with_reducible rfl
                          simp only [Act.put, List.getElem_toArray, List.getElem_cons_succ, List.getElem_cons_zero, List.setIfInBounds_toArray, List.set_cons_zero, List.set_cons_succ]
                          refine hold_read (i := 33) (v := ?_) rfl (by kernel_rfl) (by kernel_rfl) (by kernel_rfl) (fun _ _ _ h => h) rfl ?_ ?_
                          rotate_left
                          · intro w' hN
                            go_simp
                            try with_reducible rfl
                          simp only [Act.put, List.getElem_toArray, List.getElem_cons_succ, List.getElem_cons_zero, List.setIfInBounds_toArray, List.set_cons_zero, List.set_cons_succ]
                          refine hold_read (i := 34) (v := ?_) rfl (by kernel_rfl) (by kernel_rfl) (by kernel_rfl) (fun _ _ _ h => h) rfl ?_ ?_
                          rotate_left
                          · intro w' hN
                            go_simp
                            try with_reducible rfl
                          simp only [Act.put, List.getElem_toArray, List.getElem_cons_succ, List.getElem_cons_zero, List.setIfInBounds_toArray, List.set_cons_zero, List.set_cons_succ]
                          refine hold_read (i := 35) (v := ?_) rfl (by kernel_rfl) (by kernel_rfl) (by kernel_rfl) (fun _ _ _ h => h) rfl ?_ ?_
                          rotate_left
                          · intro w' hN
                            go_simp
                            try with_reducible rfl
                          simp only [Act.put, List.getElem_toArray, List.getElem_cons_succ, List.getElem_cons_zero, List.setIfInBounds_toArray, List.set_cons_zero, List.set_cons_succ]
                          refine hold_read (i := 36) (v := ?_) rfl (by kernel_rfl) (by kernel_rfl) (by kernel_rfl) (fun _ _ _ h => h) rfl ?_ ?_
                          rotate_left
                          · intro w' hN
                            go_simp
                            try with_reducible rfl
                          simp only [Act.put, List.getElem_toArray, List.getElem_cons_succ, List.getElem_cons_zero, List.setIfInBounds_toArray, List.set_cons_zero, List.set_cons_succ]
                          refine hold_read (i := 37) (v := ?_) rfl (by kernel_rfl) (by kernel_rfl) (by kernel_rfl) (fun _ _ _ h => h) rfl ?_ ?_
                          rotate_left
                          · intro w' hN
                            go_simp
                            try with_reducible rfl
                          simp only [Act.put, List.getElem_toArray, List.getElem_cons_succ, List.getElem_cons_zero, List.setIfInBounds_toArray, List.set_cons_zero, List.set_cons_succ]
                          refine hold_read (i := 38) (v := ?_) rfl (by kernel_rfl) (by kernel_rfl) (by kernel_rfl) (fun _ _ _ h => h) rfl ?_ ?_
                          rotate_left
                          · intro w' hN
                            go_simp
                            try with_reducible rfl
                          simp only [Act.put, List.getElem_toArray, List.getElem_cons_succ, List.getElem_cons_zero, List.setIfInBounds_toArray, List.set_cons_zero, List.set_cons_succ]
                          refine hold_step (i := 39) (by kernel_rfl) rfl rfl (fun K hK => ?_)
                          go_simp
                          refine (HZ.out _ n0).mono ?_
                          rintro e w16 ⟨rfl, k16⟩
                          go_wp2_with fail
                          refine hK.out _ _ k16 ?_
                          clear hK K
                          try simp only [Act.put, List.getElem_toArray, List.getElem_cons_succ, List.getElem_cons_zero, List.setIfInBounds_toArray, List.set_cons_zero, List.set_cons_succ]
                          replace n0 := Keep.new n0 k16
                          replace v1 := fun W (hW : New w16 W) => v1 W (Keep.new k16 hW)
                          replace v2 := fun W (hW : New w16 W) => v2 W (Keep.new k16 hW)
                          refine hold_read (i := 40) (v := ?_) rfl (by kernel_rfl) (by kernel_rfl) (by kernel_rfl) (fun _ _ _ h => h) rfl ?_ ?_
                          rotate_left
                          · intro w' hN
                            go_simp
                            try with_reducible rfl
                          simp only [Act.put, List.getElem_toArray, List.getElem_cons_succ, List.getElem_cons_zero, List.setIfInBounds_toArray, List.set_cons_zero, List.set_cons_succ]
                          refine hold_read (i := 41) (v := ?_) rfl (by kernel_rfl) (by kernel_rfl) (by kernel_rfl) (fun _ _ _ h => h) rfl ?_ ?_
                          rotate_left
                          · intro w' hN
                            go_simp
                            try with_reducible rfl
                          simp only [Act.put, List.getElem_toArray, List.getElem_cons_succ, List.getElem_cons_zero, List.setIfInBounds_toArray, List.set_cons_zero, List.set_cons_succ]
                          refine hold_read (i := 42) (v := ?_) rfl (by kernel_rfl) (by kernel_rfl) (by kernel_rfl) (fun _ _ _ h => h) rfl ?_ ?_
                          rotate_left
                          · intro w' hN
                            go_simp
                            try with_reducible rfl
                          simp only [Act.put, List.getElem_toArray, List.getElem_cons_succ, List.getElem_cons_zero, List.setIfInBounds_toArray, List.set_cons_zero, List.set_cons_succ]
                          refine wpAnyH_done (by kernel_rfl) ?_ _
                          have K15 := K10.new n0
                          go_wp2_with fail
                          go_meet
                          exact ⟨rfl, K15⟩
                      case rest =>
                        obtain ⟨rfl, K15⟩ := hcut
                        go_wp2_with fail
                        go_roundw
                        case rel => exact ⟨h' + 1, by go_light; omega, by go_num, K15⟩
                        case measure => go_light; simp [intOf]; omega
                  · obtain rfl : hw = 7 := by omega
                    go_wp2_with fail
                    go_roundw
                    case rel => exact ⟨q + 1, by omega, by go_num, HK.out.new hK⟩
                    case measure => simp [intOf]; omega
              · obtain rfl : q = 4 := by omega
                go_wp2_with fail
                go_roundw
                case rel => exact ⟨k + 1, by omega, by go_num, HN6.out.new hK⟩
                case measure => simp [intOf]; omega
      · refine hold_fork (i := 1) (j := 4) (by kernel_rfl) rfl rfl rfl rfl (fun K hK => ?_) (fun K hK => ?_)
        · have k0 : New wr.drew (wr.alloc (.cells (zs n) 5)).drew := (New.refl wr.drew).alloc (.cells (zs n) 5)
          have c0 : Bs (wr.alloc (.cells (zs n) 5)).drew (fun _ => True) (some ⟨wr.heap.size, 0, none⟩) n (List.replicate n (0 : UInt8)) := (zs_bs n wr.drew).imp fun _ _ _ => trivial
          go_simp
          go_wp2_with fail
          have n1 := Keep.new n0 k0
          clear k0
          generalize (wr.alloc (.cells (zs n) 5)).drew = wa at *
          refine hK.out (New wr.drew) _ _ (fun _ h => h) n1 ?_
          clear hK K
          try simp only [Act.put, List.getElem_toArray, List.getElem_cons_succ, List.getElem_cons_zero, List.setIfInBounds_toArray, List.set_cons_zero, List.set_cons_succ]
          refine hold_read0 (i := 2) (v := ?_) n1 rfl (by kernel_rfl) (by kernel_rfl) (by kernel_rfl) (fun _ _ _ h => h) rfl ?_ ?_
          rotate_left
          · intro w' hN
            go_simp
            try with_reducible rfl
          simp only [Act.put, List.getElem_toArray, List.getElem_cons_succ, List.getElem_cons_zero, List.setIfInBounds_toArray, List.set_cons_zero, List.set_cons_succ]
          refine hold_step0 (i := 4) (by kernel_rfl) rfl rfl (fun K hK => ?_)
          have k0 := (New.refl wa).alloc (.cells (zs n) 5)
          have c1 : Bs (wa.alloc (.cells (zs n) 5)) (fun _ => True) (some ⟨wa.heap.size, 0, none⟩) n (List.replicate n (0 : UInt8)) := (zs_bs n wa).imp fun _ _ _ => trivial
          go_simp
          go_wp2_with fail
          have n2 := Keep.new n1 k0
          refine hK.out _ _ n2 ?_
          clear hK K
          try simp only [Act.put, List.getElem_toArray, List.getElem_cons_succ, List.getElem_cons_zero, List.setIfInBounds_toArray, List.set_cons_zero, List.set_cons_succ]
          refine hold_read0 (i := 5) (v := ?_) n2 rfl (by kernel_rfl) (by kernel_rfl) (by kernel_rfl) (fun _ _ _ h => h) rfl ?_ ?_
          rotate_left
          · intro w' hN
            go_simp
            try with_reducible rfl
          simp only [Act.put, List.getElem_toArray, List.getElem_cons_succ, List.getElem_cons_zero, List.setIfInBounds_toArray, List.set_cons_zero, List.set_cons_succ]
          exact hold_strong (by kernel_rfl) (fun _ h => h) (HJ.out _ _ _ ⟨_, _, rfl, rfl, n2, c0.new k0, c1⟩)
        · have k0 : New wr.drew (wr.alloc (.cells (zs n) 5)).drew := (New.refl wr.drew).alloc (.cells (zs n) 5)
          have c0 : Bs (wr.alloc (.cells (zs n) 5)).drew (fun _ => True) (some ⟨wr.heap.size, 0, none⟩) n (List.replicate n (0 : UInt8)) := (zs_bs n wr.drew).imp fun _ _ _ => trivial
          go_simp
          go_wp2_with fail
          have n1 := Keep.new n0 k0
          clear k0
          generalize (wr.alloc (.cells (zs n) 5)).drew = wa at *
          refine hK.out (New wr.drew) _ _ (fun _ h => h) n1 ?_
          clear hK K
          try simp only [Act.put, List.getElem_toArray, List.getElem_cons_succ, List.getElem_cons_zero, List.setIfInBounds_toArray, List.set_cons_zero, List.set_cons_succ]
          refine hold_read0 (i := 5) (v := ?_) n1 rfl (by kernel_rfl) (by kernel_rfl) (by kernel_rfl) (fun _ _ _ h => h) rfl ?_ ?_
          rotate_left
          · intro w' hN
            go_simp
            try with_reducible rfl
          simp only [Act.put, List.getElem_toArray, List.getElem_cons_succ, List.getElem_cons_zero, List.setIfInBounds_toArray, List.set_cons_zero, List.set_cons_succ]
          refine hold_step0 (i := 1) (by kernel_rfl) rfl rfl (fun K hK => ?_)
          have k0 := (New.refl wa).alloc (.cells (zs n) 5)
          have c1 : Bs (wa.alloc (.cells (zs n) 5)) (fun _ => True) (some ⟨wa.heap.size, 0, none⟩) n (List.replicate n (0 : UInt8)) := (zs_bs n wa).imp fun _ _ _ => trivial
          go_simp
          go_wp2_with fail
          have n2 := Keep.new n1 k0
          refine hK.out _ _ n2 ?_
          clear hK K
          try simp only [Act.put, List.getElem_toArray, List.getElem_cons_succ, List.getElem_cons_zero, List.setIfInBounds_toArray, List.set_cons_zero, List.set_cons_succ]
          refine hold_read0 (i := 2) (v := ?_) n2 rfl (by kernel_rfl) (by kernel_rfl) (by kernel_rfl) (fun _ _ _ h => h) rfl ?_ ?_
          rotate_left
          · intro w' hN
            go_simp
            try with_reducible rfl
          simp only [Act.put, List.getElem_toArray, List.getElem_cons_succ, List.getElem_cons_zero, List.setIfInBounds_toArray, List.set_cons_zero, List.set_cons_succ]
          exact hold_strong (by kernel_rfl) (fun _ h => h) (HJ.out _ _ _ ⟨_, _, rfl, rfl, n2, c1, c0.new k0⟩)
    · obtain rfl : k = 10 := by omega
      have HNE : Hid (New w wr) := Lib.hid (HN0.out.new hK)
      have mk1 : ∀ W, (Instr.makeSlice 24 (.int .i64 1024) (.int .i64 1024)).run Tryd.prog W = .ok (.slice (some ⟨W.heap.size, 0, none⟩) 1024 1024) (W.alloc (.cells (zs 1024) 5)) := fun W => make_zs 1024 (by decide) W
      have mk2 : ∀ W, (Instr.makeSlice 24 (.int .i64 1023) (.int .i64 1023)).run Tryd.prog W = .ok (.slice (some ⟨W.heap.size, 0, none⟩) 1023 1023) (W.alloc (.cells (zs 1023) 5)) := fun W => make_zs 1023 (by decide) W
      have HSL := Lib.hid (fun W => seal17_any (fun _ => True) (fun _ => True) none none 0 0 0 0 ⟨0, 0, 0, 0, [], []⟩ W (Row.nil _ _ _ _) (by decide) (Row.nil _ _ _ _) (by decide) (by decide) (by decide))
      clear hK
      go_wp2_with fail
      refine hold_begin (by kernel_rfl) ?_
      have n0 : New wr wr.drew := (New.refl wr).drew
      refine hold_step (i := 0) (by kernel_rfl) rfl rfl (fun K hK => ?_)
      go_simp
      refine (readlaw_any (fun _ => True) none 0 0 [] _ (Row.nil _ _ _ _) (by decide) (by decide)).mono ?_
      rintro e w31 ⟨rfl, k31⟩
      go_wp2_with fail
      refine hK.out _ _ k31 ?_
      clear hK K
      try simp only [Act.put, List.getElem_toArray, List.getElem_cons_succ, List.getElem_cons_zero, List.setIfInBounds_toArray, List.set_cons_zero, List.set_cons_succ]
      replace n0 := Keep.new n0 k31
      refine hold_read (i := 1) (v := ?_) rfl (by kernel_rfl) (by kernel_rfl) (by kernel_rfl) (fun _ _ _ h => h) rfl ?_ ?_
      rotate_left
      · intro w' hN
        go_simp
        try with_reducible rfl
      simp only [Act.put, List.getElem_toArray, List.getElem_cons_succ, List.getElem_cons_zero, List.setIfInBounds_toArray, List.set_cons_zero, List.set_cons_succ]
      refine hold_step (i := 2) (by kernel_rfl) rfl rfl (fun K hK => ?_)
      go_simp
      have k32 := (New.refl w31).alloc (.cells (zs 1024) 5); have b32 := zs_bs 1024 w31
      go_wp2_with fail
      refine hK.out _ _ k32 ?_
      clear hK K
      try simp only [Act.put, List.getElem_toArray, List.getElem_cons_succ, List.getElem_cons_zero, List.setIfInBounds_toArray, List.set_cons_zero, List.set_cons_succ]
      replace n0 := Keep.new n0 k32
      refine hold_step (i := 3) (by kernel_rfl) rfl rfl (fun K hK => ?_)
      go_simp
      refine (readlaw_any _ _ 1024 1024 _ _ b32 (by decide) (by decide)).mono ?_
      rintro e w33 ⟨rfl, k33⟩
      go_wp2_with fail
      refine hK.out _ _ k33 ?_
      clear hK K
      try simp only [Act.put, List.getElem_toArray, List.getElem_cons_succ, List.getElem_cons_zero, List.setIfInBounds_toArray, List.set_cons_zero, List.set_cons_succ]
      replace n0 := Keep.new n0 k33
      refine hold_read (i := 4) (v := ?_) rfl (by kernel_rfl) (by kernel_rfl) (by kernel_rfl) (fun _ _ _ h => h) rfl ?_ ?_
      rotate_left
      · intro w' hN
        go_simp
        try with_reducible rfl
      simp only [Act.put, List.getElem_toArray, List.getElem_cons_succ, List.getElem_cons_zero, List.setIfInBounds_toArray, List.set_cons_zero, List.set_cons_succ]
      refine hold_read (i := 5) (v := ?_) rfl (by kernel_rfl) (by kernel_rfl) (by kernel_rfl) (fun _ _ _ h => h) rfl ?_ ?_
      rotate_left
      · intro w' hN
        go_simp
        try with_reducible rfl
      simp only [Act.put, List.getElem_toArray, List.getElem_cons_succ, List.getElem_cons_zero, List.setIfInBounds_toArray, List.set_cons_zero, List.set_cons_succ]
      refine hold_step (i := 6) (by kernel_rfl) rfl rfl (fun K hK => ?_)
      go_simp
      have k3x := (New.refl w33).alloc (.cells (zs 1023) 5); have b3x := zs_bs 1023 w33
      go_wp2_with fail
      refine hK.out _ _ k3x ?_
      clear hK K
      try simp only [Act.put, List.getElem_toArray, List.getElem_cons_succ, List.getElem_cons_zero, List.setIfInBounds_toArray, List.set_cons_zero, List.set_cons_succ]
      replace n0 := Keep.new n0 k3x
      refine hold_step (i := 7) (by kernel_rfl) rfl rfl (fun K hK => ?_)
      go_simp
      refine (readlaw_any _ _ 1023 1023 _ _ b3x (by decide) (by decide)).mono ?_
      rintro e w34 ⟨rfl, k34⟩
      go_wp2_with fail
      refine hK.out _ _ k34 ?_
      clear hK K
      try simp only [Act.put, List.getElem_toArray, List.getElem_cons_succ, List.getElem_cons_zero, List.setIfInBounds_toArray, List.set_cons_zero, List.set_cons_succ]
      replace n0 := Keep.new n0 k34
      refine hold_read (i := 8) (v := ?_) rfl (by kernel_rfl) (by kernel_rfl) (by kernel_rfl) (fun _ _ _ h => h) rfl ?_ ?_
      rotate_left
      · intro w' hN
        go_simp
        try with_reducible rfl
      simp only [Act.put, List.getElem_toArray, List.getElem_cons_succ, List.getElem_cons_zero, List.setIfInBounds_toArray, List.set_cons_zero, List.set_cons_succ]
      refine hold_read (i := 9) (v := ?_) rfl (by kernel_rfl) (by kernel_rfl) (by kernel_rfl) (fun _ _ _ h => h) rfl ?_ ?_
      rotate_left
      · intro w' hN
        go_simp
        try with_reducible rfl
      simp only [Act.put, List.getElem_toArray, List.getElem_cons_succ, List.getElem_cons_zero, List.setIfInBounds_toArray, List.set_cons_zero, List.set_cons_succ]
      refine hold_read (i := 15) (v := ?_) rfl (by kernel_rfl) (by kernel_rfl) (by kernel_rfl) (fun _ _ _ h => h) rfl ?_ ?_
      rotate_left
      · intro w' hN
        go_simp
        try with_reducible rfl
      simp only [Act.put, List.getElem_toArray, List.getElem_cons_succ, List.getElem_cons_zero, List.setIfInBounds_toArray, List.set_cons_zero, List.set_cons_succ]
      clear mk1 mk2 b32 b3x k31 k32 k33 k3x k34
      refine hold_fork (i := 10) (j := 11) (by kernel_rfl) rfl rfl rfl rfl (fun K hK => ?_) (fun K hK => ?_)
      · have k0 := (New.refl w34).alloc (.cells #[.int .u8 1] 5)
        have d10 : Bs (w34.alloc (.cells #[.int .u8 1] 5)) (fun _ => True) (some ⟨w34.heap.size, 0, none⟩) 1 [1] := (Row.made w34 _ _ 1 1 rfl).imp fun _ _ _ => trivial
        go_simp
        go_wp2_with fail
        generalize w34.alloc (.cells #[.int .u8 1] 5) = wa at *
        generalize w34.heap.size = g10 at *
        refine hK.out (New wa) _ _ (fun _ h => Keep.new k0 h) (New.refl _) ?_
        clear hK K
        try simp only [Act.put, List.getElem_toArray, List.getElem_cons_succ, List.getElem_cons_zero, List.setIfInBounds_toArray, List.set_cons_zero, List.set_cons_succ]
        refine hold_one (i := 11) (by kernel_rfl) rfl rfl (fun K hK => ?_)
        have k1 := (New.refl wa).alloc (.cells #[.int .u8 2] 5)
        replace d10 := d10.new k1
        have d11 : Bs (wa.alloc (.cells #[.int .u8 2] 5)) (fun _ => True) (some ⟨wa.heap.size, 0, none⟩) 1 [2] := (Row.made wa _ _ 1 1 rfl).imp fun _ _ _ => trivial
        go_simp
        go_wp2_with fail
        generalize wa.alloc (.cells #[.int .u8 2] 5) = wb at *
        generalize wa.heap.size = g11 at *
        refine hK.out (New wb) _ _ (fun _ h => Keep.new k1 h) (New.refl _) ?_
        clear hK K
        try simp only [Act.put, List.getElem_toArray, List.getElem_cons_succ, List.getElem_cons_zero, List.setIfInBounds_toArray, List.set_cons_zero, List.set_cons_succ]
        replace n0 := (Keep.new n0 k0).new k1
        have q12 := New.refl wb
        refine hold_read0 (i := 12) (v := ?_) (New.refl _) rfl (by kernel_rfl) (by kernel_rfl) (by kernel_rfl) (fun _ _ _ h => h) rfl ?_ ?_
        rotate_left
        · intro w' hN
          go_simp
          try with_reducible rfl
        simp only [Act.put, List.getElem_toArray, List.getElem_cons_succ, List.getElem_cons_zero, List.setIfInBounds_toArray, List.set_cons_zero, List.set_cons_succ]
        refine hold_one (i := 13) (by kernel_rfl) rfl rfl (fun K hK => ?_)
        go_simp
        refine (seal_any _ _ (some ⟨g10, 0, none⟩) (some ⟨g11, 0, none⟩) 1 1 1 1 ⟨0, 0, 0, 0, [1], [2]⟩ wb d10 (by decide) d11 (by decide) (by decide) (by decide)).mono ?_
        rintro e w41 ⟨⟨S1, sc1, rfl, o41⟩, k41⟩
        go_wp2_with fail
        refine hK.out (New w41) _ _ (fun _ h => Keep.new k41 h) (New.refl _) ?_
        clear hK K
        try simp only [Act.put, List.getElem_toArray, List.getElem_cons_succ, List.getElem_cons_zero, List.setIfInBounds_toArray, List.set_cons_zero, List.set_cons_succ]
        have s41 := fun W (h : New w41 W) => run_str (c := sc1) (Row.of_own (Own.keepNew o41 h))
        rw [seal_wrong] at s41
        generalize sealOf ⟨0, 0, 0, 0, [], []⟩ = sl at *
        refine hold_read0 (i := 14) (v := ?_) (New.refl _) rfl (by kernel_rfl) (by kernel_rfl) (by kernel_rfl) (fun _ _ _ h => h) rfl ?_ ?_
        rotate_left
        · intro w' hN
          go_simp
          try with_reducible rfl
        simp only [Act.put, List.getElem_toArray, List.getElem_cons_succ, List.getElem_cons_zero, List.setIfInBounds_toArray, List.set_cons_zero, List.set_cons_succ]
        refine hold_one (i := 16) (by kernel_rfl) rfl rfl (fun K hK => ?_)
        go_simp
        refine (HSL.out w41).mono ?_
        rintro e w42 ⟨⟨S2, sc2, rfl, o42⟩, k42⟩
        go_wp2_with fail
        refine hK.out (New w42) _ _ (fun _ h => Keep.new k42 h) (New.refl _) ?_
        clear hK K
        try simp only [Act.put, List.getElem_toArray, List.getElem_cons_succ, List.getElem_cons_zero, List.setIfInBounds_toArray, List.set_cons_zero, List.set_cons_succ]
        have s42 := fun W (h : New w42 W) => run_str (c := sc2) (Row.of_own (Own.keepNew o42 h))
        refine hold_read0 (i := 17) (v := ?_) (New.refl _) rfl (by kernel_rfl) (by kernel_rfl) (by kernel_rfl) (fun _ _ _ h => h) rfl ?_ ?_
        rotate_left
        · intro w' hN
          go_simp
          try with_reducible rfl
        simp only [Act.put, List.getElem_toArray, List.getElem_cons_succ, List.getElem_cons_zero, List.setIfInBounds_toArray, List.set_cons_zero, List.set_cons_succ]
        refine hold_read0 (i := 18) (v := ?_) (New.refl _) rfl (by kernel_rfl) (by kernel_rfl) (by kernel_rfl) (fun _ _ _ h => h) rfl ?_ ?_
        rotate_left
        · intro w' hN
          go_simp
          try with_reducible rfl
        simp only [Act.put, List.getElem_toArray, List.getElem_cons_succ, List.getElem_cons_zero, List.setIfInBounds_toArray, List.set_cons_zero, List.set_cons_succ]
        refine hold_read0 (i := 19) (v := ?_) (New.refl _) rfl (by kernel_rfl) (by kernel_rfl) (by kernel_rfl) (fun _ _ _ h => h) rfl ?_ ?_
        rotate_left
        · intro w' hN
          go_simp
          try with_reducible rfl
        simp only [Act.put, List.getElem_toArray, List.getElem_cons_succ, List.getElem_cons_zero, List.setIfInBounds_toArray, List.set_cons_zero, List.set_cons_succ]
        refine hold_read0 (i := 20) (v := ?_) (New.refl _) rfl (by kernel_rfl) (by kernel_rfl) (by kernel_rfl) (fun _ _ _ h => h) rfl ?_ ?_
        rotate_left
        · intro w' hN
          go_simp
          try with_reducible rfl
        simp only [Act.put, List.getElem_toArray, List.getElem_cons_succ, List.getElem_cons_zero, List.setIfInBounds_toArray, List.set_cons_zero, List.set_cons_succ]
        refine hold_one (i := 21) (by kernel_rfl) rfl rfl (fun K hK => ?_)
        go_simp
        refine (known17_any _).mono ?_
        rintro e w43 ⟨rfl, k43⟩
        go_wp2_with fail
        refine hK.out (New w43) _ _ (fun _ h => Keep.new k43 h) (New.refl _) ?_
        clear hK K
        try simp only [Act.put, List.getElem_toArray, List.getElem_cons_succ, List.getElem_cons_zero, List.setIfInBounds_toArray, List.set_cons_zero, List.set_cons_succ]
        refine hold_read0 (i := 22) (v := ?_) (New.refl _) rfl (by kernel_rfl) (by kernel_rfl) (by kernel_rfl) (fun _ _ _ h => h) rfl ?_ ?_
        rotate_left
        · intro w' hN
          go_simp
          try with_reducible rfl
        simp only [Act.put, List.getElem_toArray, List.getElem_cons_succ, List.getElem_cons_zero, List.setIfInBounds_toArray, List.set_cons_zero, List.set_cons_succ]
        refine hold_read0 (i := 23) (v := ?_) (New.refl _) rfl (by kernel_rfl) (by kernel_rfl) (by kernel_rfl) (fun _ _ _ h => h) rfl ?_ ?_
        rotate_left
        · intro w' hN
          go_simp
          try with_reducible rfl
        simp only [Act.put, List.getElem_toArray, List.getElem_cons_succ, List.getElem_cons_zero, List.setIfInBounds_toArray, List.set_cons_zero]
        refine wpAnyH_done (by kernel_rfl) ?_ _
        have hfin := ((n0.new k41).new k42).new k43
        go_wp2_with fail
        go_ret
        exact ⟨rfl, HNE.out.new hfin⟩
      · have k0 := (New.refl w34).alloc (.cells #[.int .u8 2] 5)
        have d11 : Bs (w34.alloc (.cells #[.int .u8 2] 5)) (fun _ => True) (some ⟨w34.heap.size, 0, none⟩) 1 [2] := (Row.made w34 _ _ 1 1 rfl).imp fun _ _ _ => trivial
        go_simp
        go_wp2_with fail
        generalize w34.alloc (.cells #[.int .u8 2] 5) = wa at *
        generalize w34.heap.size = g11 at *
        refine hK.out (New wa) _ _ (fun _ h => Keep.new k0 h) (New.refl _) ?_
        clear hK K
        try simp only [Act.put, List.getElem_toArray, List.getElem_cons_succ, List.getElem_cons_zero, List.setIfInBounds_toArray, List.set_cons_zero, List.set_cons_succ]
        refine hold_one (i := 10) (by kernel_rfl) rfl rfl (fun K hK => ?_)
        have k1 := (New.refl wa).alloc (.cells #[.int .u8 1] 5)
        replace d11 := d11.new k1
        have d10 : Bs (wa.alloc (.cells #[.int .u8 1] 5)) (fun _ => True) (some ⟨wa.heap.size, 0, none⟩) 1 [1] := (Row.made wa _ _ 1 1 rfl).imp fun _ _ _ => trivial
        go_simp
        go_wp2_with fail
        generalize wa.alloc (.cells #[.int .u8 1] 5) = wb at *
        generalize wa.heap.size = g10 at *
        refine hK.out (New wb) _ _ (fun _ h => Keep.new k1 h) (New.refl _) ?_
        clear hK K
        try simp only [Act.put, List.getElem_toArray, List.getElem_cons_succ, List.getElem_cons_zero, List.setIfInBounds_toArray, List.set_cons_zero, List.set_cons_succ]
        replace n0 := (Keep.new n0 k0).new k1
        have q12 := New.refl wb
        refine hold_read0 (i := 12) (v := ?_) (New.refl _) rfl (by kernel_rfl) (by kernel_rfl) (by kernel_rfl) (fun _ _ _ h => h) rfl ?_ ?_
        rotate_left
        · intro w' hN
          go_simp
          try with_reducible rfl
        simp only [Act.put, List.getElem_toArray, List.getElem_cons_succ, List.getElem_cons_zero, List.setIfInBounds_toArray, List.set_cons_zero, List.set_cons_succ]
        refine hold_one (i := 13) (by kernel_rfl) rfl rfl (fun K hK => ?_)
        go_simp
        refine (seal_any _ _ (some ⟨g10, 0, none⟩) (some ⟨g11, 0, none⟩) 1 1 1 1 ⟨0, 0, 0, 0, [1], [2]⟩ wb d10 (by decide) d11 (by decide) (by decide) (by decide)).mono ?_
        rintro e w41 ⟨⟨S1, sc1, rfl, o41⟩, k41⟩
        go_wp2_with fail
        refine hK.out (New w41) _ _ (fun _ h => Keep.new k41 h) (New.refl _) ?_
        clear hK K
        try simp only [Act.put, List.getElem_toArray, List.getElem_cons_succ, List.getElem_cons_zero, List.setIfInBounds_toArray, List.set_cons_zero, List.set_cons_succ]
        have s41 := fun W (h : New w41 W) => run_str (c := sc1) (Row.of_own (Own.keepNew o41 h))
        rw [seal_wrong] at s41
        generalize sealOf ⟨0, 0, 0, 0, [], []⟩ = sl at *
        refine hold_read0 (i := 14) (v := ?_) (New.refl _) rfl (by kernel_rfl) (by kernel_rfl) (by kernel_rfl) (fun _ _ _ h => h) rfl ?_ ?_
        rotate_left
        · intro w' hN
          go_simp
          try with_reducible rfl
        simp only [Act.put, List.getElem_toArray, List.getElem_cons_succ, List.getElem_cons_zero, List.setIfInBounds_toArray, List.set_cons_zero, List.set_cons_succ]
        refine hold_one (i := 16) (by kernel_rfl) rfl rfl (fun K hK => ?_)
        go_simp
        refine (HSL.out w41).mono ?_
        rintro e w42 ⟨⟨S2, sc2, rfl, o42⟩, k42⟩
        go_wp2_with fail
        refine hK.out (New w42) _ _ (fun _ h => Keep.new k42 h) (New.refl _) ?_
        clear hK K
        try simp only [Act.put, List.getElem_toArray, List.getElem_cons_succ, List.getElem_cons_zero, List.setIfInBounds_toArray, List.set_cons_zero, List.set_cons_succ]
        have s42 := fun W (h : New w42 W) => run_str (c := sc2) (Row.of_own (Own.keepNew o42 h))
        refine hold_read0 (i := 17) (v := ?_) (New.refl _) rfl (by kernel_rfl) (by kernel_rfl) (by kernel_rfl) (fun _ _ _ h => h) rfl ?_ ?_
        rotate_left
        · intro w' hN
          go_simp
          try with_reducible rfl
        simp only [Act.put, List.getElem_toArray, List.getElem_cons_succ, List.getElem_cons_zero, List.setIfInBounds_toArray, List.set_cons_zero, List.set_cons_succ]
        refine hold_read0 (i := 18) (v := ?_) (New.refl _) rfl (by kernel_rfl) (by kernel_rfl) (by kernel_rfl) (fun _ _ _ h => h) rfl ?_ ?_
        rotate_left
        · intro w' hN
          go_simp
          try with_reducible rfl
        simp only [Act.put, List.getElem_toArray, List.getElem_cons_succ, List.getElem_cons_zero, List.setIfInBounds_toArray, List.set_cons_zero, List.set_cons_succ]
        refine hold_read0 (i := 19) (v := ?_) (New.refl _) rfl (by kernel_rfl) (by kernel_rfl) (by kernel_rfl) (fun _ _ _ h => h) rfl ?_ ?_
        rotate_left
        · intro w' hN
          go_simp
          try with_reducible rfl
        simp only [Act.put, List.getElem_toArray, List.getElem_cons_succ, List.getElem_cons_zero, List.setIfInBounds_toArray, List.set_cons_zero, List.set_cons_succ]
        refine hold_read0 (i := 20) (v := ?_) (New.refl _) rfl (by kernel_rfl) (by kernel_rfl) (by kernel_rfl) (fun _ _ _ h => h) rfl ?_ ?_
        rotate_left
        · intro w' hN
          go_simp
          try with_reducible rfl
        simp only [Act.put, List.getElem_toArray, List.getElem_cons_succ, List.getElem_cons_zero, List.setIfInBounds_toArray, List.set_cons_zero, List.set_cons_succ]
        refine hold_one (i := 21) (by kernel_rfl) rfl rfl (fun K hK => ?_)
        go_simp
        refine (known17_any _).mono ?_
        rintro e w43 ⟨rfl, k43⟩
        go_wp2_with fail
        refine hK.out (New w43) _ _ (fun _ h => Keep.new k43 h) (New.refl _) ?_
        clear hK K
        try simp only [Act.put, List.getElem_toArray, List.getElem_cons_succ, List.getElem_cons_zero, List.setIfInBounds_toArray, List.set_cons_zero, List.set_cons_succ]
        refine hold_read0 (i := 22) (v := ?_) (New.refl _) rfl (by kernel_rfl) (by kernel_rfl) (by kernel_rfl) (fun _ _ _ h => h) rfl ?_ ?_
        rotate_left
        · intro w' hN
          go_simp
          try with_reducible rfl
        simp only [Act.put, List.getElem_toArray, List.getElem_cons_succ, List.getElem_cons_zero, List.setIfInBounds_toArray, List.set_cons_zero, List.set_cons_succ]
        refine hold_read0 (i := 23) (v := ?_) (New.refl _) rfl (by kernel_rfl) (by kernel_rfl) (by kernel_rfl) (fun _ _ _ h => h) rfl ?_ ?_
        rotate_left
        · intro w' hN
          go_simp
          try with_reducible rfl
        simp only [Act.put, List.getElem_toArray, List.getElem_cons_succ, List.getElem_cons_zero, List.setIfInBounds_toArray, List.set_cons_zero]
        refine wpAnyH_done (by kernel_rfl) ?_ _
        have hfin := ((n0.new k41).new k42).new k43
        go_wp2_with fail
        go_ret
        exact ⟨rfl, HNE.out.new hfin⟩
end Go.Proofs.YtpbbfbgmpidgnaaDoor
