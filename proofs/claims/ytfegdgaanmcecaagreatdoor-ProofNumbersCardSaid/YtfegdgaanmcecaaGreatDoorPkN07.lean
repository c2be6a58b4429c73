/-
  PROVED HERE: texts that belong together, one behind the other; what each proves, and under which conditions, its own opening remark says: Known17, Bytes, OwnRecs, OwnRefs, RefsM, RecsM.
-/
import Derived.Laws.BytesArg
import Derived.Lib.SlBytesRow
import Derived.Test.YtfegdgaanmcecaaGreatDoorPkN06
/-
  PROVED HERE: chapter 17's known runs; a row of bytes as a string; no condition.
-/
namespace Go.Proofs.YtfegdgaanmcecaaGreatDoor
open Go.RowKit
def strOf (bs : List UInt8) : ByteArray := ⟨bs.toArray⟩
@[go_sem] theorem strOf_toList (bs : List UInt8) : (strOf bs).toList = bs := by rw [ByteArray.toList_eq]; rfl
theorem run_str {D : Nat → Prop} {A : Option Addr} {n c : Nat} {bs : List UInt8} {w : World} (h : Bs w D A n bs) :
  (convert 31 9 (.slice A n c)).run Tryz.prog w = .ok (.string (strOf bs)) w := by
 have hl := h.len
 rcases Nat.eq_zero_or_pos n with h0 | h0
 ·subst h0
  obtain rfl : bs = [] := List.eq_nil_of_length_eq_zero hl
  rw [run_convert_bytes_string w _ _ 5 A 0 c Tryz.underlying31 Tryz.underlying5 Tryz.underlying9]
  rcases A with _ | a
  ·simp [Conv.bytesToString, Sem.run_pure]; rfl
  ·rw [run_bytesToString w a 0 c [] (by rw [loadCells, loadCellsFrom]; rfl)]; rfl
 ·obtain ⟨b, off, rfl, _, _, hc⟩ := h.cellAt h0
  subst hl
  exact Lib.run_convert_whole w 31 5 9 Tryz.underlying31 Tryz.underlying5 Tryz.underlying9 b off (strOf bs) (fun i hi => hc i hi) c
/-
  PROVED HERE: what bytes.Equal answers, and whether bytes.Trim leaves anything at the cutset of one nought; conditions: lengths that a slice may have.
-/
set_option maxRecDepth 100000 in
theorem equal_any (D D2 : Nat → Prop) (A A2 : Option Addr) (n c n2 c2 : Nat) (a b : List UInt8) (w : World) (hB : Bs w D A n a) (hB2 : Bs w D2 A2 n2 b) :
  Calls Tryz.prog 40 #[.slice A n c, .slice A2 n2 c2] w fun e w' => e = .returned (.bool (a == b)) ∧ w = w' := by
 have k1 := run_str (c := c) hB
 have k2 := run_str (c := c2) hB2
 clear hB hB2
 go_enter Tryz.func40, Tryz.ntmps40
 go_wp2_with fail
 go_ret
 exact ⟨rfl, rfl⟩
set_option maxRecDepth 100000 in
theorem trimRight_any (D : Nat → Prop) (A : Option Addr) (n c : Nat) (bs : List UInt8) (w : World) (hB : Bs w D A n bs) (hnc : n ≤ c) (hn : n ≤ 9223372036854775807) :
  Calls Tryz.prog 122 #[.slice A n c, .int .u8 0] w fun e w' => (∃ k, k ≤ n ∧ e = .returned (.slice A k c) ∧ (∀ i (h : i < bs.length), k ≤ i → bs[i] = 0) ∧ (∀ (h : k - 1 < bs.length), 0 < k → bs[k - 1] ≠ 0)) ∧ w = w' := by
 have HL := Lib.hid hB.len
 go_enter Tryz.func122, Tryz.ntmps122
 go_wp2_with fail
 go_loop [0] (fun s => ∃ k : Nat, k ≤ n ∧ s = .slice A k c ∧ (∀ i (h : i < bs.length), k ≤ i → bs[i] = 0)) (fun s => sliceLen s)
 case atStart => exact ⟨n, Nat.le_refl _, rfl, fun i h hk => absurd h (by have := HL.out; omega)⟩
 case round =>
  obtain ⟨k, hk, rfl, hz⟩ := hrel
  have HZ := Lib.hid hz
  clear hz
  by_cases h0 : 0 < k
  ·obtain ⟨b, off, rfl, _, _, hc⟩ := hB.cellAt (by omega)
   have hkl : k - 1 < bs.length := by have := HL.out; omega
   have ck := hc (k - 1) hkl
   by_cases hx : bs[k - 1]'hkl = 0
   ·rw [hx] at ck
    have t1 : (bv 0 == 0) = true := by decide
    have HX := Lib.hid hx
    have hsub : (k : Int) - 1 = ((k - 1 : Nat) : Int) := by omega
    have hh : ((k - 1 : Nat) : Int) ≤ c := by omega
    clear hc hx
    go_wp2_with fail
    go_round
    case rel => exact ⟨k - 1, by omega, by first | rfl | simp, fun i h hki => by
     by_cases e : i = k - 1
     ·subst e; exact HX.out
     ·exact HZ.out i h (by omega)⟩
    case measure => simp [sliceLen]; omega
   ·have t1 : (bv (bs[k - 1]'hkl) == 0) = false := by
     rw [beq_eq_false_iff_ne]; exact fun h => hx (bv_inj (h.trans (by decide)))
    have HX := Lib.hid hx
    clear hc hx
    go_wp2_with fail
    go_ret
    exact ⟨⟨k, hk, rfl, HZ.out, fun _ _ => HX.out⟩, rfl⟩
  ·obtain rfl : k = 0 := by omega
   go_wp2_with fail
   go_ret
   exact ⟨⟨0, hk, rfl, HZ.out, fun _ h => absurd h (by omega)⟩, rfl⟩
set_option maxRecDepth 100000 in
theorem trimLeft_any (D : Nat → Prop) (A : Option Addr) (n c : Nat) (bs : List UInt8) (w : World) (hB : Bs w D A n bs) (hnc : n ≤ c) (hc9 : c ≤ 9223372036854775807) :
  Calls Tryz.prog 121 #[.slice A n c, .int .u8 0] w fun e w' => (∃ A' m c', e = .returned (.slice A' m c') ∧ (m = 0 → ∀ x ∈ bs, x = 0) ∧ ((∀ x ∈ bs, x = 0) → m = 0)) ∧ w = w' := by
 go_enter Tryz.func121, Tryz.ntmps121
 go_wp2_with fail
 go_loop [0] (fun s => ∃ (A' : Option Addr) (m c' : Nat) (pre rest : List UInt8), s = .slice A' m c' ∧ m ≤ c' ∧ c' ≤ 9223372036854775807 ∧ Bs w D A' m rest ∧ bs = pre ++ rest ∧ ∀ x ∈ pre, x = 0) (fun s => sliceLen s)
 case atStart => exact ⟨A, n, c, [], bs, rfl, hnc, hc9, hB, rfl, by simp⟩
 case round =>
  clear hB hnc hc9
  obtain ⟨A', m, c', pre, rest, rfl, hmc, hc9, hB, hcat, hz⟩ := hrel
  have HC := Lib.hid hcat
  have HZ := Lib.hid hz
  have HL := Lib.hid hB.len
  clear hcat hz
  by_cases h0 : 0 < m
  ·obtain ⟨b, off, rfl, _, _, hc⟩ := hB.cellAt h0
   have hl0 : 0 < rest.length := by have := HL.out; omega
   have ck := hc 0 hl0
   rw [Nat.add_zero] at ck
   by_cases hx : rest[0]'hl0 = 0
   ·rw [hx] at ck
    have t1 : (bv 0 == 0) = true := by decide
    have hr : rest = 0 :: rest.drop 1 := by
     have := List.drop_eq_getElem_cons (i := 0) (l := rest) hl0
     rw [hx] at this; simpa using this
    have hcut : bs = (pre ++ [0]) ++ rest.drop 1 := by
     have e1 := HC.out
     rw [hr] at e1
     rw [e1, List.append_assoc]
     rfl
    have hz1 : ∀ x ∈ pre ++ [0], x = 0 := fun x hx' => by
     rcases List.mem_append.1 hx' with h | h
     ·exact HZ.out x h
     ·simpa using h
    have HR := Lib.hid (And.intro hcut hz1)
    clear hcut hz1
    have hfr := Bs.from_ hB (l := 1) h0
    have HLD : Hid ((rest.drop 1).length = m - 1) := Lib.hid (by rw [List.length_drop, HL.out])
    have i1 : (1 : Int) ≤ m := by omega
    have i2 : (1 : Int) ≤ c' := by omega
    clear hc hx hr
    by_cases hc1 : c' = 1
    ·have hm1 : m = 1 := by omega
     subst hc1
     subst hm1
     go_wp2_with fail
     go_round
     case rel => exact ⟨_, _, _, _, _, rfl, by omega, by omega, by
      have : rest.drop 1 = [] := List.eq_nil_of_length_eq_zero HLD.out
      rw [this]; exact Row.nil _ _ _ _, HR.out.1, HR.out.2⟩
     case measure => simp [sliceLen]
    ·go_wp2_with fail
     go_round
     case rel => exact ⟨_, _, _, _, _, rfl, by omega, by omega, hfr, HR.out.1, HR.out.2⟩
     case measure => simp [sliceLen]; omega
   ·have t1 : (bv (rest[0]'hl0) == 0) = false := by
     rw [beq_eq_false_iff_ne]; exact fun h => hx (bv_inj (h.trans (by decide)))
    have HX : Hid (¬ ∀ x ∈ bs, x = 0) := Lib.hid fun h => hx (h _ (by rw [HC.out]; exact List.mem_append_right _ (List.getElem_mem hl0)))
    have e0 : ((m : Int) == 0) = false := by simp; omega
    clear hc hx
    go_wp2_with fail
    go_ret
    exact ⟨⟨_, _, ⟨_, rfl⟩, fun h => absurd h (by omega), fun h => absurd h HX.out⟩, rfl⟩
  ·obtain rfl : m = 0 := by omega
   have HA : Hid (∀ x ∈ bs, x = 0) := Lib.hid (by
    have : rest = [] := List.eq_nil_of_length_eq_zero HL.out
    rw [HC.out, this, List.append_nil]; exact HZ.out)
   go_wp2_with fail
   go_ret
   exact ⟨⟨_, _, ⟨_, rfl⟩, fun _ => HA.out, fun _ => rfl⟩, rfl⟩
def TrimRet (bs : List UInt8) (e : Ending) : Prop := ∃ A' m c', e = .returned (.slice A' m c') ∧ (m = 0 → ∀ x ∈ bs, x = 0) ∧ ((∀ x ∈ bs, x = 0) → m = 0)
set_option maxRecDepth 100000 in
theorem trim_any (D : Nat → Prop) (A : Option Addr) (n c : Nat) (bs : List UInt8) (w : World) (hB : Bs w D A n bs) (hnc : n ≤ c) (hc9 : c ≤ 9223372036854775807) :
  Calls Tryz.prog 91 #[.slice A n c, .string { data := #[0] }] w fun e w' => TrimRet bs e ∧ New w w' := by
 have HL := Lib.hid hB.len
 by_cases h0 : n = 0
 ·subst h0
  have HA : Hid (∀ x ∈ bs, x = 0) := Lib.hid (by
   rw [List.eq_nil_of_length_eq_zero HL.out]; simp)
  clear hB
  go_enter Tryz.func91, Tryz.ntmps91
  go_wp2_with fail
  go_ret
  exact ⟨⟨_, _, _, rfl, fun _ => HA.out, fun _ => rfl⟩, New.refl _⟩
 ·have H1 := Lib.hid (fun W (h : New w W) => trimRight_any D A n c bs W (Row.new hB h) hnc (by omega))
  have H2 := Lib.hid (fun k (hk : k ≤ n) W (h : New w W) => trimLeft_any D A k c (bs.take k) W (Bs.cutTo (bs := bs) (Row.new hB h) hk) (by omega) hc9)
  have e0 : ((n : Int) == 0) = false := by simp; omega
  clear hB
  have t0 : ({ data := #[0] } : ByteArray)[0].toNat = 0 := by decide
  go_enter Tryz.func91, Tryz.ntmps91
  go_wp2_with fail
  have x0 : ∀ W, New w W → True := fun _ _ => trivial
  refine hold_begin (by kernel_rfl) ?_
  have n0 : New w w.drew := (New.refl w).drew
  replace x0 := fun W (hW : New w.drew W) => x0 W (Keep.new n0 hW)
  refine take1 0 ?_
  refine take1 1 ?_
  refine take1 2 ?_
  refine take1 4 ?_
  refine take1 5 ?_
  refine hold_step (i := 3) (by kernel_rfl) rfl rfl (fun K hK => ?_)
  go_simp
  refine (H1.out _ n0).mono ?_
  rintro e w1 ⟨⟨k, hk, rfl, hz, hnz⟩, rfl⟩
  go_wp2_with fail
  refine hK.out _ _ (New.refl _) ?_
  clear hK K
  try simp only [Act.put, ly1, ly2, ly3, ly4, ly5, ly6]
  replace n0 := Keep.new n0 (New.refl _)
  replace x0 := fun W (hW : New w.drew W) => x0 W (Keep.new (New.refl _) hW)
  refine hold_step (i := 6) (by kernel_rfl) rfl rfl (fun K hK => ?_)
  go_simp
  refine (H2.out k hk _ n0).mono ?_
  rintro e w2 ⟨⟨A2, m2, c2, rfl, hm, hm'⟩, rfl⟩
  go_wp2_with fail
  refine hK.out _ _ (New.refl _) ?_
  clear hK K
  try simp only [Act.put, ly1, ly2, ly3, ly4, ly5, ly6]
  replace n0 := Keep.new n0 (New.refl _)
  replace x0 := fun W (hW : New w.drew W) => x0 W (Keep.new (New.refl _) hW)
  refine take1 7 ?_
  refine wpAnyH_done (by kernel_rfl) ?_ _
  have hall : ∀ P : UInt8 → Prop, (∀ x ∈ bs, P x) ↔ (∀ x ∈ bs.take k, P x) ∧ ∀ x ∈ bs.drop k, P x := fun P => by
   conv => lhs; rw [← List.take_append_drop k bs]
   constructor
   ·exact fun h => ⟨fun x hx => h x (List.mem_append_left _ hx), fun x hx => h x (List.mem_append_right _ hx)⟩
   ·exact fun h x hx => (List.mem_append.1 hx).elim (h.1 x) (h.2 x)
  have hd : ∀ x ∈ bs.drop k, x = 0 := fun x hx => by
   obtain ⟨i, hi, rfl⟩ := List.getElem_of_mem hx
   rw [List.getElem_drop]
   exact hz _ _ (by omega)
  have hM := Lib.hid (show (m2 = 0 → ∀ x ∈ bs, x = 0) ∧ ((∀ x ∈ bs, x = 0) → m2 = 0) from
   ⟨fun h => (hall _).2 ⟨hm h, hd⟩, fun h => hm' ((hall _).1 h).1⟩)
  clear hm hm' hz hnz hall hd x0 H1 H2
  have N0 := Lib.hid n0
  clear n0
  go_wp2_with fail
  go_ret
  exact ⟨⟨_, _, _, rfl, hM.out.1, hM.out.2⟩, N0.out⟩
/-
  PROVED HERE: rows of records that a call makes, and the law of append at them; condition: fewer than 2^40 records.
-/
theorem info_record : (Tryz.prog.info? 42).map (fun i => (i.zero, i.size, i.bytes)) = some (some (.agg #[.int .i64 0, .int .u64 0, .slice none 0 0]), 3, 40) := by kernel_rfl
theorem app_cells3 {ops : Array Oper} {rest : List Oper} {o : Oper} {a : Act} {Q : Exit → Act → World → Prop} (w : World) (hgd : o.guard = none) (s x : Operand)
  (ho : o.op = .call { callee := .builtin .append, args := #[s, x], argTypes := #[77, 77] })
  (base : Nat) (A : Option Addr) (n c : Nat) (xs : List Value) (hs : a.eval s = .slice A n c) (hown : Own w base 42 3 A n c xs)
  (D : Nat → Prop) (A2 : Option Addr) (m c2 : Nat) (news : List Value) (hx : a.eval x = .slice A2 m c2) (hr : Row w D A2 m 3 news) (h1 : ∀ u ∈ news, u.oneCell' = true)
  (h63 : n + m ≤ 1099511627776) (hbase : base ≤ w.heap.size)
  (h : ∀ A' c' w', Own w' base 42 3 A' (n + m) c' (xs ++ news) → w.grownBy w' (blk A) → (blk A' = blk A ∨ blk A' = some w.heap.size) → wpList Tryz.prog ops Q rest (a.put o.dst (.slice A' (n + m) c')) w') : wpList Tryz.prog ops Q (o :: rest) a w := by
 obtain ⟨i, hi, hz0, hz1, hz2⟩ := info_parts info_record
 exact wpList_append_row w hgd s x 77 ho base 42 i (.agg #[.int .i64 0, .int .u64 0, .slice none 0 0]) 3 40 Tryz.underlying77 hi hz0 hz1 hz2 rfl (by decide) A n c xs hs hown D A2 m c2 news hx hr h1 (by unfold maxLen; omega) (by omega) hbase h
def RecAt9 (w : World) (D : Nat → Prop) (vs : List Value) (i : Nat) (r : RecP) : Prop :=
 ∃ A c, vs[i]? = some (.int .i64 r.kind) ∧ vs[i + 1]? = some (.int .u64 r.seq) ∧ vs[i + 2]? = some (.slice A r.body.length c) ∧ r.body.length ≤ c ∧ Bs w D A r.body.length r.body ∧ 0 ≤ r.seq ∧ r.seq ≤ 18446744073709551615 ∧ c ≤ 9223372036854775807
def OwnRecs (w : World) (base : Nat) (D : Nat → Prop) (A : Option Addr) (n c : Nat) (rs : List RecP) : Prop :=
 ∃ vs : List Value, Own w base 42 3 A n c vs ∧ rs.length = n ∧ ∀ k (h : k < rs.length), RecAt9 w (fun b => D b ∧ some b ≠ blk A) vs (k * 3) rs[k]
section
variable {w w' : World} {base base' : Nat} {D E : Nat → Prop} {A : Option Addr} {n c : Nat} {rs : List RecP}
theorem RecAt9.keep {vs : List Value} {i : Nat} {r : RecP} (h : RecAt9 w D vs i r) (hk : Keep E w w') (hE : ∀ b, b < w.heap.size → D b → E b) : RecAt9 w' D vs i r := by
 obtain ⟨A, c, h1, h2, h3, h4, h5, h6, h7, h8⟩ := h
 exact ⟨A, c, h1, h2, h3, h4, h5.keep hk hE, h6, h7, h8⟩
theorem RecAt9.imp {vs : List Value} {i : Nat} {r : RecP} (h : RecAt9 w D vs i r) (hE : ∀ b, b < w.heap.size → D b → E b) : RecAt9 w E vs i r := by
 obtain ⟨A, c, h1, h2, h3, h4, h5, h6, h7, h8⟩ := h
 exact ⟨A, c, h1, h2, h3, h4, h5.imp hE, h6, h7, h8⟩
theorem OwnRecs.nil (w : World) (base : Nat) (D : Nat → Prop) : OwnRecs w base D none 0 0 [] := ⟨[], Own.nil _ _ _ _, rfl, fun k hk => absurd hk (by simp)⟩
theorem OwnRecs.new (h : OwnRecs w base D A n c rs) (hk : New w w') : OwnRecs w' base D A n c rs := by
 obtain ⟨vs, h1, h2, h3⟩ := h
 exact ⟨vs, own_keep h1 hk (fun _ _ => trivial), h2, fun k hk' => (h3 k hk').keep hk fun _ _ _ => trivial⟩
theorem OwnRecs.len (h : OwnRecs w base D A n c rs) : rs.length = n := by obtain ⟨_, _, h, _⟩ := h; exact h
theorem OwnRecs.cap (h : OwnRecs w base D A n c rs) : n ≤ c := by obtain ⟨_, h, _⟩ := h; exact own_cap h
theorem OwnRecs.capMax (h : OwnRecs w base D A n c rs) : c ≤ 9223372036854775807 := by obtain ⟨_, h, _⟩ := h; exact own_capMax h
theorem OwnRecs.recs (h : OwnRecs w base D A n c rs) (hb : ∀ r ∈ rs, r.body.length ≤ 9223372036854770000) : Recs w (fun b => base ≤ b ∨ D b) A n rs := by
 obtain ⟨vs, h1, h2, h3⟩ := h
 refine ⟨vs, (Row.of_own h1).imp (fun _ _ h => .inl h), h2, fun k hk => ?_⟩
 obtain ⟨A', c', e1, e2, e3, hc, hB, h5, h6, h7⟩ := h3 k hk
 exact ⟨A', c', e1, e2, e3, hc, hB.imp (fun _ _ h => .inr h.1), h5, h6, hb _ (List.getElem_mem hk), h7⟩
theorem OwnRecs.lt (h : OwnRecs w base D A n c rs) : ∀ k, blk A = some k → base ≤ k ∧ k < w.heap.size := by obtain ⟨_, h, _⟩ := h; exact own_lt h
end
theorem own_ne {w : World} {base base' : Nat} {A A' : Option Addr} {n c n' c' : Nat} {xs : List Value} {bs : List UInt8} (h : Own w base 42 3 A n c xs) (hb : OwnB w base' 5 A' n' c' bs) : Bs w (fun b => base' ≤ b ∧ some b ≠ blk A) A' n' bs := by
 have hr := Row.of_own hb
 refine ⟨hr.1, fun hn => ?_⟩
 obtain ⟨b, off, rfl, hd, hlt, hc⟩ := hr.2 hn
 refine ⟨b, off, rfl, ⟨hd, fun e => ?_⟩, hlt, hc⟩
 rcases hb.2 with ⟨hv, _⟩ | ⟨g, cap, cur, hv, _, hg, _⟩
 ·cases hv
 ·injection hv with hA; injection hA with hA; injection hA with hA; subst hA
  rcases h.2 with ⟨hv2, _⟩ | ⟨g2, cap2, cur2, hv2, _, hg2, _⟩
  ·injection hv2 with hA; subst hA; cases e
  ·injection hv2 with hA; subst hA
   have : b = g2 := by injection e
   subst this
   rw [hg] at hg2
   injection hg2 with hg2
   injection hg2 with _ ht
   exact absurd ht (by decide)
theorem OwnRecs.apart {w : World} {base base' : Nat} {D : Nat → Prop} {A A' : Option Addr} {n c n' c' : Nat} {rs : List RecP} {bs : List UInt8} (h : OwnRecs w base D A n c rs) (hb : OwnB w base' 5 A' n' c' bs) : Bs w (fun b => base' ≤ b ∧ some b ≠ blk A) A' n' bs := by
 obtain ⟨_, h, _⟩ := h; exact own_ne h hb
theorem app_recs {ops : Array Oper} {rest : List Oper} {o : Oper} {a : Act} {Q : Exit → Act → World → Prop} (w : World) (hgd : o.guard = none) (s x : Operand)
  (ho : o.op = .call { callee := .builtin .append, args := #[s, x], argTypes := #[77, 77] })
  (base : Nat) (D : Nat → Prop) (A : Option Addr) (n c : Nat) (rs : List RecP) (hs : a.eval s = .slice A n c) (hown : OwnRecs w base D A n c rs)
  (D2 : Nat → Prop) (A2 : Option Addr) (c2 : Nat) (A' : Option Addr) (c' : Nat) (y : RecP) (hx : a.eval x = .slice A2 1 c2) (hr : Row w D2 A2 1 3 [.int .i64 y.kind, .int .u64 y.seq, .slice A' y.body.length c'])
  (hy : Bs w (fun b => D b ∧ some b ≠ blk A) A' y.body.length y.body) (hmc : y.body.length ≤ c') (hc9 : c' ≤ 9223372036854775807) (hs0 : 0 ≤ y.seq) (hs1 : y.seq ≤ 18446744073709551615)
  (h63 : n + 1 ≤ 1099511627776) (hbase : base ≤ w.heap.size)
  (h : ∀ A3 c3 w3, OwnRecs w3 base D A3 (n + 1) c3 (rs ++ [y]) → w.grownBy w3 (blk A) → (blk A3 = blk A ∨ blk A3 = some w.heap.size) → wpList Tryz.prog ops Q rest (a.put o.dst (.slice A3 (n + 1) c3)) w3) : wpList Tryz.prog ops Q (o :: rest) a w := by
 obtain ⟨vs, h1, h2, h3⟩ := hown
 refine app_cells3 w hgd s x ho base A n c vs hs h1 D2 A2 1 c2 [.int .i64 y.kind, .int .u64 y.seq, .slice A' y.body.length c'] hx hr (by intro u hu; simp at hu; rcases hu with rfl | rfl | rfl <;> rfl) h63 hbase ?_
 intro A3 c3 w3 hown3 hg3 hbk3
 refine h A3 c3 w3 ⟨vs ++ [.int .i64 y.kind, .int .u64 y.seq, .slice A' y.body.length c'], hown3, by simp [h2], fun k hk => ?_⟩ hg3 hbk3
 have hvl : vs.length = n * 3 := h1.1
 have move : ∀ {A0 : Option Addr} {m0 : Nat} {z : List UInt8}, Bs w (fun b => D b ∧ some b ≠ blk A) A0 m0 z → Bs w3 (fun b => D b ∧ some b ≠ blk A3) A0 m0 z := fun {A0 m0 z} hb => by
  have hk3 : Keep (fun b => some b ≠ blk A) w w3 := (Keep.refl _ w).grown hg3 (fun k hk hd => absurd hk.symm hd)
  have hb3 : Bs w (fun b => (D b ∧ some b ≠ blk A) ∧ some b ≠ blk A3) A0 m0 z := hb.imp fun b hlt hd => ⟨hd, by
   rcases hbk3 with e | e
   ·rw [e]; exact hd.2
   ·rw [e]; intro e'; injection e'; omega⟩
  exact (Row.keep hb3 hk3 (fun b _ hd => hd.1.2)).imp fun b _ hd => ⟨hd.1.1, hd.2⟩
 by_cases hkn : k < rs.length
 ·rw [List.getElem_append_left hkn]
  obtain ⟨A0, c0, e1, e2, e3, hc, hb, hq⟩ := h3 k hkn
  exact ⟨A0, c0, by rw [List.getElem?_append_left (by omega)]; exact e1, by rw [List.getElem?_append_left (by omega)]; exact e2, by rw [List.getElem?_append_left (by omega)]; exact e3, hc, move hb, hq⟩
 ·have hk' : k = rs.length := by simp at hk; omega
  subst hk'
  rw [List.getElem_append_right (Nat.le_refl _)]
  simp only [Nat.sub_self, List.getElem_singleton]
  refine ⟨A', c', ?_, ?_, ?_, hmc, move hy, hs0, hs1, hc9⟩
  ·rw [List.getElem?_append_right (by omega), show rs.length * 3 - vs.length = 0 from by omega]; rfl
  ·rw [List.getElem?_append_right (by omega), show rs.length * 3 + 1 - vs.length = 1 from by omega]; rfl
  ·rw [List.getElem?_append_right (by omega), show rs.length * 3 + 2 - vs.length = 2 from by omega]; rfl
/-
  PROVED HERE: rows of the reference's records that a call makes, and the law of append at them; condition: fewer than 2^40 records.
-/
theorem info_refrec : (Tryz.prog.info? 53).map (fun i => (i.zero, i.size, i.bytes)) = some (some (.agg #[.int .i64 0, .int .u64 0, .slice none 0 0]), 3, 40) := by kernel_rfl
theorem app_cells3r {ops : Array Oper} {rest : List Oper} {o : Oper} {a : Act} {Q : Exit → Act → World → Prop} (w : World) (hgd : o.guard = none) (s x : Operand)
  (ho : o.op = .call { callee := .builtin .append, args := #[s, x], argTypes := #[25, 25] })
  (base : Nat) (A : Option Addr) (n c : Nat) (xs : List Value) (hs : a.eval s = .slice A n c) (hown : Own w base 53 3 A n c xs)
  (D : Nat → Prop) (A2 : Option Addr) (m c2 : Nat) (news : List Value) (hx : a.eval x = .slice A2 m c2) (hr : Row w D A2 m 3 news) (h1 : ∀ u ∈ news, u.oneCell' = true)
  (h63 : n + m ≤ 1099511627776) (hbase : base ≤ w.heap.size)
  (h : ∀ A' c' w', Own w' base 53 3 A' (n + m) c' (xs ++ news) → w.grownBy w' (blk A) → (blk A' = blk A ∨ blk A' = some w.heap.size) → wpList Tryz.prog ops Q rest (a.put o.dst (.slice A' (n + m) c')) w') : wpList Tryz.prog ops Q (o :: rest) a w := by
 obtain ⟨i, hi, hz0, hz1, hz2⟩ := info_parts info_refrec
 exact wpList_append_row w hgd s x 25 ho base 53 i (.agg #[.int .i64 0, .int .u64 0, .slice none 0 0]) 3 40 Tryz.underlying25 hi hz0 hz1 hz2 rfl (by decide) A n c xs hs hown D A2 m c2 news hx hr h1 (by unfold maxLen; omega) (by omega) hbase h
def OwnRefs (w : World) (base : Nat) (D : Nat → Prop) (A : Option Addr) (n c : Nat) (rs : List RecP) : Prop :=
 ∃ vs : List Value, Own w base 53 3 A n c vs ∧ rs.length = n ∧ ∀ k (h : k < rs.length), RecAt9 w (fun b => D b ∧ some b ≠ blk A) vs (k * 3) rs[k]
section
variable {w w' : World} {base base' : Nat} {D E : Nat → Prop} {A : Option Addr} {n c : Nat} {rs : List RecP}
theorem OwnRefs.nil (w : World) (base : Nat) (D : Nat → Prop) : OwnRefs w base D none 0 0 [] := ⟨[], Own.nil _ _ _ _, rfl, fun k hk => absurd hk (by simp)⟩
theorem OwnRefs.new (h : OwnRefs w base D A n c rs) (hk : New w w') : OwnRefs w' base D A n c rs := by
 obtain ⟨vs, h1, h2, h3⟩ := h
 exact ⟨vs, own_keep h1 hk (fun _ _ => trivial), h2, fun k hk' => (h3 k hk').keep hk fun _ _ _ => trivial⟩
theorem OwnRefs.len (h : OwnRefs w base D A n c rs) : rs.length = n := by obtain ⟨_, _, h, _⟩ := h; exact h
theorem OwnRefs.cap (h : OwnRefs w base D A n c rs) : n ≤ c := by obtain ⟨_, h, _⟩ := h; exact own_cap h
theorem OwnRefs.capMax (h : OwnRefs w base D A n c rs) : c ≤ 9223372036854775807 := by obtain ⟨_, h, _⟩ := h; exact own_capMax h
theorem OwnRefs.recs (h : OwnRefs w base D A n c rs) (hb : ∀ r ∈ rs, r.body.length ≤ 9223372036854770000) : Recs w (fun b => base ≤ b ∨ D b) A n rs := by
 obtain ⟨vs, h1, h2, h3⟩ := h
 refine ⟨vs, (Row.of_own h1).imp (fun _ _ h => .inl h), h2, fun k hk => ?_⟩
 obtain ⟨A', c', e1, e2, e3, hc, hB, h5, h6, h7⟩ := h3 k hk
 exact ⟨A', c', e1, e2, e3, hc, hB.imp (fun _ _ h => .inr h.1), h5, h6, hb _ (List.getElem_mem hk), h7⟩
theorem OwnRefs.lt (h : OwnRefs w base D A n c rs) : ∀ k, blk A = some k → base ≤ k ∧ k < w.heap.size := by obtain ⟨_, h, _⟩ := h; exact own_lt h
end
theorem own_neR {w : World} {base base' : Nat} {A A' : Option Addr} {n c n' c' : Nat} {xs : List Value} {bs : List UInt8} (h : Own w base 53 3 A n c xs) (hb : OwnB w base' 5 A' n' c' bs) : Bs w (fun b => base' ≤ b ∧ some b ≠ blk A) A' n' bs := by
 have hr := Row.of_own hb
 refine ⟨hr.1, fun hn => ?_⟩
 obtain ⟨b, off, rfl, hd, hlt, hc⟩ := hr.2 hn
 refine ⟨b, off, rfl, ⟨hd, fun e => ?_⟩, hlt, hc⟩
 rcases hb.2 with ⟨hv, _⟩ | ⟨g, cap, cur, hv, _, hg, _⟩
 ·cases hv
 ·injection hv with hA; injection hA with hA; injection hA with hA; subst hA
  rcases h.2 with ⟨hv2, _⟩ | ⟨g2, cap2, cur2, hv2, _, hg2, _⟩
  ·injection hv2 with hA; subst hA; cases e
  ·injection hv2 with hA; subst hA
   have : b = g2 := by injection e
   subst this
   rw [hg] at hg2
   injection hg2 with hg2
   injection hg2 with _ ht
   exact absurd ht (by decide)
theorem OwnRefs.apart {w : World} {base base' : Nat} {D : Nat → Prop} {A A' : Option Addr} {n c n' c' : Nat} {rs : List RecP} {bs : List UInt8} (h : OwnRefs w base D A n c rs) (hb : OwnB w base' 5 A' n' c' bs) : Bs w (fun b => base' ≤ b ∧ some b ≠ blk A) A' n' bs := by
 obtain ⟨_, h, _⟩ := h; exact own_neR h hb
theorem app_refs {ops : Array Oper} {rest : List Oper} {o : Oper} {a : Act} {Q : Exit → Act → World → Prop} (w : World) (hgd : o.guard = none) (s x : Operand)
  (ho : o.op = .call { callee := .builtin .append, args := #[s, x], argTypes := #[25, 25] })
  (base : Nat) (D : Nat → Prop) (A : Option Addr) (n c : Nat) (rs : List RecP) (hs : a.eval s = .slice A n c) (hown : OwnRefs w base D A n c rs)
  (D2 : Nat → Prop) (A2 : Option Addr) (c2 : Nat) (A' : Option Addr) (c' : Nat) (y : RecP) (hx : a.eval x = .slice A2 1 c2) (hr : Row w D2 A2 1 3 [.int .i64 y.kind, .int .u64 y.seq, .slice A' y.body.length c'])
  (hy : Bs w (fun b => D b ∧ some b ≠ blk A) A' y.body.length y.body) (hmc : y.body.length ≤ c') (hc9 : c' ≤ 9223372036854775807) (hs0 : 0 ≤ y.seq) (hs1 : y.seq ≤ 18446744073709551615)
  (h63 : n + 1 ≤ 1099511627776) (hbase : base ≤ w.heap.size)
  (h : ∀ A3 c3 w3, OwnRefs w3 base D A3 (n + 1) c3 (rs ++ [y]) → w.grownBy w3 (blk A) → (blk A3 = blk A ∨ blk A3 = some w.heap.size) → wpList Tryz.prog ops Q rest (a.put o.dst (.slice A3 (n + 1) c3)) w3) : wpList Tryz.prog ops Q (o :: rest) a w := by
 obtain ⟨vs, h1, h2, h3⟩ := hown
 refine app_cells3r w hgd s x ho base A n c vs hs h1 D2 A2 1 c2 [.int .i64 y.kind, .int .u64 y.seq, .slice A' y.body.length c'] hx hr (by intro u hu; simp at hu; rcases hu with rfl | rfl | rfl <;> rfl) h63 hbase ?_
 intro A3 c3 w3 hown3 hg3 hbk3
 refine h A3 c3 w3 ⟨vs ++ [.int .i64 y.kind, .int .u64 y.seq, .slice A' y.body.length c'], hown3, by simp [h2], fun k hk => ?_⟩ hg3 hbk3
 have hvl : vs.length = n * 3 := h1.1
 have move : ∀ {A0 : Option Addr} {m0 : Nat} {z : List UInt8}, Bs w (fun b => D b ∧ some b ≠ blk A) A0 m0 z → Bs w3 (fun b => D b ∧ some b ≠ blk A3) A0 m0 z := fun {A0 m0 z} hb => by
  have hk3 : Keep (fun b => some b ≠ blk A) w w3 := (Keep.refl _ w).grown hg3 (fun k hk hd => absurd hk.symm hd)
  have hb3 : Bs w (fun b => (D b ∧ some b ≠ blk A) ∧ some b ≠ blk A3) A0 m0 z := hb.imp fun b hlt hd => ⟨hd, by
   rcases hbk3 with e | e
   ·rw [e]; exact hd.2
   ·rw [e]; intro e'; injection e'; omega⟩
  exact (Row.keep hb3 hk3 (fun b _ hd => hd.1.2)).imp fun b _ hd => ⟨hd.1.1, hd.2⟩
 by_cases hkn : k < rs.length
 ·rw [List.getElem_append_left hkn]
  obtain ⟨A0, c0, e1, e2, e3, hc, hb, hq⟩ := h3 k hkn
  exact ⟨A0, c0, by rw [List.getElem?_append_left (by omega)]; exact e1, by rw [List.getElem?_append_left (by omega)]; exact e2, by rw [List.getElem?_append_left (by omega)]; exact e3, hc, move hb, hq⟩
 ·have hk' : k = rs.length := by simp at hk; omega
  subst hk'
  rw [List.getElem_append_right (Nat.le_refl _)]
  simp only [Nat.sub_self, List.getElem_singleton]
  refine ⟨A', c', ?_, ?_, ?_, hmc, move hy, hs0, hs1, hc9⟩
  ·rw [List.getElem?_append_right (by omega), show rs.length * 3 - vs.length = 0 from by omega]; rfl
  ·rw [List.getElem?_append_right (by omega), show rs.length * 3 + 1 - vs.length = 1 from by omega]; rfl
  ·rw [List.getElem?_append_right (by omega), show rs.length * 3 + 2 - vs.length = 2 from by omega]; rfl
/-
  PROVED HERE: the law of append at rows of records, many at once; condition: fewer than 2^40 records.
-/
theorem app_recsMR {ops : Array Oper} {rest : List Oper} {o : Oper} {a : Act} {Q : Exit → Act → World → Prop} (w : World) (hgd : o.guard = none) (s x : Operand)
  (ho : o.op = .call { callee := .builtin .append, args := #[s, x], argTypes := #[25, 25] })
  (base : Nat) (D : Nat → Prop) (A : Option Addr) (n c : Nat) (rs : List RecP) (hs : a.eval s = .slice A n c) (hown : OwnRefs w base D A n c rs)
  (base2 : Nat) (D2 : Nat → Prop) (A2 : Option Addr) (m c2 : Nat) (ls : List RecP) (hx : a.eval x = .slice A2 m c2) (hsrc : OwnRefs w base2 D2 A2 m c2 ls) (hD : ∀ b, D2 b → D b ∧ some b ≠ blk A)
  (h63 : n + m ≤ 1099511627776) (hbase : base ≤ w.heap.size)
  (h : ∀ A3 c3 w3, OwnRefs w3 base D A3 (n + m) c3 (rs ++ ls) → w.grownBy w3 (blk A) → (blk A3 = blk A ∨ blk A3 = some w.heap.size) → wpList Tryz.prog ops Q rest (a.put o.dst (.slice A3 (n + m) c3)) w3) : wpList Tryz.prog ops Q (o :: rest) a w := by
 obtain ⟨vs, h1, h2, h3⟩ := hown
 obtain ⟨us, g1, g2, g3⟩ := hsrc
 have hul : us.length = m * 3 := g1.1
 have hone : ∀ u ∈ us, u.oneCell' = true := by
  intro u hu
  obtain ⟨j, hj, rfl⟩ := List.mem_iff_getElem.1 hu
  have hjm : j / 3 < ls.length := by omega
  obtain ⟨A0, c0, e1, e2, e3, _⟩ := g3 (j / 3) hjm
  have hr : j = j / 3 * 3 ∨ j = j / 3 * 3 + 1 ∨ j = j / 3 * 3 + 2 := by omega
  rcases hr with hr | hr | hr
  ·rw [← hr, List.getElem?_eq_getElem hj] at e1; injection e1 with e1; rw [e1]; rfl
  ·rw [← hr, List.getElem?_eq_getElem hj] at e2; injection e2 with e2; rw [e2]; rfl
  ·rw [← hr, List.getElem?_eq_getElem hj] at e3; injection e3 with e3; rw [e3]; rfl
 refine app_cells3r w hgd s x ho base A n c vs hs h1 _ A2 m c2 us hx (Row.of_own g1) hone h63 hbase ?_
 intro A3 c3 w3 hown3 hg3 hbk3
 refine h A3 c3 w3 ⟨vs ++ us, hown3, by rw [List.length_append]; omega, fun k hk => ?_⟩ hg3 hbk3
 have hvl : vs.length = n * 3 := h1.1
 have move : ∀ {A0 : Option Addr} {m0 : Nat} {z : List UInt8}, Bs w (fun b => D b ∧ some b ≠ blk A) A0 m0 z → Bs w3 (fun b => D b ∧ some b ≠ blk A3) A0 m0 z := fun {A0 m0 z} hb => by
  have hk3 : Keep (fun b => some b ≠ blk A) w w3 := (Keep.refl _ w).grown hg3 (fun k hk hd => absurd hk.symm hd)
  have hb3 : Bs w (fun b => (D b ∧ some b ≠ blk A) ∧ some b ≠ blk A3) A0 m0 z := hb.imp fun b hlt hd => ⟨hd, by
   rcases hbk3 with e | e
   ·rw [e]; exact hd.2
   ·rw [e]; intro e'; injection e'; omega⟩
  exact (Row.keep hb3 hk3 (fun b _ hd => hd.1.2)).imp fun b _ hd => ⟨hd.1.1, hd.2⟩
 by_cases hkn : k < rs.length
 ·rw [List.getElem_append_left hkn]
  obtain ⟨A0, c0, e1, e2, e3, hc, hb, hq⟩ := h3 k hkn
  exact ⟨A0, c0, by rw [List.getElem?_append_left (by omega)]; exact e1, by rw [List.getElem?_append_left (by omega)]; exact e2, by rw [List.getElem?_append_left (by omega)]; exact e3, hc, move hb, hq⟩
 ·rw [List.getElem_append_right (by omega)]
  have hkl : k - rs.length < ls.length := by rw [List.length_append] at hk; omega
  obtain ⟨A0, c0, e1, e2, e3, hc, hb, hq⟩ := g3 (k - rs.length) hkl
  refine ⟨A0, c0, ?_, ?_, ?_, hc, move (hb.imp fun b _ hd => hD b hd.1), hq⟩
  ·rw [List.getElem?_append_right (by omega), show k * 3 - vs.length = (k - rs.length) * 3 from by omega]; exact e1
  ·rw [List.getElem?_append_right (by omega), show k * 3 + 1 - vs.length = (k - rs.length) * 3 + 1 from by omega]; exact e2
  ·rw [List.getElem?_append_right (by omega), show k * 3 + 2 - vs.length = (k - rs.length) * 3 + 2 from by omega]; exact e3
/-
  PROVED HERE: the law of append at rows of records, many at once; condition: fewer than 2^40 records.
-/
end Go.Proofs.YtfegdgaanmcecaaGreatDoor
