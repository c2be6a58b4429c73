/-
  PROVED HERE: texts that belong together, one behind the other; what each proves, and under which conditions, its own opening remark says: DoAny21, State21, Known21.
-/
import Derived.Test.YtajnkbfcnmajoaaGreatDoorPkB00
import Derived.Test.YtajnkbfcnmajoaaGreatDoorPkB17
import Derived.Test.YtajnkbfcnmajoaaGreatDoorPkB34
import Derived.Test.YtajnkbfcnmajoaaGreatDoorPkH01
import Derived.Test.YtajnkbfcnmajoaaGreatDoorPkH04
import Derived.Test.YtajnkbfcnmajoaaGreatDoorPkH06
/-
  PROVED HERE: what chapter 21's world.do answers, whatever it is asked: true, and the world stays one; conditions: the world is as WAt says, just the sealed segments lie on its disk.
-/
namespace Go.Proofs.YtajnkbfcnmajoaaGreatDoor
open Go.RowKit
theorem laid_found {id : List UInt8} {l : List (List RecP)} {S : List UInt8} {p g : Nat} (hf : LogFine id l) (hl : LaidOn S p g (logOf id l).images) (hg : l.length ≤ g) :
  (∀ i, i < l.length → placeOf S p i = (logOf id l).images.getD i []) ∧ (l.length < g → (segRead (placeOf S p l.length)).2.2 ≠ 0 ∨ (segRead (placeOf S p l.length)).1.index ≠ (l.length : Int)) := by
 have hi := hf.ok.images
 refine ⟨fun i h => ?_, fun h => .inl ?_⟩
 ·rw [hl i (by omega), List.getD_eq_getElem?_getD, List.getD_eq_getElem?_getD, List.getElem?_eq_getElem (by omega)]; rfl
 ·rw [hl _ h, List.getD_eq_getElem?_getD, List.getElem?_eq_none (by omega)]
  refine no_nought _ ?_
  show (List.replicate 1024 (0 : UInt8)).take 16 = _
  rw [List.take_replicate]
  rfl
def LogS.nxt (s : LogS) : Int := (logOf id21 s.segs).next + s.waits.length
def LogS.step (n : Nat) (s : LogS) (x : AskP) : LogS := if x.kind = 1 then s.ask n s.nxt x.mark x.turn x.body else if x.kind = 2 then s.shut else if x.kind = 3 then ⟨s.segs, []⟩ else s
theorem shut_nxt (s : LogS) : s.shut.nxt = s.nxt := by
 unfold LogS.shut
 split
 ·rfl
 ·unfold LogS.nxt; rw [logOf_snoc]; simp [logStep]
theorem ask_nxt (n : Nat) (s : LogS) (nx : Int) (mk : Bool) (y : Int) (b : List UInt8) : s.nxt ≤ (s.ask n nx mk y b).nxt ∧ (s.ask n nx mk y b).nxt ≤ s.nxt + 1 := by
 unfold LogS.ask
 split
 ·omega
 ·split
  ·rename_i s' he
   unfold LogS.append at he
   split at he
   ·cases he
   ·split at he
    ·injection he with he; subst he; unfold LogS.nxt; simp only [List.length_append, List.length_singleton]; omega
    ·split at he
     ·cases he
     ·injection he with he; subst he; unfold LogS.nxt; rw [logOf_snoc]; simp [logStep]; omega
  ·omega
theorem step_nxt (n : Nat) (s : LogS) (x : AskP) : (s.step n x).nxt ≤ s.nxt + 1 := by
 unfold LogS.step
 split
 ·exact (ask_nxt n s _ _ _ _).2
 ·split
  ·rw [shut_nxt]; omega
  ·split
   ·unfold LogS.nxt; simp only [List.length_nil]; omega
   ·omega
section
variable {w w' : World} {D DL F : Nat → Prop} {base bw : Nat} {q : DiskB} {v : W21V} {s : LogS} {A : Option Addr} {c : Nat} {S : List UInt8}
theorem WAt.next {J : Prop} (h : WAt J w D DL base bw q v s A c S) : v.m.next = s.nxt := by rw [h.m]; rfl
theorem WAt.found (h : WAt False w D DL base bw q v s A c S) : (∀ i, i < s.segs.length → placeOf S v.p i = (logOf id21 s.segs).images.getD i []) ∧ (s.segs.length < v.g → (segRead (placeOf S v.p s.segs.length)).2.2 ≠ 0 ∨ (segRead (placeOf S v.p s.segs.length)).1.index ≠ (s.segs.length : Int)) :=
 laid_found h.st.fine (h.laid.resolve_left id) h.st.room
set_option maxRecDepth 100000 in
set_option maxHeartbeats 2000000 in
theorem do3_any {J : Prop} (h : WAt J w D DL base bw q v s A c S) (hfo : (∀ i, i < s.segs.length → placeOf S v.p i = (logOf id21 s.segs).images.getD i []) ∧ (s.segs.length < v.g → (segRead (placeOf S v.p s.segs.length)).2.2 ≠ 0 ∨ (segRead (placeOf S v.p s.segs.length)).1.index ≠ (s.segs.length : Int)))
  (y : Int) (hy0 : -9223372036854775808 ≤ y) (hy1 : y ≤ 9223372036854775807) (mk : Bool) (Ab : Option Addr) (nb cb : Nat) :
  Calls Tryz.prog 10 #[.pointer (some ⟨bw, 0, none⟩), .agg #[.int .i64 3, .int .i64 y, .bool mk, .slice Ab nb cb]] w (Do1Ret J w D DL (fun _ => False) base bw q v A ⟨s.segs, []⟩) := by
 have k1 := (New.refl w).alloc (.cells #[.int .i64 3, .int .i64 y, .bool mk, .slice Ab nb cb] 27)
 have x1 := heap_alloc_new w (.cells #[.int .i64 3, .int .i64 y, .bool mk, .slice Ab nb cb] 27)
 have h1 := h.new k1
 have x0 := cellOf x1 (k := 0) rfl
 have hnh : v.nh = s.segs.length := h.mid.doc.nh
 have hr := h.st.room
 have hf := h.st.few
 have HWI := Lib.hid (fun W => within_any y 0 (v.nh : Int) W hy0 hy1 (Int.le_refl _) (by omega) (by omega))
 obtain ⟨fr, hfr, hfl⟩ : ∃ fr : Nat, (0 : Int) + y % ((v.nh : Int) - 0 + 1) = (fr : Int) ∧ fr ≤ s.segs.length := by
  have e1 := Int.emod_nonneg y (show (v.nh : Int) - 0 + 1 ≠ 0 by omega)
  have e2 := Int.emod_lt_of_pos y (show 0 < (v.nh : Int) - 0 + 1 by omega)
  exact ⟨((0 : Int) + y % ((v.nh : Int) - 0 + 1)).toNat, by omega, by omega⟩
 rw [hfr] at HWI
 have HAG := Lib.hid (fun W (hW : New (w.alloc (.cells #[.int .i64 3, .int .i64 y, .bool mk, .slice Ab nb cb] 27)) W) => again_any (h1.new hW) fr hfl hfo.1 hfo.2)
 have hgf0 : Hid (w.heap.size < (w.alloc (.cells #[.int .i64 3, .int .i64 y, .bool mk, .slice Ab nb cb] 27)).heap.size ∧ FarOf bw q v A w.heap.size) := Lib.hid ⟨(Array.getElem?_eq_some_iff.1 x1).1, h.mid.newFar _ (Nat.le_refl _)⟩
 have HK := Lib.hid k1
 have HH := Lib.hid h1
 have HX := Lib.hid x1
 clear h h1 k1 hnh hr hf hfr hfl hfo x1
 generalize hw1 : w.alloc (.cells #[.int .i64 3, .int .i64 y, .bool mk, .slice Ab nb cb] 27) = w1 at *
 go_enter Tryz.func10, Tryz.ntmps10
 go_upto_region 24 with fail
 have c14 : ∀ W, New w1 W → W.cell? ⟨bw, 14, none⟩ = some (.slice v.Ah v.nh v.ch) := fun W hW => (HH.out.mid.doc.cells.new hW).cell rfl
 have r1 : ∀ W, New w1 W → W.cell? ⟨w.heap.size, 1, none⟩ = some (.int .i64 y) := fun W hW => cellOf (k := 1) (hW.blockAt HX.out trivial) rfl
 clear x0 hw1
 refine holdW_begin [7, 8, 9] (Keep (fun b => b < w1.heap.size ∧ FarOf bw q v A b) w1.drew) (New w1.drew) (by kernel_rfl) ?_
 have kd : New w1 w1.drew := (New.refl w1).drew
 replace c14 := fun W (hW : New w1.drew W) => c14 W (kd.new hW)
 have hgf := hgf0.out
 replace r1 : ∀ W, Keep (fun b => b < w1.heap.size ∧ FarOf bw q v A b) w1.drew W → W.cell? ⟨w.heap.size, 1, none⟩ = some (.int .i64 y) := fun W hW => cellOf (k := 1) (hW.blockAt (kd.blockAt HX.out trivial) hgf) rfl
 have HAG := Lib.hid (fun W (hW : New w1.drew W) => HAG.out W (kd.new hW))
 replace HK := Lib.hid (HK.out.new kd)
 generalize w1.drew = w4 at *
 have s0 : Keep (fun b => b < w1.heap.size ∧ FarOf bw q v A b) w4 w4 := Keep.refl _ _
 have t0 : New w4 w4 := New.refl _
 refine holdW_read (i := 0) (v := ?_) ⟨s0, fun _ => t0⟩ rfl (by kernel_rfl) (by kernel_rfl) (by kernel_rfl) rfl (fun _ _ _ h => h) rfl ?_ ?_
 rotate_left
 ·intro w' hN
  go_simp
  try with_reducible rfl
 simp only [Act.put, ly1, ly3, ly4, ly5, ly6]
 refine holdW_read (i := 1) (v := ?_) ⟨s0, fun _ => t0⟩ rfl (by kernel_rfl) (by kernel_rfl) (by kernel_rfl) rfl (fun _ _ _ h => h) rfl ?_ ?_
 rotate_left
 ·intro w' hN
  go_simp
  try with_reducible rfl
 simp only [Act.put, ly1, ly2, ly3, ly4, ly5, ly6]
 refine holdW_read (i := 2) (v := ?_) ⟨s0, fun _ => t0⟩ rfl (by kernel_rfl) (by kernel_rfl) (by kernel_rfl) rfl (fun _ _ _ h => h) rfl ?_ ?_
 rotate_left
 ·intro w' hN
  go_simp
  try with_reducible rfl
 simp only [Act.put, ly1, ly2, ly3, ly4, ly5, ly6]
 refine holdW_read (i := 3) (v := ?_) ⟨s0, fun _ => t0⟩ rfl (by kernel_rfl) (by kernel_rfl) (by kernel_rfl) rfl (fun _ _ _ h => h) rfl ?_ ?_
 rotate_left
 ·intro w' hN
  go_simp
  try with_reducible rfl
 simp only [Act.put, ly1, ly2, ly3, ly4, ly5, ly6]
 refine holdW_read (i := 4) (v := ?_) ⟨s0, fun _ => t0⟩ rfl (by kernel_rfl) (by kernel_rfl) (by kernel_rfl) rfl (fun _ _ _ h => h) rfl ?_ ?_
 rotate_left
 ·intro w' hN
  go_simp
  try with_reducible rfl
 simp only [Act.put, ly1, ly2, ly3, ly4, ly5, ly6]
 refine holdW_read (i := 5) (v := ?_) ⟨s0, fun _ => t0⟩ rfl (by kernel_rfl) (by kernel_rfl) (by kernel_rfl) rfl (fun _ _ _ h => h) rfl ?_ ?_
 rotate_left
 ·intro w' hN
  go_simp
  try with_reducible rfl
 simp only [Act.put, ly1, ly2, ly3, ly4, ly5, ly6]
 refine holdW_readT (i := 6) (v := ?_) ⟨s0, fun _ => t0⟩ rfl (by kernel_rfl) (by kernel_rfl) (by kernel_rfl) (by kernel_rfl) (by kernel_rfl) (fun _ _ _ h => h) rfl ?_ ?_
 rotate_left
 ·intro w' hN
  go_simp
  try with_reducible rfl
 simp only [Act.put, ly1, ly2, ly3, ly4, ly5, ly6]
 refine holdW_step (i := 7) (by kernel_rfl) rfl rfl (fun K hK => ?_)
 go_simp
 refine hK.out _ _ ⟨s0, fun _ => t0⟩ ?_
 clear hK K
 try simp only [Act.put, ly1, ly2, ly3, ly4, ly5, ly6]
 refine holdW_step (i := 8) (by kernel_rfl) rfl rfl (fun K hK => ?_)
 go_simp
 refine (HWI.out _).mono ?_
 rintro e w2 ⟨rfl, he2⟩
 go_wp2_with fail
 refine hK.out _ _ ⟨Keep.of_new (New.of_eq he2), fun h => absurd h (by decide)⟩ ?_
 clear hK K
 try simp only [Act.put, ly1, ly2, ly3, ly4, ly5, ly6]
 have HAG := Lib.hid (HAG.out _ (New.of_eq he2))
 have HKE := Lib.hid (HK.out.new (New.of_eq he2))
 have HZ : Hid (w1.heap.size ≤ w2.heap.size) := Lib.hid (kd.new (New.of_eq he2)).size
 replace s0 : Keep (fun b => b < w1.heap.size ∧ FarOf bw q v A b) w4 w2 := Keep.of_new (New.of_eq he2)
 clear he2 t0 c14 r1
 refine holdW_step (i := 9) (by kernel_rfl) rfl rfl (fun K hK => ?_)
 go_simp
 refine HAG.out.mono ?_
 rintro e w3 ⟨rfl, kb3, hv3⟩
 go_wp2_with fail
 have hz2 : w1.heap.size ≤ w2.heap.size := HZ.out
 have kb4 := kb3.imp (E := fun b => b < w1.heap.size ∧ FarOf bw q v A b) fun b _ hb => ⟨by omega, hb.2⟩
 have s1 := s0.trans kb4
 refine hK.out _ _ ⟨s1, fun h => absurd h (by decide)⟩ ?_
 clear hK K
 try simp only [Act.put, ly1, ly2, ly3, ly4, ly5, ly6]
 have HB3 := Lib.hid ((Keep.of_new (D := fun b => b < w.heap.size ∧ FarOf bw q v A b) HKE.out).trans (kb3.imp fun b _ hb => ⟨by have h1 := HKE.out.size; omega, hb.2⟩))
 replace hv3 := Lib.hid hv3
 have HZW : Hid (w.heap.size ≤ w2.heap.size) := Lib.hid HKE.out.size
 clear kb3 kb4 s0 hz2
 refine holdW_read (i := 10) (v := ?_) ⟨s1, fun h => absurd h (by decide)⟩ rfl (by kernel_rfl) (by kernel_rfl) (by kernel_rfl) rfl (fun _ _ _ h => h) rfl ?_ ?_
 rotate_left
 ·intro w' hN
  go_simp
  try with_reducible rfl
 simp only [Act.put, ly1, ly2, ly3, ly4, ly5, ly6]
 refine wpAnyW_done (by kernel_rfl) ?_ _
 go_wp2_with fail
 go_ret
 obtain ⟨v', D', DL', A', c', S', g1, g2, g3, g4, g5, g6⟩ := hv3.out
 exact ⟨rfl, HB3.out, v', D', DL', A', c', S', g1, g2, g3, g4, fun b hb hf => g5 b (by have := HZW.out; omega) hf, fun b hb => g6 b (by have := HZW.out; omega)⟩
theorem do1_wide {J : Prop} {B : Nat → Prop} {s' : LogS} {e : Ending} (h : Do1Ret J w D DL (fun _ => False) base bw q v A s' e w') : Do1Ret J w D DL B base bw q v A s' e w' := by
 obtain ⟨h1, h2, v', D', DL', A', c', S', g1, g2, g3, g4, g5, g6⟩ := h
 exact ⟨h1, h2, v', D', DL', A', c', S', g1, g2, g3, g4, g5, fun b hb => ⟨fun h => ((g6 b hb).1 h).elim .inl (fun h => h.elim), (g6 b hb).2⟩⟩
theorem do_anyB {B : Nat → Prop} (h : WAt False w D DL base bw q v s A c S) (hBF : ∀ b, B b → b < w.heap.size ∧ FarOf bw q v A b) (x : AskP) (hx : x.Fine) (Ab : Option Addr) (cb : Nat) (hB : Bs w B Ab x.body.length x.body) (hcb : x.body.length ≤ cb) (hcm : cb ≤ 9223372036854775807) (ht : v.m.next < 1000000) :
  Calls Tryz.prog 10 #[.pointer (some ⟨bw, 0, none⟩), .agg #[.int .i64 x.kind, .int .i64 x.turn, .bool x.mark, .slice Ab x.body.length cb]] w (Do1Ret False w D DL B base bw q v A (s.step v.g x)) := by
 unfold LogS.step
 by_cases h1 : x.kind = 1
 ·rw [if_pos h1, h1, ← h.next]
  exact do1_farB h hBF x.turn hx.2.1 hx.2.2 x.mark Ab _ cb x.body hB hcb hcm ht
 ·rw [if_neg h1]
  by_cases h2 : x.kind = 2
  ·rw [if_pos h2, h2]
   exact (do2_any h x.turn x.mark Ab _ cb).mono fun e w' => do1_wide
  ·rw [if_neg h2]
   by_cases h3 : x.kind = 3
   ·rw [if_pos h3, h3]
    exact (do3_any h h.found x.turn hx.2.1 hx.2.2 x.mark Ab _ cb).mono fun e w' => do1_wide
   ·rw [if_neg h3]
    exact (do0_any h x.kind x.turn h1 h2 h3 x.mark Ab _ cb).mono fun e w' ⟨e1, e2⟩ => ⟨e1, Keep.of_new e2, v, D, DL, A, c, S, h.new e2, rfl, rfl, rfl, fun _ _ hf => hf, fun _ _ => ⟨.inl, id⟩⟩
theorem do_any (h : WAt False w D DL base bw q v s A c S) (x : AskP) (hx : x.Fine) (Ab : Option Addr) (cb : Nat) (hB : Bs w (fun b => b < w.heap.size ∧ FarOf bw q v A b) Ab x.body.length x.body) (hcb : x.body.length ≤ cb) (hcm : cb ≤ 9223372036854775807) (ht : v.m.next < 1000000) :
  Calls Tryz.prog 10 #[.pointer (some ⟨bw, 0, none⟩), .agg #[.int .i64 x.kind, .int .i64 x.turn, .bool x.mark, .slice Ab x.body.length cb]] w (Do1Ret False w D DL (fun b => b < w.heap.size ∧ FarOf bw q v A b) base bw q v A (s.step v.g x)) :=
 do_anyB h (fun _ h => h) x hx Ab cb hB hcb hcm ht
end
/-
  PROVED HERE: chapter 21's world as one state that the law's calls turn; conditions: its Seqs are small.
-/
def segsOf (n : Nat) : Nat := (n - 1 - 2 * (n / 4)) / 8
def W21 (w : World) (F : Nat → Prop) (bw n : Nat) (s : LogS) : Prop := ∃ (base : Nat) (q : DiskB) (v : W21V) (D DL : Nat → Prop) (A : Option Addr) (c : Nat) (S : List UInt8), WAt False w D DL base bw q v s A c S ∧ v.k = n ∧ ∀ b, F b → b < w.heap.size ∧ FarOf bw q v A b
section
variable {w w' : World} {F : Nat → Prop} {bw n : Nat} {s : LogS}
theorem WAt.segs {J : Prop} {base : Nat} {D DL : Nat → Prop} {q : DiskB} {v : W21V} {A : Option Addr} {c : Nat} {S : List UInt8} (h : WAt J w D DL base bw q v s A c S) : v.g = segsOf v.k ∧ v.k ≤ 4096 := by
 have hp := planRight_iff.1 h.mid.on.plan
 have h1 : (64 : Int) ≤ (v.k : Int) ∧ (v.k : Int) ≤ 4096 := ⟨hp.1, hp.2.1⟩
 have h2 : (v.g : Int) = ((v.k : Int) - 1 - 2 * ((v.k : Int) / 4)) / 8 := hp.2.2.2
 unfold segsOf
 omega
theorem W21.new (h : W21 w F bw n s) (hk : New w w') : W21 w' F bw n s := by
 obtain ⟨base, q, v, D, DL, A, c, S, h, hn, hF⟩ := h
 exact ⟨base, q, v, D, DL, A, c, S, h.new hk, hn, fun b hb => ⟨Nat.lt_of_lt_of_le (hF b hb).1 hk.size, (hF b hb).2⟩⟩
theorem W21.more (h : W21 w F bw n s) (hk : New w w') : W21 w' (fun b => F b ∨ (w.heap.size ≤ b ∧ b < w'.heap.size)) bw n s := by
 obtain ⟨base, q, v, D, DL, A, c, S, h, hn, hF⟩ := h
 exact ⟨base, q, v, D, DL, A, c, S, h.new hk, hn, fun b hb => hb.elim (fun hb => ⟨Nat.lt_of_lt_of_le (hF b hb).1 hk.size, (hF b hb).2⟩) (fun hb => ⟨hb.2, h.mid.newFar b hb.1⟩)⟩
theorem W21.imp {E : Nat → Prop} (h : W21 w F bw n s) (hE : ∀ b, E b → F b) : W21 w E bw n s := by
 obtain ⟨base, q, v, D, DL, A, c, S, h, hn, hF⟩ := h
 exact ⟨base, q, v, D, DL, A, c, S, h, hn, fun b hb => hF b (hE b hb)⟩
theorem W21.st (h : W21 w F bw n s) : LogSt id21 (segsOf n) s := by
 obtain ⟨base, q, v, D, DL, A, c, S, h, hn, hF⟩ := h
 have := h.segs.1
 rw [hn] at this
 rw [← this]
 exact h.st
theorem W21.act (h : W21 w F bw n s) (x : AskP) (hx : x.Fine) (Ab : Option Addr) (cb : Nat) (hB : Bs w F Ab x.body.length x.body) (hcb : x.body.length ≤ cb) (hcm : cb ≤ 9223372036854775807) (ht : s.nxt < 1000000) :
  Calls Tryz.prog 10 #[.pointer (some ⟨bw, 0, none⟩), .agg #[.int .i64 x.kind, .int .i64 x.turn, .bool x.mark, .slice Ab x.body.length cb]] w fun e w' => e = .returned (.bool true) ∧ Keep F w w' ∧ W21 w' F bw n (s.step (segsOf n) x) := by
 obtain ⟨base, q, v, D, DL, A, c, S, h, hn, hF⟩ := h
 have hg := h.segs.1
 rw [hn] at hg
 refine (do_any h x hx Ab cb (hB.imp fun b _ hb => hF b hb) hcb hcm (by rw [h.next]; exact ht)).mono ?_
 rintro e w' ⟨he, hk, v', D', DL', A', c', S', h', hk', _, _, hf, _⟩
 rw [hg] at h'
 have hz := hk.size
 exact ⟨he, hk.imp fun b _ hb => hF b hb, base, q, v', D', DL', A', c', S', h', hk'.trans hn, fun b hb => ⟨by have := (hF b hb).1; omega, hf b (hF b hb).1 (hF b hb).2⟩⟩
theorem W21.actNew (h : W21 w F bw n s) (hk : New w w') (x : AskP) (hx : x.Fine) (Ab : Option Addr) (cb : Nat) (hB : Bs w' (fun b => w.heap.size ≤ b) Ab x.body.length x.body) (hcb : x.body.length ≤ cb) (hcm : cb ≤ 9223372036854775807) (ht : s.nxt < 1000000) :
  Calls Tryz.prog 10 #[.pointer (some ⟨bw, 0, none⟩), .agg #[.int .i64 x.kind, .int .i64 x.turn, .bool x.mark, .slice Ab x.body.length cb]] w' fun e w'' => e = .returned (.bool true) ∧ Keep F w' w'' ∧ W21 w'' F bw n (s.step (segsOf n) x) :=
 ((h.more hk).act x hx Ab cb (hB.imp fun _b hl hb => .inr ⟨hb, hl⟩) hcb hcm ht).mono fun _e _ ⟨he, hk, h⟩ => ⟨he, hk.imp fun _b _ hb => .inl hb, h.imp fun _b hb => .inl hb⟩
theorem W21.safe (h : W21 w F bw n s) : Calls Tryz.prog 11 #[.pointer (some ⟨bw, 0, none⟩)] w fun e w' => e = .returned (.bool true) ∧ New w w' := by
 obtain ⟨base, q, v, D, DL, A, c, S, h, hn, hF⟩ := h
 exact safe_any h
theorem W21.log (h : W21 w F bw n s) : ∃ bl : Nat, (∀ W, New w W → W.cell? ⟨bw, 7, none⟩ = some (.pointer (some ⟨bl, 0, none⟩))) ∧
  (∀ W, New w W → Calls Tryz.prog 17 #[.pointer (some ⟨bl, 0, none⟩)] W fun e w' => e = .returned (.int .i64 s.segs.length) ∧ New W w') ∧
  (∀ W, New w W → Calls Tryz.prog 16 #[.pointer (some ⟨bl, 0, none⟩)] W fun e w' => e = .returned (.int .u64 s.nxt) ∧ New W w') ∧
  (∀ W, New w W → Calls Tryz.prog 20 #[.pointer (some ⟨bl, 0, none⟩)] W fun e w' => (∃ A' c', e = .returned (.slice A' 32 c') ∧ OwnB w' W.heap.size 5 A' 32 c' (logOf id21 s.segs).prev) ∧ New W w') := by
 obtain ⟨base, q, v, D, DL, A, c, S, h, hn, hF⟩ := h
 have hl := h.mid.on.log
 exact ⟨v.bl, fun W hW => (h.mid.doc.cells.new hW).cell rfl, fun W hW => sealed21_any (hl.new hW), fun W hW => next21_any (hl.new hW), fun W hW => head21_any (hl.new hW)⟩
theorem begin21_st (n : Nat) (h0 : 64 ≤ n) (h1 : n ≤ 4096) (w : World) :
  Calls Tryz.prog 9 #[.int .i64 n] w fun e w' => New w w' ∧ ∃ bw : Nat, e = .returned (.pointer (some ⟨bw, 0, none⟩)) ∧ W21 w' (fun b => b < w.heap.size) bw n ⟨[], []⟩ :=
 (begin21_any n h0 h1 w).mono fun _e _ ⟨hk, bw, q, v, D, DL, S, he, h, hn⟩ => ⟨hk, bw, he, _, q, v, D, DL, none, 0, S, h, hn, h.mid.lowFar⟩
end
/-
  PROVED HERE: what chapter 21's known answers: true; no condition.
-/
theorem small_fine {k y : Int} {mk : Bool} {b : List UInt8} (h0 : -9223372036854775808 ≤ k ∧ k ≤ 9223372036854775807) (h1 : -9223372036854775808 ≤ y ∧ y ≤ 9223372036854775807) : (⟨k, y, mk, b⟩ : AskP).Fine := ⟨h0, h1⟩
theorem known_step1 : (⟨[], []⟩ : LogS).step (segsOf 64) ⟨1, 0, true, []⟩ = ⟨[], [⟨2, 1, []⟩]⟩ := by kernel_rfl
theorem known_step2 : (⟨[], [⟨2, 1, []⟩]⟩ : LogS).step (segsOf 64) ⟨2, 0, false, []⟩ = ⟨[[⟨2, 1, []⟩]], []⟩ := by kernel_rfl
theorem known_step3 : (⟨[[⟨2, 1, []⟩]], []⟩ : LogS).step (segsOf 64) ⟨3, 0, false, []⟩ = ⟨[[⟨2, 1, []⟩]], []⟩ := by kernel_rfl
theorem known_nxt : (⟨[[⟨2, 1, []⟩]], []⟩ : LogS).nxt = 2 := by kernel_rfl
section
variable {w w' : World} {F : Nat → Prop} {bw n : Nat} {s s' : LogS}
theorem W21.actNil (h : W21 w F bw n s) (k y : Int) (mk : Bool) (h0 : -9223372036854775808 ≤ k ∧ k ≤ 9223372036854775807) (h1 : -9223372036854775808 ≤ y ∧ y ≤ 9223372036854775807) (ht : s.nxt < 1000000) (he : s.step (segsOf n) ⟨k, y, mk, []⟩ = s') :
  Calls Tryz.prog 10 #[.pointer (some ⟨bw, 0, none⟩), .agg #[.int .i64 k, .int .i64 y, .bool mk, .slice none 0 0]] w fun e w' => e = .returned (.bool true) ∧ Keep F w w' ∧ W21 w' F bw n s' := by
 have := h.act ⟨k, y, mk, []⟩ ⟨h0, h1⟩ none 0 (Row.nil _ _ _ _) (Nat.le_refl _) (by decide) ht
 rw [he] at this
 exact this
end
set_option maxRecDepth 100000 in
set_option maxHeartbeats 2000000 in
theorem known21_any (w : World) : Calls Tryz.prog 18 #[] w fun e w' => e = .returned (.bool true) ∧ New w w' := by
 have HB := Lib.hid (begin21_st 64 (by decide) (by decide) w)
 go_enter Tryz.func18, Tryz.ntmps18
 go_wp2_with fail
 refine HB.out.mono ?_
 rintro e w1 ⟨k1, bw, rfl, h1⟩
 have H1 := Lib.hid (h1.actNil 1 0 true (by decide) (by decide) (by decide +kernel) known_step1)
 have HK := Lib.hid k1
 clear HB k1 h1
 go_wp2_with fail
 refine H1.out.mono ?_
 rintro e w2 ⟨rfl, b2, h2⟩
 have H2 := Lib.hid (h2.actNil 2 0 false (by decide) (by decide) (by decide +kernel) known_step2)
 have HB := Lib.hid b2
 clear H1 b2 h2
 go_wp2_with fail
 refine H2.out.mono ?_
 rintro e w3 ⟨rfl, b3, h3⟩
 have HB := Lib.hid (HB.out.trans b3)
 have HS := Lib.hid h3.safe
 have H3 := Lib.hid h3
 clear H2 b3 h3
 go_wp2_with fail
 refine HS.out.mono ?_
 rintro e w4 ⟨rfl, k4⟩
 have HB := Lib.hid (HB.out.new k4)
 have H4 := Lib.hid ((H3.out.new k4).actNil 3 0 false (by decide) (by decide) (by decide +kernel) known_step3)
 clear HS k4 H3
 go_wp2_with fail
 refine H4.out.mono ?_
 rintro e w5 ⟨rfl, b5, h5⟩
 have HB := Lib.hid (HB.out.trans b5)
 obtain ⟨bl, hc, hse, hnx, -⟩ := h5.log
 rw [known_nxt] at hnx
 have HSE := Lib.hid hse
 have HNX := Lib.hid hnx
 have c7 := hc w5 (New.refl _)
 have HC := Lib.hid hc
 clear H4 b5 h5 hc hse hnx
 go_wp2_with fail
 refine (HSE.out _ (New.refl _)).mono ?_
 rintro e w6 ⟨rfl, k6⟩
 have c7 := HC.out w6 k6
 have HK6 := Lib.hid k6
 clear k6
 go_wp2_with fail
 refine (HNX.out _ HK6.out).mono ?_
 rintro e w7 ⟨rfl, k7⟩
 go_wp2_with fail
 go_ret
 refine ⟨rfl, ((Keep.trans2 (D := fun b => b < w.heap.size) (Keep.of_new HK.out) ((HB.out.new HK6.out).new k7) fun b hb _ => hb).toNew fun b hb => hb)⟩
end Go.Proofs.YtajnkbfcnmajoaaGreatDoor
