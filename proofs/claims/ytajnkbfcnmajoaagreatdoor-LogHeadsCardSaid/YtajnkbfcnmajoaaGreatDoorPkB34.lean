/-
  PROVED HERE: texts that belong together, one behind the other; what each proves, and under which conditions, its own opening remark says: LogMem, Log, LogLaw, LogLaw2, LogSeal, CloneRecs, LogOpenD, Ref23, Law21a.
-/
import Derived.Test.YtajnkbfcnmajoaaGreatDoorPkB29
import Derived.Test.YtajnkbfcnmajoaaGreatDoorPkB33
/-
  PROVED HERE: plain lemmas on a log in memory: its struct, its head, its row of records that wait; no program is in sight but for numbers of types.
-/
namespace Go.Proofs.YtajnkbfcnmajoaaGreatDoor
open Go.RowKit
/-! ### a disk of which nothing is unsafe -/
def DiskOf (q : DiskB) : Nat → Prop := fun b => b ≠ q.bd ∧ b ≠ q.bs ∧ b ≠ q.bm
def Clean (w : World) (q : DiskB) (S : List UInt8) : Prop := ∃ wr, DiskAt w (DiskOf q) q S Dirt.no 0 wr
theorem diskOf_not {q : DiskB} {b : Nat} (h : b = q.bd ∨ b = q.bs ∨ b = q.bm) : ¬ DiskOf q b := fun hd => by
 rcases h with rfl | rfl | rfl
 ·exact hd.1 rfl
 ·exact hd.2.1 rfl
 ·exact hd.2.2 rfl
section
variable {w w' : World} {F : Nat → Prop} {q : DiskB} {S : List UInt8}
theorem Clean.keep (h : Clean w q S) (hk : Keep F w w') (hq : ∀ b, b = q.bd ∨ b = q.bs ∨ b = q.bm → F b) : Clean w' q S := by
 obtain ⟨wr, h⟩ := h
 exact ⟨wr, ((h.swap (F := fun _ => False) (fun _ _ h => h)).keep hk hq (fun _ _ h => h.elim)).swap fun b hb => diskOf_not hb⟩
theorem Clean.new (h : Clean w q S) (hk : New w w') : Clean w' q S := h.keep hk fun _ _ => trivial
theorem Clean.of {D : Nat → Prop} {wr : Int} (h : DiskAt w D q S Dirt.no 0 wr) : Clean w q S := ⟨wr, h.swap fun _b hb => diskOf_not hb⟩
theorem Clean.lt (h : Clean w q S) : ∀ b, b = q.bd ∨ b = q.bs ∨ b = q.bm → b < w.heap.size := by obtain ⟨wr, h⟩ := h; exact h.lt
theorem Clean.beyond (h : Clean w q S) : ∀ b, w.heap.size ≤ b → DiskOf q b := fun b hb => by
 have h1 := h.lt q.bd (.inl rfl)
 have h2 := h.lt q.bs (.inr (.inl rfl))
 have h3 := h.lt q.bm (.inr (.inr rfl))
 exact ⟨by omega, by omega, by omega⟩
theorem Clean.size (h : Clean w q S) : ∃ k, S.length = k * 128 ∧ 64 ≤ k ∧ k ≤ 4096 := by obtain ⟨wr, h⟩ := h; exact h.size
end
def placeAt (p i : Nat) : Nat := (1 + 2 * p + i * 8) * 128
def placeOf (S : List UInt8) (p i : Nat) : List UInt8 := (S.drop (placeAt p i)).take 1024
theorem sector_no (S : List UInt8) (i : Nat) : sectorOf S Dirt.no i = (S.drop (i * 128)).take 128 := rfl
theorem take_sector (S : List UInt8) (f j : Nat) : (S.drop (f * 128)).take (j * 128) ++ sectorOf S Dirt.no (f + j) = (S.drop (f * 128)).take ((j + 1) * 128) := by
 rw [sector_no, show (j + 1) * 128 = j * 128 + 128 from by omega, List.take_add, List.drop_drop, show f * 128 + j * 128 = (f + j) * 128 from by omega]
/-! ### the log -/
structure LogV where
 s : Nat
 p : Nat
 g : Nat
 sealed : Nat
 next : Int
 head : List UInt8
 waits : List RecP
structure LogAt (w : World) (D : Nat → Prop) (base bl bd : Nat) (v : LogV) (A : Option Addr) (c : Nat) : Prop where
 cells : ∃ H hc, w.heap[bl]? = some (.cells #[.pointer (some ⟨bd, 0, none⟩), .int .i64 v.s, .int .i64 v.p, .int .i64 v.g, .int .i64 v.sealed, .slice H 32 hc, .int .u64 v.next, .slice A v.waits.length c] 79 (0, 0)) ∧ 32 ≤ hc ∧ Bs w (fun b => D b ∧ some b ≠ blk A) H 32 v.head
 waits : OwnSl 52 recElt w base D A v.waits.length c v.waits
 next0 : 0 ≤ v.next
 next1 : v.next ≤ 1099511627776 + 65536 * (v.sealed : Int)
 few : v.waits.length ≤ 100 ∧ v.sealed ≤ v.g ∧ v.g ≤ 1000
 out : ¬ D bl
 apart : blk A ≠ some bl
section
variable {w w' : World} {D F : Nat → Prop} {base bl bd : Nat} {v : LogV} {A : Option Addr} {c : Nat}
theorem LogAt.keep (h : LogAt w D base bl bd v A c) (hk : Keep F w w') (hl : F bl) (hA : ∀ k, blk A = some k → F k) (hD : ∀ b, D b → F b) : LogAt w' D base bl bd v A c := by
 obtain ⟨H, hc, h1, h2, h3⟩ := h.cells
 exact ⟨⟨H, hc, (hk.block bl (Array.getElem?_eq_some_iff.1 h1).1 hl).trans h1, h2, h3.keep hk fun b _ hb => hD b hb.1⟩, h.waits.keepE hk hA hD, h.next0, h.next1, h.few, h.out, h.apart⟩
theorem LogAt.new (h : LogAt w D base bl bd v A c) (hk : New w w') : LogAt w' D base bl bd v A c := h.keep hk trivial (fun _ _ => trivial) (fun _ _ => trivial)
theorem LogAt.lt (h : LogAt w D base bl bd v A c) : bl < w.heap.size := by obtain ⟨H, hc, h1, _⟩ := h.cells; exact (Array.getElem?_eq_some_iff.1 h1).1
theorem LogAt.rowLt (h : LogAt w D base bl bd v A c) : ∀ k, blk A = some k → base ≤ k ∧ k < w.heap.size := h.waits.lt
theorem LogAt.imp (h : LogAt w D base bl bd v A c) (hF : ∀ b, b < w.heap.size → D b → F b) (hl : ¬ F bl) : LogAt w F base bl bd v A c := by
 obtain ⟨H, hc, h1, h2, h3⟩ := h.cells
 obtain ⟨vs, r1, r2, r3⟩ := h.waits
 exact ⟨⟨H, hc, h1, h2, h3.imp fun b hb hd => ⟨hF b hb hd.1, hd.2⟩⟩, ⟨vs, r1, r2, fun k hk => recElt.imp (r3 k hk) fun b hb hd => ⟨hF b hb hd.1, hd.2⟩⟩, h.next0, h.next1, h.few, hl, h.apart⟩
end
/-
  PROVED HERE: what log.Next, Sealed, Head, Pending, Room, did and Place answer; conditions: the log is as LogAt says, nothing on its disk is unsafe.
-/
section
variable {w : World} {D : Nat → Prop} {base bl bd : Nat} {v : LogV} {A : Option Addr} {c : Nat}
set_option maxRecDepth 100000 in
theorem next21_any (h : LogAt w D base bl bd v A c) : Calls Tryz.prog 16 #[.pointer (some ⟨bl, 0, none⟩)] w fun e w' => e = .returned (.int .u64 (v.next + v.waits.length)) ∧ New w w' := by
 obtain ⟨H, hc, hb, _⟩ := h.cells
 have c6 : w.cell? ⟨bl, 6, none⟩ = some (.int .u64 v.next) := cellOf hb rfl
 have c7 : w.cell? ⟨bl, 7, none⟩ = some (.slice A v.waits.length c) := cellOf hb rfl
 have h0 := h.next0
 have h1 := h.next1
 obtain ⟨hf, hf1, hf2⟩ := h.few
 generalize v.next = nx at *
 generalize v.waits.length = n at *
 clear h hb
 have hw : IntKind.u64.wrap (n : Int) = (n : Int) := by rw [IntKind.wrap_u64]; omega
 have hw2 : IntKind.u64.wrap (nx + (n : Int)) = nx + (n : Int) := by rw [IntKind.wrap_u64]; omega
 go_enter Tryz.func16, Tryz.ntmps16
 go_upto_region 1 with fail
 go_quiet (fail)
 rename_i nq
 go_wp2_with fail
 go_ret
 exact ⟨rfl, (New.refl _).drewN _⟩
set_option maxRecDepth 100000 in
theorem sealed21_any (h : LogAt w D base bl bd v A c) : Calls Tryz.prog 17 #[.pointer (some ⟨bl, 0, none⟩)] w fun e w' => e = .returned (.int .i64 v.sealed) ∧ New w w' := by
 obtain ⟨H, hc, hb, _⟩ := h.cells
 have c4 : w.cell? ⟨bl, 4, none⟩ = some (.int .i64 v.sealed) := cellOf hb rfl
 clear h hb
 go_enter Tryz.func17, Tryz.ntmps17
 go_wp2_with fail
 go_ret
 exact ⟨rfl, New.refl _⟩
set_option maxRecDepth 100000 in
theorem head21_any (h : LogAt w D base bl bd v A c) : Calls Tryz.prog 20 #[.pointer (some ⟨bl, 0, none⟩)] w fun e w' => (∃ A' c', e = .returned (.slice A' 32 c') ∧ OwnB w' w.heap.size 5 A' 32 c' v.head) ∧ New w w' := by
 obtain ⟨H, hc, hb, _, hB⟩ := h.cells
 have c5 : w.cell? ⟨bl, 5, none⟩ = some (.slice H 32 hc) := cellOf hb rfl
 have HC := Lib.hid (clone_bytes _ H 32 hc v.head w hB (by decide))
 clear h hb hB
 go_enter Tryz.func20, Tryz.ntmps20
 go_wp2_with fail
 refine HC.out.mono ?_
 rintro e w' ⟨⟨A', c', rfl, ho⟩, hk⟩
 go_wp2_with fail
 go_ret
 exact ⟨⟨A', c', rfl, ho⟩, hk⟩
set_option maxRecDepth 100000 in
theorem pending21_any (h : LogAt w D base bl bd v A c) : Calls Tryz.prog 51 #[.pointer (some ⟨bl, 0, none⟩)] w fun e w' => e = .returned (.int .i64 v.waits.length) ∧ New w w' := by
 obtain ⟨H, hc, hb, _⟩ := h.cells
 have c7 : w.cell? ⟨bl, 7, none⟩ = some (.slice A v.waits.length c) := cellOf hb rfl
 generalize v.waits.length = n at *
 clear h hb
 go_enter Tryz.func51, Tryz.ntmps51
 go_wp2_with fail
 go_ret
 exact ⟨rfl, New.refl _⟩
set_option maxRecDepth 100000 in
theorem room21_any (h : LogAt w D base bl bd v A c) : Calls Tryz.prog 46 #[.pointer (some ⟨bl, 0, none⟩)] w fun e w' => e = .returned (.int .i64 ((v.g : Int) - (v.sealed : Int))) ∧ New w w' := by
 obtain ⟨H, hc, hb, _⟩ := h.cells
 have c3 : w.cell? ⟨bl, 3, none⟩ = some (.int .i64 v.g) := cellOf hb rfl
 have c4 : w.cell? ⟨bl, 4, none⟩ = some (.int .i64 v.sealed) := cellOf hb rfl
 obtain ⟨_, hf1, hf2⟩ := h.few
 have hw : IntKind.i64.wrap ((v.g : Int) - (v.sealed : Int)) = (v.g : Int) - (v.sealed : Int) := IntWalk.i64_in _ (by omega)
 clear h hb
 go_enter Tryz.func46, Tryz.ntmps46
 go_upto_region 1 with fail
 go_quiet (fail)
 rename_i nq
 go_wp2_with fail
 go_ret
 exact ⟨rfl, (New.refl _).drewN _⟩
set_option maxRecDepth 100000 in
theorem did_any (h : LogAt w D base bl bd v A c) (hd : HeadP) (P R : Option Addr) (pc rc : Nat) {D2 D3 : Nat → Prop} (hP : Bs w D2 P hd.prev.length hd.prev) (hpc : hd.prev.length ≤ pc) (hR : Bs w D3 R hd.root.length hd.root) (hrc : hd.root.length ≤ rc)
  (hD2 : ∀ b, D2 b → b ≠ bl) (hD3 : ∀ b, D3 b → b ≠ bl) (hf0 : hd.first = v.next) (hc0 : 0 ≤ hd.count) (hc1 : hd.count ≤ 65535) (hs : v.sealed < v.g) :
  Calls Tryz.prog 42 #[.pointer (some ⟨bl, 0, none⟩), .agg #[.int .i64 hd.index, .int .u64 hd.first, .int .i64 hd.count, .int .i64 hd.bytes, .slice P hd.prev.length pc, .slice R hd.root.length rc]] w fun e w' =>
   e = .returned (.tuple #[]) ∧ Keep (fun j => j ≠ bl) w w' ∧ LogAt w' (fun b => D b ∨ w.heap.size ≤ b) base bl bd ⟨v.s, v.p, v.g, v.sealed + 1, hd.first + hd.count, sealOf hd, v.waits⟩ A c := by
 have HH := Lib.hid h
 obtain ⟨H, hc, hb, h32, hB⟩ := h.cells
 have hnx0 := h.next0
 have hnx1 := h.next1
 obtain ⟨_, hfe1, hfe2⟩ := h.few
 have hblt := h.lt
 have hw1 : IntKind.i64.wrap ((v.sealed : Int) + 1) = (v.sealed : Int) + 1 := IntWalk.i64_in _ (by omega)
 have hw2 : IntKind.u64.wrap hd.count = hd.count := by rw [IntKind.wrap_u64]; omega
 have hw3 : IntKind.u64.wrap (hd.first + hd.count) = hd.first + hd.count := by rw [IntKind.wrap_u64]; omega
 have HSE := fun W (hW : Keep (fun j => j ≠ bl) w W) => Lib.hid (seal_any D2 D3 P R _ pc _ rc hd W (hP.keep hW fun b _ hb => hD2 b hb) hpc (hR.keep hW fun b _ hb => hD3 b hb) hrc (by omega) (by omega))
 obtain ⟨n, hn⟩ : ∃ n, n = v.waits.length := ⟨_, rfl⟩
 rw [← hn] at hb
 replace hn := Lib.hid hn
 have k1 : New w (w.alloc (.cells #[.int .i64 hd.index, .int .u64 hd.first, .int .i64 hd.count, .int .i64 hd.bytes, .slice P hd.prev.length pc, .slice R hd.root.length rc] 81)) := (New.refl w).alloc _
 have x1 := heap_alloc_new w (.cells #[.int .i64 hd.index, .int .u64 hd.first, .int .i64 hd.count, .int .i64 hd.bytes, .slice P hd.prev.length pc, .slice R hd.root.length rc] 81)
 have hb1 := k1.blockAt hb trivial
 replace hf0 := Lib.hid hf0
 have hfl : hd.first ≤ 1099511627776 + 65536 * (v.sealed : Int) := by have := hf0.out; omega
 have hfg : 0 ≤ hd.first := by have := hf0.out; omega
 clear h hP hR hB hD2 hD3
 go_enter Tryz.func42, Tryz.ntmps42
 go_upto_region 1 with fail
 generalize w.alloc (.cells #[.int .i64 hd.index, .int .u64 hd.first, .int .i64 hd.count, .int .i64 hd.bytes, .slice P hd.prev.length pc, .slice R hd.root.length rc] 81) = w1 at *
 have c4 : w1.cell? ⟨bl, 4, none⟩ = some (.int .i64 v.sealed) := cellOf hb1 rfl
 have f4 := frozenOf hb1 4
 go_upto_region 2 with fail
 have hb2 := setCell_block hb1 4 (.int .i64 ((v.sealed : Int) + 1))
 have q2 : Keep (fun j => j ≠ bl) w1 (w1.setCell ⟨bl, 4, none⟩ (.int .i64 ((v.sealed : Int) + 1))) := (Keep.refl _ w1).setCell (p := ⟨bl, 4, none⟩) (fun hd => absurd rfl hd) _
 have hgb : w.heap.size ≠ bl := by omega
 have x2 := q2.blockAt x1 hgb
 have q2 : Keep (fun j => j ≠ bl) w _ := (Keep.of_new k1).trans q2
 clear c4 f4 hb1 x1 k1
 generalize w1.setCell ⟨bl, 4, none⟩ (.int .i64 ((v.sealed : Int) + 1)) = w2 at *
 generalize hgz : w.heap.size = gb at *
 obtain ⟨y0, y1, y2, y3, y4, y5⟩ := cs6 x2
 go_wp2_with fail
 refine (HSE w2 q2).out.mono ?_
 rintro e w3 ⟨⟨A', c', rfl, o3⟩, k3⟩
 clear y0 y1 y2 y3 y4 y5 HSE
 have hb3 := k3.blockAt hb2 trivial
 have x3 := k3.blockAt x2 trivial
 have f5 := frozenOf hb3 5
 have c5 := cellOf hb3 (k := 5) rfl
 go_upto_region 3 with fail
 have hb4 := setCell_block hb3 5 (.slice A' 32 c')
 have q4 : Keep (fun j => j ≠ bl) w3 (w3.setCell ⟨bl, 5, none⟩ (.slice A' 32 c')) := (Keep.refl _ w3).setCell (p := ⟨bl, 5, none⟩) (fun hd => absurd rfl hd) _
 have x4 := q4.blockAt x3 hgb
 have hz2 : gb < w2.heap.size := (Array.getElem?_eq_some_iff.1 x2).1
 have hb4' : Bs _ (fun b => w2.heap.size ≤ b) A' 32 (sealOf hd) := (Row.of_own o3).keep q4 (fun b _ hb => by omega)
 have hc32 := own_cap o3
 have q4 := (q2.new k3).trans q4
 clear f5 c5 hb3 x3 x2 hb2 q2 k3 o3
 generalize w3.setCell ⟨bl, 5, none⟩ (.slice A' 32 c') = w4 at *
 have y1 := cellOf x4 (k := 1) rfl
 have y2 := cellOf x4 (k := 2) rfl
 have f6 := frozenOf hb4 6
 have c6 := cellOf hb4 (k := 6) rfl
 go_wp2_with fail
 go_end0
 have hb6 := setCell_block hb4 6 (.int .u64 (hd.first + hd.count))
 have q6 : Keep (fun j => j ≠ bl) w4 (w4.setCell ⟨bl, 6, none⟩ (.int .u64 (hd.first + hd.count))) := (Keep.refl _ w4).setCell (p := ⟨bl, 6, none⟩) (fun hd => absurd rfl hd) _
 have q7 := q4.trans q6
 have h := HH.out
 have hlo := h.rowLt
 refine ⟨rfl, q7, ⟨A', c', ?_, hc32, ?_⟩, ?_, ?_, ?_, ?_, ?_, h.apart⟩
 ·rw [hn.out] at hb6
  exact hb6
 ·exact (hb4'.keep q6 (fun b _ hb => by omega)).imp fun b _ hb => ⟨.inr (by omega), fun e => by have := (hlo b e.symm).2; omega⟩
 ·exact (h.waits.keepE q7 (fun k hk e => h.apart (by rw [hk, e])) (fun b hb e => h.out (e ▸ hb))).imp fun b _ hb => .inl hb
 ·dsimp only; omega
 ·dsimp only; omega
 ·exact ⟨h.few.1, hs, h.few.2.2⟩
 ·exact fun hd => hd.elim h.out (fun h => by omega)
end
set_option maxRecDepth 100000 in
theorem place_any {w : World} {q : DiskB} {S : List UInt8} {k p g i : Nat} (h : Clean w q S) (hk : S.length = k * 128) (hp : planRight k p g = true) (hi : i < g) :
  Calls Tryz.prog 40 #[.pointer (some ⟨q.bd, 0, none⟩), .agg #[.int .i64 k, .int .i64 p, .int .i64 g], .int .i64 i] w fun e w' => (∃ A' c', e = .returned (.slice A' 1024 c') ∧ OwnB w' w.heap.size 5 A' 1024 c' (placeOf S p i)) ∧ New w w' := by
 have hfit := layPlan hp hi
 have HSG := fun W => Lib.hid (segment21_any k p g i (by omega) W)
 rw [laySeg hp hi] at HSG
 dsimp only at HSG
 have HO : Hid (placeOf S p i = (S.drop ((1 + 2 * p + i * 8) * 128)).take (8 * 128)) := Lib.hid rfl
 generalize placeOf S p i = out at *
 generalize hfe : 1 + 2 * p + i * 8 = f at *
 clear hfe hp hi
 obtain ⟨wr0, hd⟩ := h
 have HD := fun W (hW : New w W) (j : Nat) (hj : j < 8) => Lib.hid (dread_any (hd.new hW) hk (f + j) (by omega))
 have kA : New w (w.alloc (.cells #[.int .i64 k, .int .i64 p, .int .i64 g] 31)) := (New.refl w).alloc _
 obtain ⟨x0, x1, x2⟩ := cs3 (heap_alloc_new w (.cells #[.int .i64 k, .int .i64 p, .int .i64 g] 31))
 clear hd hk
 go_enter Tryz.func40, Tryz.ntmps40
 go_wp2_with fail
 refine (HSG _).out.mono ?_
 rintro e w1 ⟨rfl, k1⟩
 have K1 := kA.new k1
 clear x0 x1 x2 kA k1 HSG
 go_wp2_with fail
 go_loopw [9, 10] (fun o i wx => ∃ (j m : Nat) (A' : Option Addr) (c' : Nat), j ≤ 8 ∧ m = j * 128 ∧ o = .slice A' m c' ∧ i = .int .i64 (j : Int) ∧ OwnB wx w.heap.size 5 A' m c' ((S.drop (f * 128)).take (j * 128)) ∧ New w wx) (fun _ i _ => 8 - (intOf i).toNat)
 case atStart => exact ⟨0, 0, none, 0, Nat.zero_le _, rfl, rfl, rfl, Own.nil _ _ _ _, K1⟩
 case round =>
  obtain ⟨j, m, A', c', hj8, hm, rfl, rfl, ho, hK⟩ := hrel
  have HOW := Lib.hid ho
  have HK := Lib.hid hK
  have HM := Lib.hid hm
  clear ho hK hm
  by_cases hlt : j < 8
  ·have hjl : (j : Int) < 8 := by omega
   have HR := HD wr HK.out j hlt
   have hw : IntKind.i64.wrap ((f : Int) + (j : Int)) = (f : Int) + (j : Int) := IntWalk.i64_in _ (by omega)
   have hw2 : IntKind.i64.wrap ((j : Int) + 1) = (j : Int) + 1 := IntWalk.i64_in _ (by omega)
   go_wp2_with fail
   refine HR.out.mono ?_
   rintro e w2 ⟨⟨A2, c2, rfl, o2⟩, k2⟩
   have ho := own_keep HOW.out k2 (fun _ _ => trivial)
   have hr := Row.of_own o2
   have hb : m + 128 ≤ 140737488355328 := by have := HM.out; omega
   have hz : w.heap.size ≤ w2.heap.size := (HK.out.new k2).size
   clear o2
   go_wp2_with (at_builtin; refine app_bytes _ rfl _ _ rfl w.heap.size A' m c' _ rfl ho _ A2 128 c2 _ rfl hr hb hz ?_; intro A4 c4 w4 o4 hg4 hbk4)
   rw [take_sector] at o4
   go_roundw
   case rel => exact ⟨j + 1, m + 128, A4, c4, by omega, by have := HM.out; omega, by go_num, by go_num, o4, (HK.out.new k2).grown hg4 (fun b hb _ => (own_lt ho b hb).1)⟩
   case measure => simp [intOf]; omega
  ·obtain rfl : j = 8 := by omega
   obtain rfl : m = 1024 := HM.out
   go_wp2_with fail
   go_ret
   rw [HO.out]
   exact ⟨⟨A', c', rfl, HOW.out⟩, HK.out⟩
/-
  PROVED HERE: plain law on a log: what its segments are, what is read of them, how a record is taken; no program is in sight.
-/
/-! ### the segments of a log -/
def logStep (s : ChainS) (rs : List RecP) : ChainS :=
 ⟨s.images ++ [segBytes s.heads.length s.next s.prev rs], s.heads ++ [chainHead s.heads.length s.next s.prev rs], s.recs ++ rs, sealOf (chainHead s.heads.length s.next s.prev rs), s.next + rs.length⟩
def logOf (id : List UInt8) (l : List (List RecP)) : ChainS := l.foldl logStep ⟨[], [], [], genesisOf id, 1⟩
theorem logOf_snoc (id : List UInt8) (l : List (List RecP)) (rs : List RecP) : logOf id (l ++ [rs]) = logStep (logOf id l) rs := by simp [logOf, List.foldl_append]
structure LogFine (id : List UInt8) (l : List (List RecP)) : Prop where
 few : l.length ≤ 1000
 fine : ∀ k (h : k < l.length), SegFine k (logOf id (l.take k)).next (logOf id (l.take k)).prev l[k]
theorem LogFine.nil (id : List UInt8) : LogFine id [] := ⟨by simp, fun k h => absurd h (Nat.not_lt_zero k)⟩
theorem LogFine.take {id : List UInt8} {l : List (List RecP)} (h : LogFine id l) (n : Nat) : LogFine id (l.take n) := by
 refine ⟨by rw [List.length_take]; have := h.few; omega, fun k hk => ?_⟩
 have hk' : k < l.length ∧ k < n := by rw [List.length_take] at hk; omega
 rw [List.take_take, List.getElem_take, Nat.min_eq_left (by omega)]
 exact h.fine k hk'.1
theorem LogFine.snoc {id : List UInt8} {l : List (List RecP)} {rs : List RecP} (h : LogFine id l) (hf : SegFine l.length (logOf id l).next (logOf id l).prev rs) (hl : l.length < 1000) : LogFine id (l ++ [rs]) := by
 refine ⟨by rw [List.length_append, List.length_singleton]; omega, fun k hk => ?_⟩
 rw [List.length_append, List.length_singleton] at hk
 by_cases e : k < l.length
 ·rw [List.take_append_of_le_length (by omega), List.getElem_append_left e]; exact h.fine k e
 ·obtain rfl : k = l.length := by omega
  rw [List.take_left', List.getElem_append_right (Nat.le_refl _)]
  ·simpa using hf
  ·rfl
structure LogOK (id : List UInt8) (l : List (List RecP)) (s : ChainS) : Prop where
 images : s.images.length = l.length
 heads : s.heads.length = l.length
 sizes : ∀ b ∈ s.images, b.length = 1024
 prev : s.prev.length = 32
 next : s.next = 1 + (s.recs.length : Int)
 recs : s.recs = l.flatten
 last : s.prev = headSeal id s.heads
 seqs : ∀ j (h : j < s.recs.length), s.recs[j].seq = 1 + (j : Int)
 image : ∀ k (h : k < l.length), s.images[k]? = some (segBytes k (logOf id (l.take k)).next (logOf id (l.take k)).prev l[k])
 head : ∀ k (h : k < l.length), s.heads[k]? = some (chainHead k (logOf id (l.take k)).next (logOf id (l.take k)).prev l[k])
 takes : ∀ k, k ≤ l.length → s.heads.take k = (logOf id (l.take k)).heads
theorem log_ok (id : List UInt8) : ∀ (n : Nat) (l : List (List RecP)), l.length = n → LogFine id l → LogOK id l (logOf id l)
 | 0, l, hn, _ => by
  obtain rfl := List.eq_nil_of_length_eq_zero hn
  exact ⟨rfl, rfl, by simp [logOf], genesisOf_length id, rfl, rfl, rfl, fun j h => absurd h (Nat.not_lt_zero j), fun k h => absurd h (Nat.not_lt_zero k), fun k h => absurd h (Nat.not_lt_zero k), fun k hk => by (have : k = 0 := by simpa using hk); subst this; rfl⟩
 | n + 1, l, hn, hf => by
  obtain ⟨m, x, rfl⟩ : ∃ m x, l = m ++ [x] := ⟨l.dropLast, l.getLast (by rintro rfl; simp at hn), (List.dropLast_concat_getLast _).symm⟩
  have hm : m.length = n := by simpa using hn
  have hfm : LogFine id m := by have := hf.take m.length; rwa [List.take_left' rfl] at this
  have h := log_ok id n m hm hfm
  have hx := hf.fine m.length (by simp)
  rw [List.take_left' rfl, List.getElem_append_right (Nat.le_refl _)] at hx
  simp only [Nat.sub_self, List.getElem_cons_zero] at hx
  have hi := h.images
  have hh := h.heads
  rw [logOf_snoc]
  refine ⟨?_, ?_, ?_, sealOf_length _, ?_, ?_, ?_, ?_, ?_, ?_, ?_⟩
  ·simp [logStep, hi]
  ·simp [logStep, hh]
  ·intro b hb
   rcases List.mem_append.1 hb with hb | hb
   ·exact h.sizes b hb
   ·rw [List.mem_singleton] at hb
    subst hb
    exact segBytes_length _ _ _ _ h.prev hx.room
  ·have := h.next
   simp only [logStep, List.length_append]
   omega
  ·simp [logStep, h.recs]
  ·simp [logStep, headSeal]
  ·intro j hj
   have key : ∀ (hj' : j < ((logOf id m).recs ++ x).length), ((logOf id m).recs ++ x)[j].seq = 1 + (j : Int) := fun hj' => by
    have hj2 := hj'
    rw [List.length_append] at hj2
    by_cases e : j < (logOf id m).recs.length
    ·rw [List.getElem_append_left e]; exact h.seqs j e
    ·rw [List.getElem_append_right (by omega), hx.seqs, h.next]
     omega
   exact key hj
  ·intro k hk
   rw [List.length_append, List.length_singleton] at hk
   by_cases e : k < m.length
   ·rw [List.take_append_of_le_length (by omega), List.getElem_append_left e]
    show ((logOf id m).images ++ _)[k]? = _
    rw [List.getElem?_append_left (by omega)]; exact h.image k e
   ·obtain rfl : k = m.length := by omega
    rw [List.take_left' rfl, List.getElem_append_right (Nat.le_refl _)]
    show ((logOf id m).images ++ _)[m.length]? = _
    rw [List.getElem?_append_right (by omega), hi, hh]
    simp
  ·intro k hk
   rw [List.length_append, List.length_singleton] at hk
   by_cases e : k < m.length
   ·rw [List.take_append_of_le_length (by omega), List.getElem_append_left e]
    show ((logOf id m).heads ++ _)[k]? = _
    rw [List.getElem?_append_left (by omega)]; exact h.head k e
   ·obtain rfl : k = m.length := by omega
    rw [List.take_left' rfl, List.getElem_append_right (Nat.le_refl _)]
    show ((logOf id m).heads ++ _)[m.length]? = _
    rw [List.getElem?_append_right (by omega), hh]
    simp
  ·intro k hk
   rw [List.length_append, List.length_singleton] at hk
   by_cases e : k ≤ m.length
   ·rw [List.take_append_of_le_length e]
    show ((logOf id m).heads ++ _).take k = _
    rw [List.take_append_of_le_length (by omega)]; exact h.takes k e
   ·obtain rfl : k = m.length + 1 := by omega
    have e1 : (m ++ [x]).take (m.length + 1) = m ++ [x] := List.take_of_length_le (by simp)
    rw [e1, logOf_snoc]
    refine List.take_of_length_le ?_
    show ((logOf id m).heads ++ [_]).length ≤ _
    rw [List.length_append, hh]; exact Nat.le_refl _
theorem LogFine.ok {id : List UInt8} {l : List (List RecP)} (h : LogFine id l) : LogOK id l (logOf id l) := log_ok id _ l rfl h
theorem LogFine.read {id : List UInt8} {l : List (List RecP)} (h : LogFine id l) {k : Nat} (hk : k < l.length) : segRead ((logOf id l).images.getD k []) = ((logOf id l).heads.getD k noHead, l[k], 0) := by
 rw [List.getD_eq_getElem?_getD, List.getD_eq_getElem?_getD, h.ok.image k hk, h.ok.head k hk]
 exact (h.fine k hk).read
theorem LogFine.shut {id : List UInt8} {l : List (List RecP)} (h : LogFine id l) {k : Nat} (hk : k < l.length) : sealOf ((logOf id l).heads.getD k noHead) = (logOf id (l.take (k + 1))).prev := by
 have hs : l.take (k + 1) = l.take k ++ [l[k]] := by rw [List.take_add_one, List.getElem?_eq_getElem hk]; rfl
 have ht : (logOf id (l.take k)).heads.length = k := by rw [(h.take k).ok.heads, List.length_take]; omega
 rw [hs, logOf_snoc, List.getD_eq_getElem?_getD, h.ok.head k hk]
 simp [logStep, ht]
theorem logOf_next {id : List UInt8} {l : List (List RecP)} {k : Nat} (hk : k < l.length) : (logOf id (l.take (k + 1))).next = (logOf id (l.take k)).next + l[k].length := by
 have hs : l.take (k + 1) = l.take k ++ [l[k]] := by rw [List.take_add_one, List.getElem?_eq_getElem hk]; rfl
 rw [hs, logOf_snoc]; rfl
/-! ### noughts, and rubbish, are no segment -/
theorem no_nought (b : List UInt8) (h : b.take 16 = List.replicate 16 0) : (segRead b).2.2 ≠ 0 := by
 unfold segRead
 split
 ·decide
 rename_i hl
 split
 ·simp
 have hh : (headOf b).count = 0 := by
  have e : b = List.replicate 16 0 ++ b.drop 16 := by rw [← h, List.take_append_drop]
  rw [e]
  rfl
 rw [if_pos (.inl hh)]
 simp
/-! ### a log that is open -/
structure LogS where
 segs : List (List RecP)
 waits : List RecP
def waitBytes (rs : List RecP) : Nat := (leavesOf rs).flatten.length
structure LogSt (id : List UInt8) (n : Nat) (s : LogS) : Prop where
 fine : LogFine id s.segs
 room : s.segs.length ≤ n
 few : n ≤ 512
 right : ∀ r ∈ s.waits, recRight r = true ∧ 0 ≤ r.seq
 seqs : ∀ k (h : k < s.waits.length), s.waits[k].seq = (logOf id s.segs).next + (k : Int)
 bytes : waitBytes s.waits ≤ 942
 free : s.waits.length ≠ 0 → s.segs.length < n
 time : (logOf id s.segs).next + (s.waits.length : Int) ≤ 1000000
theorem wait_many : ∀ {rs : List RecP}, (∀ r ∈ rs, recRight r = true ∧ 0 ≤ r.seq) → 15 * rs.length ≤ waitBytes rs
 | [], _ => Nat.zero_le _
 | r :: rs, h => by
  have h1 := (h r (by simp)).1
  have := wait_many (rs := rs) fun x hx => h x (by simp [hx])
  unfold waitBytes at *
  rw [leavesOf_cons h1, List.flatten_cons, List.length_append, recEnc_len h1, List.length_cons]
  omega
theorem waitBytes_snoc (rs : List RecP) {r : RecP} (h : recRight r = true) : waitBytes (rs ++ [r]) = waitBytes rs + recSize r := by
 unfold waitBytes leavesOf
 rw [List.map_append, List.flatten_append, List.length_append]
 simp [h, recEnc_size r h]
theorem LogSt.seg {id : List UInt8} {n : Nat} {s : LogS} (h : LogSt id n s) (hw : s.waits.length ≠ 0) : SegFine s.segs.length (logOf id s.segs).next (logOf id s.segs).prev s.waits := by
 have ho := h.fine.ok
 have hn := ho.next
 have ht := h.time
 have hr := h.room
 have hf := h.few
 have hm := wait_many h.right
 have hb := h.bytes
 exact ⟨by omega, by omega, by omega, by omega, ho.prev, hw, h.right, hb, by omega, h.seqs⟩
def LogS.shut (s : LogS) : LogS := if s.waits.length = 0 then s else ⟨s.segs ++ [s.waits], []⟩
theorem LogSt.sealed {id : List UInt8} {n : Nat} {s : LogS} (h : LogSt id n s) : LogSt id n s.shut := by
 unfold LogS.shut
 split
 ·exact h
 ·rename_i hw
  have hf := h.free hw
  have hn := h.few
  have hx : (logOf id (s.segs ++ [s.waits])).next = (logOf id s.segs).next + s.waits.length := by rw [logOf_snoc]; rfl
  have ht := h.time
  refine ⟨h.fine.snoc (h.seg hw) (by omega), by rw [List.length_append, List.length_singleton]; omega, hn, by simp, by simp, by simp [waitBytes, leavesOf], by simp, ?_⟩
  dsimp only
  rw [hx]
  simpa using ht
def LogS.append (n : Nat) (s : LogS) (r : RecP) : Option LogS :=
 if n - s.segs.length = 0 then none
 else if waitBytes s.waits + recSize r ≤ 942 then some ⟨s.segs, s.waits ++ [r]⟩
 else if n - s.segs.length = 1 then none
 else some ⟨s.segs ++ [s.waits], [r]⟩
theorem LogSt.appended {id : List UInt8} {n : Nat} {s s' : LogS} {r : RecP} (h : LogSt id n s) (hr : recRight r = true) (hs : r.seq = (logOf id s.segs).next + s.waits.length) (ht : r.seq < 1000000) (he : s.append n r = some s') : LogSt id n s' := by
 have ho := h.fine.ok
 have hn := ho.next
 have h0 : 0 ≤ r.seq := by omega
 unfold LogS.append at he
 split at he
 ·cases he
 rename_i h1
 split at he
 ·rename_i h2
  injection he with he
  subst he
  refine ⟨h.fine, h.room, h.few, ?_, ?_, ?_, ?_, ?_⟩
  ·intro x hx
   rcases List.mem_append.1 hx with hx | hx
   ·exact h.right x hx
   ·rw [List.mem_singleton] at hx; subst hx; exact ⟨hr, h0⟩
  ·intro k hk
   rw [List.length_append, List.length_singleton] at hk
   by_cases e : k < s.waits.length
   ·simp only [List.getElem_append_left e]; exact h.seqs k e
   ·obtain rfl : k = s.waits.length := by omega
    simp [hs]
  ·rw [waitBytes_snoc _ hr]; exact h2
  ·intro _; dsimp only; omega
  ·dsimp only; rw [List.length_append, List.length_singleton]; omega
 ·rename_i h2
  split at he
  ·cases he
  rename_i h3
  injection he with he
  subst he
  have hr15 : recSize r ≤ 942 := by
   have := recRight_def r
   rw [hr] at this
   unfold recSize
   rw [if_pos hr]
   have := of_decide_eq_true this.symm
   omega
  have hw : s.waits.length ≠ 0 := by
   intro e
   have := List.eq_nil_of_length_eq_zero e
   rw [this] at h2
   simp [waitBytes, leavesOf] at h2
   omega
  have hq := h.sealed
  unfold LogS.shut at hq
  rw [if_neg hw] at hq
  have hx : (logOf id (s.segs ++ [s.waits])).next = (logOf id s.segs).next + s.waits.length := by rw [logOf_snoc]; rfl
  have hf := h.few
  refine ⟨hq.fine, hq.room, hf, ?_, ?_, ?_, ?_, ?_⟩
  ·intro x hx
   rw [List.mem_singleton] at hx; subst hx; exact ⟨hr, h0⟩
  ·intro k hk
   dsimp only at hk ⊢
   have : k = 0 := by simpa using hk
   subst this
   simp [hs, hx]
  ·have := waitBytes_snoc [] hr
   rw [List.nil_append] at this
   rw [this]
   simpa [waitBytes, leavesOf] using hr15
  ·intro _; dsimp only; rw [List.length_append, List.length_singleton]; omega
  ·dsimp only; rw [hx]; simp; omega
theorem LogSt.again {id : List UInt8} {n : Nat} {s : LogS} (h : LogSt id n s) : LogSt id n ⟨s.segs, []⟩ :=
 ⟨h.fine, h.room, h.few, by simp, by simp, by simp [waitBytes, leavesOf], by simp, by have := h.time; simp; omega⟩
/-
  PROVED HERE: plain law on a log's disk: where its segments lie, what is found of them; no program is in sight.
-/
theorem splice_get {S b : List UInt8} {off : Nat} (h : off + b.length ≤ S.length) (x : Nat) : (splice S off b)[x]? = if off ≤ x ∧ x < off + b.length then b[x - off]? else S[x]? := by
 unfold splice
 by_cases h1 : x < off
 ·rw [List.getElem?_append_left (by rw [List.length_take]; omega), List.getElem?_take, if_pos h1, if_neg (by omega)]
 ·rw [List.getElem?_append_right (by rw [List.length_take]; omega), List.length_take, Nat.min_eq_left (by omega)]
  by_cases h2 : x < off + b.length
  ·rw [List.getElem?_append_left (by omega), if_pos (by omega)]
  ·rw [List.getElem?_append_right (by omega), List.getElem?_drop, if_neg (by omega)]
   congr 1
   omega
theorem splice_length {S b : List UInt8} {off : Nat} (h : off + b.length ≤ S.length) : (splice S off b).length = S.length := by
 unfold splice
 rw [List.length_append, List.length_append, List.length_take, List.length_drop]
 omega
theorem placeOf_get (S : List UInt8) (p i x : Nat) : (placeOf S p i)[x]? = if x < 1024 then S[placeAt p i + x]? else none := by
 unfold placeOf
 rw [List.getElem?_take, List.getElem?_drop]
theorem place_same {S b : List UInt8} {p i : Nat} (hb : b.length = 1024) (h : placeAt p i + 1024 ≤ S.length) : placeOf (splice S (placeAt p i) b) p i = b := by
 apply List.ext_getElem?
 intro x
 rw [placeOf_get]
 by_cases hx : x < 1024
 ·rw [if_pos hx, splice_get (by omega), if_pos (by omega)]
  congr 1
  omega
 ·rw [if_neg hx, List.getElem?_eq_none (by omega)]
theorem place_other {S b : List UInt8} {p i j : Nat} (hb : b.length = 1024) (h : placeAt p i + 1024 ≤ S.length) (hj : j ≠ i) : placeOf (splice S (placeAt p i) b) p j = placeOf S p j := by
 apply List.ext_getElem?
 intro x
 rw [placeOf_get, placeOf_get]
 by_cases hx : x < 1024
 ·rw [if_pos hx, if_pos hx, splice_get (by omega), if_neg (by unfold placeAt; omega)]
 ·rw [if_neg hx, if_neg hx]
def LaidOn (S : List UInt8) (p g : Nat) (imgs : List (List UInt8)) : Prop := ∀ i, i < g → placeOf S p i = imgs.getD i (List.replicate 1024 0)
theorem LaidOn.write {S b : List UInt8} {p g : Nat} {imgs : List (List UInt8)} (h : LaidOn S p g imgs) (_hn : imgs.length < g) (hb : b.length = 1024) (hfit : placeAt p imgs.length + 1024 ≤ S.length) : LaidOn (splice S (placeAt p imgs.length) b) p g (imgs ++ [b]) := by
 intro i hi
 rw [List.getD_eq_getElem?_getD]
 by_cases e : i = imgs.length
 ·subst e
  rw [place_same hb hfit, List.getElem?_append_right (Nat.le_refl _)]
  simp
 ·rw [place_other hb hfit e, h i hi, List.getD_eq_getElem?_getD]
  by_cases h1 : i < imgs.length
  ·rw [List.getElem?_append_left h1]
  ·rw [List.getElem?_eq_none (by omega), List.getElem?_eq_none (by rw [List.length_append, List.length_singleton]; omega)]
theorem laid_new {k p g : Nat} (hfit : ∀ i, i < g → placeAt p i + 1024 ≤ k * 128) : LaidOn (List.replicate (k * 128) 0) p g [] := by
 intro i hi
 have := hfit i hi
 unfold placeOf
 rw [List.drop_replicate, List.take_replicate, Nat.min_eq_left (by omega)]
 rfl
/-! ### what is found -/
def foundIn (S : List UInt8) (p : Nat) : Nat → Nat → Int → List UInt8 → List (HeadP × List RecP)
 | 0, _, _, _ => []
 | n + 1, i, next, head =>
  if (segRead (placeOf S p i)).2.2 = 0 ∧ (segRead (placeOf S p i)).1.index = i ∧ (segRead (placeOf S p i)).1.first = next ∧ (segRead (placeOf S p i)).1.prev = head then
   ((segRead (placeOf S p i)).1, (segRead (placeOf S p i)).2.1) :: foundIn S p n (i + 1) ((segRead (placeOf S p i)).1.first + (segRead (placeOf S p i)).1.count) (sealOf (segRead (placeOf S p i)).1)
  else []
theorem found_log {id : List UInt8} {l : List (List RecP)} (hf : LogFine id l) {S : List UInt8} {p g : Nat} (hg : l.length ≤ g) (hl : ∀ i, i < l.length → placeOf S p i = (logOf id l).images.getD i [])
  (hs : l.length < g → (segRead (placeOf S p l.length)).2.2 ≠ 0 ∨ (segRead (placeOf S p l.length)).1.index ≠ (l.length : Int)) :
  ∀ (m i : Nat), i + m = l.length → foundIn S p (g - i) i (logOf id (l.take i)).next (logOf id (l.take i)).prev = ((logOf id l).heads.zip l).drop i
 | 0, i, hi => by
  have hz : ((logOf id l).heads.zip l).length = l.length := by rw [List.length_zip, hf.ok.heads]; omega
  rw [List.drop_eq_nil_of_le (by omega)]
  obtain rfl : i = l.length := by omega
  cases hn : g - l.length with
  | zero => rfl
  | succ n =>
   have h1 := hs (by omega)
   unfold foundIn
   rw [if_neg]
   rintro ⟨q1, q2, _⟩
   rcases h1 with h1 | h1
   ·exact h1 q1
   ·exact h1 q2
 | m + 1, i, hi => by
  have hil : i < l.length := by omega
  have hh := hf.ok.head i hil
  have hzz : ((logOf id l).heads.zip l).drop i = ((logOf id l).heads.getD i noHead, l[i]) :: ((logOf id l).heads.zip l).drop (i + 1) := by
   have hz : i < ((logOf id l).heads.zip l).length := by rw [List.length_zip, hf.ok.heads]; omega
   rw [List.drop_eq_getElem_cons hz, List.getElem_zip]
   congr 2
   rw [List.getD_eq_getElem?_getD, List.getElem?_eq_getElem (by rw [hf.ok.heads]; omega)]
   rfl
  have ih := found_log hf hg hl hs m (i + 1) (by omega)
  have hsub : g - i = (g - (i + 1)) + 1 := by omega
  rw [hzz, hsub]
  unfold foundIn
  rw [hl i hil, hf.read hil]
  dsimp only
  have hh2 : (logOf id l).heads.getD i noHead = chainHead i (logOf id (l.take i)).next (logOf id (l.take i)).prev l[i] := by rw [List.getD_eq_getElem?_getD, hh]; rfl
  have hse := hf.shut hil
  have hne := logOf_next (id := id) hil
  rw [hse]
  rw [if_pos (by rw [hh2]; exact ⟨rfl, rfl, rfl, rfl⟩)]
  have e1 : ((logOf id l).heads.getD i noHead).first + ((logOf id l).heads.getD i noHead).count = (logOf id (l.take (i + 1))).next := by rw [hh2, hne]; rfl
  rw [e1, ih]
/-! ### the document's log -/
structure RefL where
 segments : Int
 sealed : Int
 bytes : Int
 waits : Int
 next : Int
def RefL.shut (m : RefL) : RefL := if 0 < m.waits then ⟨m.segments, m.sealed + 1, 0, 0, m.next⟩ else m
def RefL.append (m : RefL) (size : Int) : Bool × RefL :=
 if m.segments ≤ m.sealed then (false, m)
 else if 942 - m.bytes < size then
  if m.segments ≤ m.sealed + 1 then (false, m)
  else (true, ⟨m.segments, m.shut.sealed, m.shut.bytes + size, m.shut.waits + 1, m.next + 1⟩)
 else (true, ⟨m.segments, m.sealed, m.bytes + size, m.waits + 1, m.next + 1⟩)
def refOf (id : List UInt8) (n : Nat) (s : LogS) : RefL := ⟨n, s.segs.length, waitBytes s.waits, s.waits.length, (logOf id s.segs).next + s.waits.length⟩
theorem ref_seal {id : List UInt8} {n : Nat} {s : LogS} : (refOf id n s).shut = refOf id n s.shut := by
 unfold RefL.shut LogS.shut refOf
 by_cases h : s.waits.length = 0
 ·rw [if_neg (by dsimp only; omega), if_pos h]
 ·rw [if_pos (by dsimp only; omega), if_neg h]
  simp [waitBytes, leavesOf, logOf_snoc, logStep]
theorem ref_append {id : List UInt8} {n : Nat} {s : LogS} {r : RecP} (h : LogSt id n s) (hr : recRight r = true) :
  (refOf id n s).append (recSize r) = match s.append n r with | some s' => (true, refOf id n s') | none => (false, refOf id n s) := by
 have hroom := h.room
 have hb := h.bytes
 unfold RefL.append LogS.append
 by_cases h1 : n - s.segs.length = 0
 ·rw [if_pos h1, if_pos (by simp only [refOf]; omega)]
 ·rw [if_neg h1, if_neg (by simp only [refOf]; omega)]
  by_cases h2 : waitBytes s.waits + recSize r ≤ 942
  ·rw [if_pos h2, if_neg (by simp only [refOf]; omega)]
   simp [refOf, waitBytes_snoc _ hr]
   omega
  ·rw [if_neg h2, if_pos (by simp only [refOf]; omega)]
   by_cases h3 : n - s.segs.length = 1
   ·rw [if_pos h3, if_pos (by simp only [refOf]; omega)]
   ·rw [if_neg h3, if_neg (by simp only [refOf]; omega)]
    have hw : s.waits.length ≠ 0 := by
     intro e
     have hnil := List.eq_nil_of_length_eq_zero e
     rw [hnil] at h2
     have hs : recSize r ≤ 942 := by
      have := recRight_def r
      rw [hr] at this
      unfold recSize
      rw [if_pos hr]
      have := of_decide_eq_true this.symm
      omega
     simp [waitBytes, leavesOf] at h2
     omega
    rw [ref_seal]
    unfold LogS.shut
    rw [if_neg hw]
    have := waitBytes_snoc [] hr
    rw [List.nil_append] at this
    simp [refOf, this, logOf_snoc, logStep]
/-
  PROVED HERE: what log.Seal does; conditions: the log is as LogOn says, its records make a segment.
-/
theorem SegFine.build {index first : Int} {prev : List UInt8} {rs : List RecP} (h : SegFine index first prev rs) : buildOf index first prev rs = (segBytes index first prev rs, 0) := by
 have h1 : buildArgs index first prev.length rs = true := decide_eq_true ⟨h.i0, h.i1, h.f1, h.prev, h.any, fits_right (fun r hr => (h.right r hr).1) h.room⟩
 have h2 : seqsFrom first rs = true := (seqsFrom_iff _ _).2 h.seqs
 unfold buildOf
 rw [h1, h2, if_neg (by simp), if_neg (by simp)]
structure LogOn (w : World) (D : Nat → Prop) (base bl : Nat) (q : DiskB) (v : LogV) (A : Option Addr) (c : Nat) (S : List UInt8) : Prop where
 log : LogAt w D base bl q.bd v A c
 disk : Clean w q S
 size : S.length = v.s * 128
 plan : planRight v.s v.p v.g = true
 apart : DiskOf q bl
 row : ∀ k, blk A = some k → DiskOf q k
 data : ∀ b, D b → DiskOf q b
section
variable {w w' : World} {D F : Nat → Prop} {base bl : Nat} {q : DiskB} {v : LogV} {A : Option Addr} {c : Nat} {S : List UInt8}
theorem LogOn.new (h : LogOn w D base bl q v A c S) (hk : New w w') : LogOn w' D base bl q v A c S := ⟨h.log.new hk, h.disk.new hk, h.size, h.plan, h.apart, h.row, h.data⟩
theorem LogOn.keep (h : LogOn w D base bl q v A c S) (hk : Keep F w w') (hl : F bl) (hA : ∀ k, blk A = some k → F k) (hD : ∀ b, D b → F b) (hq : ∀ b, b = q.bd ∨ b = q.bs ∨ b = q.bm → F b) : LogOn w' D base bl q v A c S :=
 ⟨h.log.keep hk hl hA hD, h.disk.keep hk hq, h.size, h.plan, h.apart, h.row, h.data⟩
end
def LogV.shut (v : LogV) : LogV := if v.waits.length = 0 then v else ⟨v.s, v.p, v.g, v.sealed + 1, v.next + (v.waits.length : Int), sealOf (chainHead v.sealed v.next v.head v.waits), []⟩
def LogV.disk (v : LogV) (S : List UInt8) : List UInt8 := if v.waits.length = 0 then S else splice S (placeAt v.p v.sealed) (segBytes v.sealed v.next v.head v.waits)
set_option maxRecDepth 100000 in
theorem lseal_any {w : World} {D : Nat → Prop} {base bl : Nat} {q : DiskB} {v : LogV} {A : Option Addr} {c : Nat} {S : List UInt8} (h : LogOn w D base bl q v A c S)
  (hfine : v.waits.length ≠ 0 → SegFine v.sealed v.next v.head v.waits ∧ v.sealed < v.g) :
  Calls Tryz.prog 31 #[.pointer (some ⟨bl, 0, none⟩)] w fun e w' => e = .returned (.int .i64 0) ∧ Keep (fun j => j ≠ bl ∧ DiskOf q j) w w' ∧
   ∃ A' c', LogOn w' (fun b => D b ∨ w.heap.size ≤ b) base bl q v.shut A' c' (v.disk S) ∧ (A' = A ∨ A' = none) := by
 have HH := Lib.hid h
 have hlb := h.log.lt
 obtain ⟨H, hc, hb, h32, hB⟩ := h.log.cells
 by_cases hz : v.waits.length = 0
 ·have c7 : w.cell? ⟨bl, 7, none⟩ = some (.slice A v.waits.length c) := cellOf hb rfl
  rw [hz] at c7
  have hvs : Hid (v.shut = v ∧ v.disk S = S) := Lib.hid ⟨if_pos hz, if_pos hz⟩
  clear h hb hB hfine hz
  go_enter Tryz.func31, Tryz.ntmps31
  go_wp2_with fail
  go_ret
  refine ⟨rfl, Keep.refl _ _, A, c, ?_, .inl rfl⟩
  rw [hvs.out.1, hvs.out.2]
  exact ⟨HH.out.log.imp (fun b _ hd => .inl hd) (fun hd => hd.elim HH.out.log.out (fun h => by omega)), HH.out.disk, HH.out.size, HH.out.plan, HH.out.apart, HH.out.row, fun b hb => hb.elim (HH.out.data b) (HH.out.disk.beyond b)⟩
 ·obtain ⟨hf, hsg⟩ := hfine hz
  have hvs : Hid (v.shut = ⟨v.s, v.p, v.g, v.sealed + 1, v.next + (v.waits.length : Int), sealOf (chainHead v.sealed v.next v.head v.waits), []⟩ ∧ v.disk S = splice S (placeAt v.p v.sealed) (segBytes v.sealed v.next v.head v.waits)) := Lib.hid ⟨if_neg hz, if_neg hz⟩
  generalize v.shut = vz at *
  generalize v.disk S = Sz at *
  have hBD := fun W (hW : New w W) => build_any (fun b => D b ∧ some b ≠ blk A) (fun b => base ≤ b ∨ D b) (v.sealed : Int) v.next H A hc v.waits.length c v.head v.waits W (by rw [hf.prev]; exact hB.new hW) (by rw [hf.prev]; exact h32) (recs_sl.2 (h.log.waits.sl.new hW)) (by have := h.log.few.1; omega) h.log.next0
  rw [hf.build, hf.prev] at hBD
  have HBD := Lib.hid hBD
  have hbl0 := segBytes_length v.sealed v.next v.head v.waits hf.prev hf.room
  have hrd : segRead (segBytes v.sealed v.next v.head v.waits) = (chainHead v.sealed v.next v.head v.waits, v.waits, 0) := hf.read
  have hchf : (chainHead v.sealed v.next v.head v.waits).first = v.next := rfl
  have hchc : (chainHead v.sealed v.next v.head v.waits).count = (v.waits.length : Int) := rfl
  have HF := Lib.hid hf
  obtain ⟨n, hn⟩ : ∃ n, n = v.waits.length := ⟨_, rfl⟩
  have hn100 : n ≤ 100 := by rw [hn]; exact h.log.few.1
  rw [← hn] at hb hz hBD HBD
  have hz' : ((n : Int) == 0) = false := by simp; omega
  have y : ∀ W, Keep (DiskOf q) w W → W.heap[bl]? = some (.cells #[.pointer (some ⟨q.bd, 0, none⟩), .int .i64 v.s, .int .i64 v.p, .int .i64 v.g, .int .i64 v.sealed, .slice H 32 hc, .int .u64 v.next, .slice A n c] 79 (0, 0)) := fun W hW => (hW.block bl hlb h.apart).trans hb
  have y0 := fun W hW => cellOf (k := 0) (y W hW) rfl
  have y1 := fun W hW => cellOf (k := 1) (y W hW) rfl
  have y2 := fun W hW => cellOf (k := 2) (y W hW) rfl
  have y3 := fun W hW => cellOf (k := 3) (y W hW) rfl
  have y4 := fun W hW => cellOf (k := 4) (y W hW) rfl
  have y5 := fun W hW => cellOf (k := 5) (y W hW) rfl
  have y6 := fun W hW => cellOf (k := 6) (y W hW) rfl
  have y7 := fun W hW => cellOf (k := 7) (y W hW) rfl
  have c7 := y7 w (Keep.refl _ _)
  have z4 := fun W (hW : New w W) => y4 W (Keep.of_new hW)
  have z5 := fun W (hW : New w W) => y5 W (Keep.of_new hW)
  have z6 := fun W (hW : New w W) => y6 W (Keep.of_new hW)
  have z7 := fun W (hW : New w W) => y7 W (Keep.of_new hW)
  have HY := Lib.hid (And.intro y (And.intro y0 (And.intro y1 (And.intro y2 (And.intro y3 y4)))))
  generalize segBytes (v.sealed : Int) v.next v.head v.waits = bb at *
  generalize chainHead v.sealed v.next v.head v.waits = ch at *
  rw [← hn] at hchc
  have HCH := Lib.hid (And.intro hchf hchc)
  clear hchf hchc
  have HFIT := Lib.hid (layPlan h.plan hsg)
  replace hn := Lib.hid hn
  clear h hb hB hfine hz y y0 y1 y2 y3 y4 y5 y6 y7 hBD hf
  go_enter Tryz.func31, Tryz.ntmps31
  go_upto_region 3 with fail
  clear c7
  refine hold_begin (by kernel_rfl) ?_
  have n0 : New w w.drew := (New.refl w).drew
  replace z4 := fun W (hW : New w.drew W) => z4 W (Keep.new n0 hW)
  replace z5 := fun W (hW : New w.drew W) => z5 W (Keep.new n0 hW)
  replace z6 := fun W (hW : New w.drew W) => z6 W (Keep.new n0 hW)
  replace z7 := fun W (hW : New w.drew W) => z7 W (Keep.new n0 hW)
  refine take1 0 ?_
  refine take1 1 ?_
  refine take1 2 ?_
  refine take1 3 ?_
  refine take1 4 ?_
  refine take1 5 ?_
  refine take1 6 ?_
  refine take1 7 ?_
  refine take1 8 ?_
  refine take1 9 ?_
  refine take1 10 ?_
  refine take1 11 ?_
  refine take1 12 ?_
  refine take1 13 ?_
  refine take1 14 ?_
  refine take1 15 ?_
  refine hold_step (i := 16) (by kernel_rfl) rfl rfl (fun K hK => ?_)
  go_simp
  refine (HBD.out _ n0).mono ?_
  rintro e w2 ⟨⟨A2, c2, rfl, o2⟩, k2⟩; dsimp only at o2 ⊢; rw [hbl0] at o2 ⊢
  go_wp2_with fail
  refine hK.out _ _ k2 ?_
  clear hK K
  try simp only [Act.put, ly1, ly2, ly3, ly4, ly5, ly6]
  replace n0 := Keep.new n0 k2
  replace z4 := fun W (hW : New w2 W) => z4 W (Keep.new k2 hW)
  replace z5 := fun W (hW : New w2 W) => z5 W (Keep.new k2 hW)
  replace z6 := fun W (hW : New w2 W) => z6 W (Keep.new k2 hW)
  replace z7 := fun W (hW : New w2 W) => z7 W (Keep.new k2 hW)
  refine take1 17 ?_
  refine take1 18 ?_
  refine take1 19 ?_
  refine take1 20 ?_
  refine take1 21 ?_
  refine wpAnyH_done (by kernel_rfl) ?_ _
  clear z4 z5 z6 z7
  have K2 : New w w2 := n0
  have hfrm := o2.form (by decide)
  obtain ⟨g2, cg2, hA2, hg2, hg2l⟩ := hfrm
  have hA3 : A2 = some ⟨g2, 0, none⟩ := by injection hA2
  clear hA2
  subst hA3
  have hB2 : Bs w2 (fun b => w.heap.size ≤ b) (some ⟨g2, 0, none⟩) 1024 bb := Row.of_own o2
  have hc2 : 1024 ≤ c2 ∧ c2 ≤ 9223372036854775807 := ⟨own_cap o2, own_capMax o2⟩
  have HBE : Hid (∀ j, w.heap.size ≤ j → j ≠ q.bd ∧ j ≠ q.bs ∧ j ≠ q.bm) := Lib.hid fun j hj => HH.out.disk.beyond j hj
  have HLY : Hid (Calls Tryz.prog 56 #[.pointer (some ⟨q.bd, 0, none⟩), .agg #[.int .i64 v.s, .int .i64 v.p, .int .i64 v.g], .int .i64 v.sealed, .slice (some ⟨g2, 0, none⟩) 1024 c2] w2.drew fun e w' => e = .returned (.tuple #[]) ∧ Keep (DiskOf q) w2.drew w' ∧ Clean w' q (splice S (placeAt v.p v.sealed) bb)) := Lib.hid (by
   obtain ⟨wr0, hd⟩ := HH.out.disk.new K2.drew
   refine (lay_any hd HH.out.size (fun b hb => HBE.out b (Nat.le_trans K2.size hb)) HH.out.plan hsg ⟨g2, 0, none⟩ c2 bb hB2.drew hc2.1 hc2.2 HBE.out).mono ?_
   rintro e w' ⟨he, hk, wr', hd'⟩
   exact ⟨he, hk, Clean.of hd'⟩)
  obtain ⟨-, y0, y1, y2, y3, y4⟩ := HY.out
  have r0 := fun W (hW : Keep (DiskOf q) w2.drew W) => y0 W ((Keep.of_new K2).drew.trans hW)
  have r1 := fun W (hW : Keep (DiskOf q) w2.drew W) => y1 W ((Keep.of_new K2).drew.trans hW)
  have r2 := fun W (hW : Keep (DiskOf q) w2.drew W) => y2 W ((Keep.of_new K2).drew.trans hW)
  have r3 := fun W (hW : Keep (DiskOf q) w2.drew W) => y3 W ((Keep.of_new K2).drew.trans hW)
  have r4 := fun W (hW : Keep (DiskOf q) w2.drew W) => y4 W ((Keep.of_new K2).drew.trans hW)
  have HB2 := Lib.hid hB2
  clear k2 o2 hg2 hg2l y0 y1 y2 y3 y4 n0 HBD hB2
  go_upto_region 6 with fail
  refine hold_beginS (Keep (DiskOf q) w2.drew) (by kernel_rfl) ?_
  have n0 : Keep (DiskOf q) w2.drew w2.drew := Keep.refl _ _
  refine take0 0 n0 ?_
  refine take0 1 n0 ?_
  refine take0 2 n0 ?_
  refine take0 3 n0 ?_
  refine take0 4 n0 ?_
  refine take0 5 n0 ?_
  refine take0 6 n0 ?_
  refine take0 7 n0 ?_
  refine take0 8 n0 ?_
  refine take0 9 n0 ?_
  refine take0 10 n0 ?_
  refine take0 11 n0 ?_
  refine take0 12 n0 ?_
  refine hold_step0 (i := 13) (by kernel_rfl) rfl rfl (fun K hK => ?_)
  (go_simp; refine HLY.out.mono ?_)
  (rintro e w3 ⟨rfl, k3, hd3⟩; go_wp2_with fail)
  have n1 := k3
  refine hK.out _ _ n1 ?_
  clear hK K
  try simp only [Act.put, ly1, ly2, ly3, ly4, ly5, ly6]
  replace n0 := n1
  clear n1
  refine wpAnyH_done (by kernel_rfl) ?_ _
  have K3 : Keep (DiskOf q) w w3 := (Keep.of_new K2).drew.trans n0
  have hB3 : Bs w3 (fun b => w.heap.size ≤ b) (some ⟨g2, 0, none⟩) 1024 bb := Row.keep (E := DiskOf q) (Row.drew HB2.out) n0 (fun b _ hb => HBE.out b hb)
  have HRD := read_any (fun b => w.heap.size ≤ b) (some ⟨g2, 0, none⟩) 1024 c2 bb w3 hB3 hc2.1 hc2.2
  rw [hrd] at HRD
  replace HRD := Lib.hid HRD
  have HD3 := Lib.hid hd3
  have HK3 := Lib.hid K3
  clear r0 r1 r2 r3 r4 n0 hd3 K3 hB3 HLY HB2 K2
  go_wp2_with fail
  refine HRD.out.mono ?_
  rintro e w4 ⟨⟨P1, p1, P2, p2, A3, c3, rfl, hp1, hp2, hb1, hb2, -⟩, k4⟩
  dsimp only at hp1 hp2 hb1 hb2 ⊢
  clear HRD hrd
  have hx5 := heap_alloc_new w4 (.cells #[.int .i64 ch.index, .int .u64 ch.first, .int .i64 ch.count, .int .i64 ch.bytes, .slice P1 ch.prev.length p1, .slice P2 ch.root.length p2] 81)
  have k5 := k4.alloc (.cells #[.int .i64 ch.index, .int .u64 ch.first, .int .i64 ch.count, .int .i64 ch.bytes, .slice P1 ch.prev.length p1, .slice P2 ch.root.length p2] 81)
  have hb1 := hb1.alloc (.cells #[.int .i64 ch.index, .int .u64 ch.first, .int .i64 ch.count, .int .i64 ch.bytes, .slice P1 ch.prev.length p1, .slice P2 ch.root.length p2] 81)
  have hb2 := hb2.alloc (.cells #[.int .i64 ch.index, .int .u64 ch.first, .int .i64 ch.count, .int .i64 ch.bytes, .slice P1 ch.prev.length p1, .slice P2 ch.root.length p2] 81)
  go_upto_region 8 with fail
  generalize w4.alloc (.cells #[.int .i64 ch.index, .int .u64 ch.first, .int .i64 ch.count, .int .i64 ch.bytes, .slice P1 ch.prev.length p1, .slice P2 ch.root.length p2] 81) = w5 at *
  generalize w4.heap.size = g5 at *
  have hz3 := HK3.out.size
  have hl5 : LogAt w5 D base bl q.bd v A c := HH.out.log.keep (HK3.out.new k5) HH.out.apart HH.out.row HH.out.data
  have HDD := Lib.hid (did_any hl5 ch P1 P2 p1 p2 hb1 hp1 hb2 hp2 (fun b hb => by omega) (fun b hb => by omega) HCH.out.1 (by have := HCH.out.2; omega) (by have := HCH.out.2; omega) hsg)
  have hz5 : w.heap.size ≤ w5.heap.size := Nat.le_trans hz3 k5.size
  obtain ⟨x0, x1, x2, x3, x4, x5⟩ := cs6 hx5
  clear hb1 hb2 hl5 hp1 hp2 k4
  go_wp2_with fail
  clear x0 x1 x2 x3 x4 x5 hx5
  refine HDD.out.mono ?_
  rintro e w6 ⟨rfl, k6, hl6⟩
  obtain ⟨H6, hc6, hb6, h326, hB6⟩ := hl6.cells
  have HL6 := Lib.hid hl6
  have HB6 := Lib.hid hB6
  have c7 := cellOf hb6 (k := 7) rfl
  have f7 := frozenOf hb6 7
  have HK6 := Lib.hid (And.intro k5 k6)
  clear HDD hl6 hB6 k5 k6
  go_wp2_with fail
  go_ret
  have hb7 := setCell_block hb6 7 (.slice none 0 0)
  have q7 : Keep (fun j => j ≠ bl) w6 (w6.setCell ⟨bl, 7, none⟩ (.slice none 0 0)) := (Keep.refl _ w6).setCell (p := ⟨bl, 7, none⟩) (fun hd => absurd rfl hd) _
  have h := HH.out
  obtain ⟨k5, k6⟩ := HK6.out
  have hl6 := HL6.out
  have hqb : ∀ b, b = q.bd ∨ b = q.bs ∨ b = q.bm → b ≠ bl := fun b hb e => diskOf_not hb (e ▸ h.apart)
  have hcl := ((HD3.out.new k5).keep k6 hqb).keep q7 hqb
  have hkk := (((HK3.out.new k5).imp (E := fun j => j ≠ bl ∧ DiskOf q j) fun _ _ hj => hj.2).trans2 k6 fun _ _ hj => hj.1).trans2 q7 fun _ _ hj => hj.1
  refine ⟨rfl, hkk, none, 0, ?_, .inr rfl⟩
  rw [hvs.out.1, hvs.out.2]
  have hval : ch.first + ch.count = v.next + (v.waits.length : Int) := by rw [HCH.out.1, HCH.out.2, hn.out]
  refine ⟨⟨⟨H6, hc6, ?_, h326, ?_⟩, OwnSl.nil _ _ _ _ _, ?_, ?_, ⟨Nat.zero_le _, hl6.few.2⟩, fun hd => hd.elim h.log.out (fun h => by omega), by simp [blk]⟩, hcl, ?_, h.plan, h.apart, fun k hk => (by cases hk), fun b hb => hb.elim (h.data b) (fun hb => HBE.out b hb)⟩
  ·rw [hval] at hb7
   exact hb7
  ·exact (HB6.out.keep q7 (fun b _ hb e => hl6.out (e ▸ hb.1))).imp fun b _ hb => ⟨hb.1.imp id (fun h => Nat.le_trans hz5 h), by simp [blk]⟩
  ·have := hl6.next0
   dsimp only at this ⊢
   omega
  ·have := hl6.next1
   dsimp only at this ⊢
   omega
  ·rw [splice_length (by rw [hbl0, h.size]; have := HFIT.out.1; unfold placeAt; omega), h.size]
/-
  PROVED HERE: what slices.Clone answers at records; condition: fewer than 2^40 records.
-/
set_option maxRecDepth 100000 in
theorem clonerecs_any (D : Nat → Prop) (A : Option Addr) (n c : Nat) (rs : List RecP) (w : World) (hH : Sl recElt w D A n rs) (hn : n ≤ 1000000) :
  Calls Tryz.prog 45 #[.slice A n c] w fun e w' => (∃ A' c', e = .returned (.slice A' n c') ∧ OwnSl 52 recElt w' w.heap.size (fun b => b < w.heap.size) A' n c' rs) ∧ New w w' := by
 have hq := fun w' => Lib.run_eql_slice_nil (P := Tryz.prog) w' 77 52 A n c 0 0 Tryz.underlying77
 rcases A with _ | ad
 ·have h0 : n = 0 := by
   rcases Nat.eq_zero_or_pos n with h | h
   ·exact h
   ·obtain ⟨vs, h1, _⟩ := hH
    obtain ⟨_, _, e, _⟩ := h1.2 h
    cases e
  subst h0
  obtain rfl : rs = [] := List.eq_nil_of_length_eq_zero hH.len
  go_enter Tryz.func45, Tryz.ntmps45
  go_wp2_with fail
  go_ret
  exact ⟨⟨none, 0, rfl, OwnSl.nil _ _ _ _ _⟩, New.refl _⟩
 ·obtain ⟨us, h1, h2, h3⟩ := hH
  have kA : New w (w.alloc (.cells #[] 52)) := (New.refl w).alloc _
  have hr := h1.new kA
  have h0 : OwnSl 52 recElt (w.alloc (.cells #[] 52)) w.heap.size (fun b => b < w.heap.size) (some ⟨w.heap.size, 0, none⟩) 0 0 [] := ⟨[], World.ownsRow_made w #[] 0 (Nat.le_refl _) (by decide) rfl, rfl, fun k hk => absurd hk (by simp)⟩
  have hy : ∀ k (h : k < rs.length), recElt.At (w.alloc (.cells #[] 52)) (fun b => b < w.heap.size ∧ some b ≠ blk (some (Addr.mk w.heap.size 0 none))) us (k * recElt.size) rs[k] := fun k hk => recElt.keep (recElt.imp (h3 k hk) (E := fun b => b < w.heap.size ∧ some b ≠ blk (some (Addr.mk w.heap.size 0 none))) fun b hb _ => ⟨hb, fun e => by (have e1 : b = w.heap.size := by injection e); omega⟩) kA (fun _ _ _ => trivial)
  have hbd : 0 + n ≤ 9223372036854775807 := by omega
  have hbd2 : (0 + n) * 40 ≤ 140737488355328 := by omega
  have hsz : w.heap.size ≤ (w.alloc (.cells #[] 52)).heap.size := kA.size
  obtain ⟨q0, hq0, hqz, hqs, hqb⟩ := info_parts info_record
  clear h1 h3
  go_enter Tryz.func45, Tryz.ntmps45
  go_wp2_with (at_builtin; refine app_slM (E := recElt) _ rfl _ _ 77 52 rfl q0 (.agg #[.int .i64 0, .int .u64 0, .slice none 0 0]) 40 Tryz.underlying77 hq0 hqz hqs hqb rfl w.heap.size (fun b => b < w.heap.size) (some ⟨w.heap.size, 0, none⟩) 0 0 [] rfl h0 _ (some ad) n c us rs rfl hr h2 hy hbd hbd2 hsz ?_; intro A3 c3 w3 o3 hg3 hbk3)
  rw [Nat.zero_add, List.nil_append] at o3
  have hN : New w w3 := kA.grown hg3 (fun j hj _ => (h0.lt j hj).1)
  go_ret
  exact ⟨⟨A3, c3, rfl, o3⟩, hN⟩
/-
  PROVED HERE: what log.Open answers where its arguments are right; conditions: nothing on the disk is unsafe.
-/
theorem info_recsl : (Tryz.prog.info? 77).map (fun i => (i.zero, i.size, i.bytes)) = some (some (.slice none 0 0), 1, 24) := by kernel_rfl
theorem New.of_eq {w w' : World} (h : w = w') : New w w' := h ▸ New.refl w
def foundEnd : Int → List UInt8 → List (HeadP × List RecP) → Int × List UInt8
 | nx, hd, [] => (nx, hd)
 | _, _, x :: r => foundEnd (x.1.first + x.1.count) (sealOf x.1) r
theorem foundEnd_snoc : ∀ (nx : Int) (hd : List UInt8) (l : List (HeadP × List RecP)) (x : HeadP × List RecP), foundEnd nx hd (l ++ [x]) = (x.1.first + x.1.count, sealOf x.1)
 | _, _, [], _ => rfl
 | _, _, _y :: l, x => foundEnd_snoc _ _ l x
theorem six_cells {w : World} {g : Nat} {c0 c1 c2 c3 c4 c5 : Value} {t : TypeId} (h : w.heap[g]? = some (.cells #[c0, c1, c2, c3, c4, c5] t (0, 0))) (x0 x1 x2 x3 x4 x5 : Value) :
  ((((((w.setCell ⟨g, 0, none⟩ x0).setCell ⟨g, 1, none⟩ x1).setCell ⟨g, 2, none⟩ x2).setCell ⟨g, 3, none⟩ x3).setCell ⟨g, 4, none⟩ x4).setCell ⟨g, 5, none⟩ x5).heap[g]? = some (.cells #[x0, x1, x2, x3, x4, x5] t (0, 0)) ∧
  Keep (fun b => b ≠ g) w ((((((w.setCell ⟨g, 0, none⟩ x0).setCell ⟨g, 1, none⟩ x1).setCell ⟨g, 2, none⟩ x2).setCell ⟨g, 3, none⟩ x3).setCell ⟨g, 4, none⟩ x4).setCell ⟨g, 5, none⟩ x5) := by
 have no : ∀ (W : World) (k : Nat) (u : Value), Keep (fun b => b ≠ g) w W → Keep (fun b => b ≠ g) w (W.setCell ⟨g, k, none⟩ u) := fun W k u hW => hW.setCell (p := ⟨g, k, none⟩) (fun hd => absurd rfl hd) u
 exact ⟨setCell_block (setCell_block (setCell_block (setCell_block (setCell_block (setCell_block h 0 x0) 1 x1) 2 x2) 3 x3) 4 x4) 5 x5, no _ _ _ (no _ _ _ (no _ _ _ (no _ _ _ (no _ _ _ (no _ _ _ (Keep.refl _ w))))))⟩
theorem own_not {w : World} {base : Nat} {t t' : TypeId} {size n c : Nat} {A : Option Addr} {xs : List Value} (h : Own w base t size A n c xs) {g : Nat} {cs : Array Value} {fr : Nat × Nat} (hg : w.heap[g]? = some (.cells cs t' fr)) (ht : t ≠ t') : blk A ≠ some g := by
 intro e
 rcases h.2 with ⟨hv, _⟩ | ⟨g2, cap2, cur2, hv, _, hg2, _⟩
 ·injection hv with hA; subst hA; cases e
 ·injection hv with hA; subst hA
  have : g2 = g := by injection e
  subst this
  rw [hg] at hg2
  injection hg2 with hg2
  injection hg2 with _ h2
  exact ht h2.symm
def openNext (fr : Nat) (next : Int) : Int := if fr = 0 then 1 else next
def openHead (fr : Nat) (id hb : List UInt8) : List UInt8 := if fr = 0 then genesisOf id else hb
def OpenRet (w : World) (q : DiskB) (S : List UInt8) (s p g fr : Nat) (nx : Int) (hd : List UInt8) (e : Ending) (w' : World) : Prop := New w w' ∧ ∃ bl Ao co fd, fd = foundIn S p (g - fr) fr nx hd ∧
 e = .returned (.tuple #[.pointer (some ⟨bl, 0, none⟩), .slice Ao fd.length co, .int .i64 0]) ∧ w.heap.size ≤ bl ∧
 LogOn w' (fun b => w.heap.size ≤ b ∧ b ≠ bl) w.heap.size bl q ⟨s, p, g, fr + fd.length, (foundEnd nx hd fd).1, (foundEnd nx hd fd).2, []⟩ none 0 S ∧
 OwnSl 77 (slElt recElt) w' w.heap.size (fun b => w.heap.size ≤ b ∧ b ≠ bl) Ao fd.length co (fd.map Prod.snd)
theorem head_count (bs : List UInt8) : 0 ≤ (segRead bs).1.count ∧ (segRead bs).1.count ≤ 65535 := by
 have hf : 0 ≤ (headOf bs).count ∧ (headOf bs).count ≤ 65535 := by
  have h := num_lt (((RdS.mk bs 0).num 2).2.num 8).2 2
  refine ⟨Int.natCast_nonneg _, ?_⟩
  unfold headOf
  dsimp only
  omega
 have h0 : (0 : Int) ≤ noHead.count ∧ noHead.count ≤ 65535 := by decide
 unfold segRead
 split
 ·exact h0
 split
 ·exact h0
 split
 ·exact h0
 split
 ·exact h0
 split
 ·exact h0
 split
 ·exact h0
 ·exact hf
/-
  PROVED HERE: the memory of chapter 21's law: its world's struct; what the document's log (chapter 23) does in it; conditions: numbers that are small.
-/
structure W21V where
 bd : Nat
 bl : Nat
 k : Nat
 p : Nat
 g : Nat
 m : RefL
 Aw : Option Addr
 nw : Nat
 cw : Nat
 Ah : Option Addr
 nh : Nat
 ch : Nat
 Aa : Option Addr
 na : Nat
 ca : Nat
 Ai : Option Addr
 ni : Nat
 ci : Nat
def W21V.cells (v : W21V) : Array Value := #[.pointer (some ⟨v.bd, 0, none⟩), .int .i64 v.k, .int .i64 v.p, .int .i64 v.g, .int .i64 v.k, .int .i64 v.p, .int .i64 v.g, .pointer (some ⟨v.bl, 0, none⟩),
 .int .i64 v.m.segments, .int .i64 v.m.sealed, .int .i64 v.m.bytes, .int .i64 v.m.waits, .int .u64 v.m.next, .slice v.Aw v.nw v.cw, .slice v.Ah v.nh v.ch, .slice v.Aa v.na v.ca, .slice v.Ai v.ni v.ci]
def W21At (w : World) (bw : Nat) (v : W21V) : Prop := w.heap[bw]? = some (.cells v.cells 41 (0, 0))
section
variable {w w' : World} {F : Nat → Prop} {bw : Nat} {v : W21V}
theorem W21At.lt (h : W21At w bw v) : bw < w.heap.size := (Array.getElem?_eq_some_iff.1 h).1
theorem W21At.keep (h : W21At w bw v) (hk : Keep F w w') (hb : F bw) : W21At w' bw v := (hk.block bw h.lt hb).trans h
theorem W21At.new (h : W21At w bw v) (hk : New w w') : W21At w' bw v := h.keep hk trivial
theorem W21At.cell (h : W21At w bw v) {k : Nat} {x : Value} (hx : v.cells[k]? = some x) : w.cell? ⟨bw, k, none⟩ = some x := cellOf h hx
theorem W21At.free (h : W21At w bw v) (k : Nat) : w.frozen? ⟨bw, k, none⟩ = false := frozenOf h k
theorem W21At.set (h : W21At w bw v) (k : Nat) (x : Value) {v' : W21V} (hv : v.cells.setIfInBounds k x = v'.cells) : W21At (w.setCell ⟨bw, k, none⟩ x) bw v' := by
 have := setCell_block h k x
 rw [hv] at this
 exact this
theorem keep_cell (w : World) (bw k : Nat) (x : Value) : Keep (fun j => j ≠ bw) w (w.setCell ⟨bw, k, none⟩ x) := (Keep.refl _ w).setCell (p := ⟨bw, k, none⟩) (fun hd => absurd rfl hd) _
end
structure RefL.Small (m : RefL) : Prop where
 segs : 0 ≤ m.segments ∧ m.segments ≤ 1000
 shut : 0 ≤ m.sealed ∧ m.sealed ≤ 1000
 bytes : 0 ≤ m.bytes ∧ m.bytes ≤ 1000
 waits : 0 ≤ m.waits ∧ m.waits ≤ 1000
 next : 0 ≤ m.next ∧ m.next ≤ 1000000000
set_option maxRecDepth 100000 in
theorem rseal_any {w : World} {bw : Nat} {v : W21V} (h : W21At w bw v) (hs : v.m.Small) :
  Calls Tryz.prog 32 #[.pointer (some ⟨bw, 8, none⟩)] w fun e w' => e = .returned (.tuple #[]) ∧ Keep (fun j => j ≠ bw) w w' ∧ W21At w' bw { v with m := v.m.shut } := by
 obtain ⟨s0, s1⟩ := hs.shut
 clear hs
 have c11 : w.cell? ⟨bw, 11, none⟩ = some (.int .i64 v.m.waits) := h.cell rfl
 have HM : Hid (v.m.shut = if 0 < v.m.waits then ⟨v.m.segments, v.m.sealed + 1, 0, 0, v.m.next⟩ else v.m) := Lib.hid rfl
 generalize v.m.shut = ms at *
 by_cases hw : 0 < v.m.waits
 ·have c9 : w.cell? ⟨bw, 9, none⟩ = some (.int .i64 v.m.sealed) := h.cell rfl
  have f9 := h.free 9
  have hwr : IntKind.i64.wrap (v.m.sealed + 1) = v.m.sealed + 1 := IntWalk.i64_in _ (by omega)
  have dw : decide (0 < v.m.waits) = true := decide_eq_true hw
  have h1 : W21At (w.setCell ⟨bw, 9, none⟩ (.int .i64 (v.m.sealed + 1))) bw { v with m := ⟨v.m.segments, v.m.sealed + 1, v.m.bytes, v.m.waits, v.m.next⟩ } := h.set 9 _ rfl
  have h2 : W21At ((w.setCell ⟨bw, 9, none⟩ (.int .i64 (v.m.sealed + 1))).setCell ⟨bw, 10, none⟩ (.int .i64 0)) bw { v with m := ⟨v.m.segments, v.m.sealed + 1, 0, v.m.waits, v.m.next⟩ } := h1.set 10 _ rfl
  have h3 : W21At (((w.setCell ⟨bw, 9, none⟩ (.int .i64 (v.m.sealed + 1))).setCell ⟨bw, 10, none⟩ (.int .i64 0)).setCell ⟨bw, 11, none⟩ (.int .i64 0)) bw { v with m := ⟨v.m.segments, v.m.sealed + 1, 0, 0, v.m.next⟩ } := h2.set 11 _ rfl
  have hk := (keep_cell w bw 9 (.int .i64 (v.m.sealed + 1))).trans ((keep_cell _ bw 10 (.int .i64 0)).trans (keep_cell _ bw 11 (.int .i64 0)))
  have HE := Lib.hid (And.intro hk h3)
  have g10 : (w.setCell ⟨bw, 9, none⟩ (.int .i64 (v.m.sealed + 1))).cell? ⟨bw, 10, none⟩ = some (.int .i64 v.m.bytes) := h1.cell rfl
  have e10 := h1.free 10
  have g11 : ((w.setCell ⟨bw, 9, none⟩ (.int .i64 (v.m.sealed + 1))).setCell ⟨bw, 10, none⟩ (.int .i64 0)).cell? ⟨bw, 11, none⟩ = some (.int .i64 v.m.waits) := h2.cell rfl
  have e11 := h2.free 11
  clear h h1 h2 h3 hk
  go_enter Tryz.func32, Tryz.ntmps32
  go_wp2_with fail
  go_end0
  rw [HM.out, if_pos hw]
  exact ⟨rfl, HE.out.1, HE.out.2⟩
 ·have dw : decide (0 < v.m.waits) = false := decide_eq_false hw
  have HE := Lib.hid h
  clear h
  go_enter Tryz.func32, Tryz.ntmps32
  go_wp2_with fail
  go_end0
  rw [HM.out, if_neg (by omega)]
  exact ⟨rfl, Keep.refl _ _, HE.out⟩
set_option maxRecDepth 100000 in
theorem rappend_any {w : World} {bw : Nat} {v : W21V} (h : W21At w bw v) (hs : v.m.Small) (size : Int) (hz0 : 0 ≤ size) (hz1 : size ≤ 1000) :
  Calls Tryz.prog 28 #[.pointer (some ⟨bw, 8, none⟩), .int .i64 size] w fun e w' => e = .returned (.bool (v.m.append size).1) ∧ Keep (fun j => j ≠ bw) w w' ∧ W21At w' bw { v with m := (v.m.append size).2 } := by
 have hS := hs
 obtain ⟨⟨a0, a1⟩, ⟨b0, b1⟩, ⟨d0, d1⟩, ⟨e0, e1⟩, ⟨n0, n1⟩⟩ := hs
 have c8 : ∀ W, New w W → W.cell? ⟨bw, 8, none⟩ = some (.int .i64 v.m.segments) := fun W hW => (h.new hW).cell rfl
 have c9 : ∀ W, New w W → W.cell? ⟨bw, 9, none⟩ = some (.int .i64 v.m.sealed) := fun W hW => (h.new hW).cell rfl
 have c10 : ∀ W, New w W → W.cell? ⟨bw, 10, none⟩ = some (.int .i64 v.m.bytes) := fun W hW => (h.new hW).cell rfl
 have HH := Lib.hid (And.intro h hS)
 have HA : Hid (v.m.append size = if v.m.segments ≤ v.m.sealed then (false, v.m) else if 942 - v.m.bytes < size then if v.m.segments ≤ v.m.sealed + 1 then (false, v.m) else (true, ⟨v.m.segments, v.m.shut.sealed, v.m.shut.bytes + size, v.m.shut.waits + 1, v.m.next + 1⟩) else (true, ⟨v.m.segments, v.m.sealed, v.m.bytes + size, v.m.waits + 1, v.m.next + 1⟩)) := Lib.hid rfl
 have hw1 : IntKind.i64.wrap (942 - v.m.bytes) = 942 - v.m.bytes := IntWalk.i64_in _ (by omega)
 have hw2 : IntKind.i64.wrap (v.m.sealed + 1) = v.m.sealed + 1 := IntWalk.i64_in _ (by omega)
 clear h hS
 generalize v.m.append size = ap at *
 by_cases q1 : v.m.segments ≤ v.m.sealed
 ·skip
  have y8 := c8 w (New.refl _)
  have y9 := c9 w (New.refl _)
  have y10 := c10 w (New.refl _)
  have t1 : decide (v.m.segments ≤ v.m.sealed) = true := decide_eq_true q1
  go_enter Tryz.func28, Tryz.ntmps28
  go_upto_region 1 with fail
  go_quiet (fail)
  rename_i nq
  have kq : New w (w.drewN nq) := (New.refl w).drewN nq
  generalize w.drewN nq = w1 at *
  clear y8 y9 y10
  have y8 := c8 _ kq
  have y9 := c9 _ kq
  have y10 := c10 _ kq
  go_wp2_with fail
  go_ret
  rw [HA.out, if_pos q1]
  exact ⟨rfl, Keep.of_new kq, HH.out.1.new kq⟩
 have t1 : decide (v.m.segments ≤ v.m.sealed) = false := decide_eq_false q1
 by_cases q2 : 942 - v.m.bytes < size
 ·have t2 : decide (942 - v.m.bytes < size) = true := decide_eq_true q2
  by_cases q3 : v.m.segments ≤ v.m.sealed + 1
  ·have t3 : decide (v.m.segments ≤ v.m.sealed + 1) = true := decide_eq_true q3
   have y8 := c8 w (New.refl _)
   have y9 := c9 w (New.refl _)
   have y10 := c10 w (New.refl _)
   go_enter Tryz.func28, Tryz.ntmps28
   go_upto_region 1 with fail
   go_quiet (fail)
   rename_i nq
   have kq : New w (w.drewN nq) := (New.refl w).drewN nq
   generalize w.drewN nq = w1 at *
   clear y8 y9 y10
   have y8 := c8 _ kq
   have y9 := c9 _ kq
   have y10 := c10 _ kq
   go_upto_region 4 with fail
   go_quiet (fail)
   rename_i nq
   have kq : New w (w1.drewN nq) := (kq).drewN nq
   generalize w1.drewN nq = w2 at *
   go_wp2_with fail
   go_ret
   rw [HA.out, if_neg (by omega), if_pos q2, if_pos q3]
   exact ⟨rfl, Keep.of_new kq, HH.out.1.new kq⟩
  ·have t3 : decide (v.m.segments ≤ v.m.sealed + 1) = false := decide_eq_false q3
   have y8 := c8 w (New.refl _)
   have y9 := c9 w (New.refl _)
   have y10 := c10 w (New.refl _)
   go_enter Tryz.func28, Tryz.ntmps28
   go_upto_region 1 with fail
   go_quiet (fail)
   rename_i nq
   have kq : New w (w.drewN nq) := (New.refl w).drewN nq
   generalize w.drewN nq = w1 at *
   clear y8 y9 y10
   have y8 := c8 _ kq
   have y9 := c9 _ kq
   have y10 := c10 _ kq
   go_upto_region 4 with fail
   go_quiet (fail)
   rename_i nq
   have kq : New w (w1.drewN nq) := (kq).drewN nq
   generalize w1.drewN nq = w2 at *
   have HSL := Lib.hid (rseal_any (HH.out.1.new kq) HH.out.2)
   have hms : v.m.shut.sealed = v.m.shut.sealed ∧ 0 ≤ v.m.shut.bytes ∧ v.m.shut.bytes ≤ 1000 ∧ 0 ≤ v.m.shut.waits ∧ v.m.shut.waits ≤ 1000 ∧ v.m.shut.next = v.m.next ∧ v.m.shut.segments = v.m.segments := by unfold RefL.shut; split <;> refine ⟨rfl, ?_, ?_, ?_, ?_, rfl, rfl⟩ <;> first | assumption | exact Int.le_refl _ | decide | (dsimp only; omega)
   obtain ⟨-, g0, g1, g2, g3, g4, g5⟩ := hms
   have HG := Lib.hid (And.intro g4 g5)
   clear g4 g5 y8 y9 y10 c8 c9 c10
   generalize hms : v.m.shut = ms at *
   clear hms
   go_wp2_with fail
   refine HSL.out.mono ?_
   rintro e w3 ⟨rfl, k3, h3⟩
   have h3 : W21At w3 bw { v with m := ⟨ms.segments, ms.sealed, ms.bytes, ms.waits, v.m.next⟩ } := by rw [← HG.out.1]; exact h3
   have k3 := (Keep.of_new (D := fun j => j ≠ bw) kq).trans k3
   have h3 : W21At w3 bw { v with m := ⟨v.m.segments, ms.sealed, ms.bytes, ms.waits, v.m.next⟩ } := by rw [← HG.out.2]; exact h3
   have u1 : IntKind.i64.wrap (ms.bytes + size) = ms.bytes + size := IntWalk.i64_in _ (by omega)
   have u2 : IntKind.i64.wrap (ms.waits + 1) = ms.waits + 1 := IntWalk.i64_in _ (by omega)
   have u3 : IntKind.u64.wrap (v.m.next + 1) = v.m.next + 1 := by rw [IntKind.wrap_u64]; omega
   have h5 : W21At (w3.setCell ⟨bw, 10, none⟩ (.int .i64 (ms.bytes + size))) bw { v with m := ⟨v.m.segments, ms.sealed, ms.bytes + size, ms.waits, v.m.next⟩ } := h3.set 10 _ rfl
   have h6 : W21At ((w3.setCell ⟨bw, 10, none⟩ (.int .i64 (ms.bytes + size))).setCell ⟨bw, 11, none⟩ (.int .i64 (ms.waits + 1))) bw { v with m := ⟨v.m.segments, ms.sealed, ms.bytes + size, ms.waits + 1, v.m.next⟩ } := h5.set 11 _ rfl
   have h7 : W21At (((w3.setCell ⟨bw, 10, none⟩ (.int .i64 (ms.bytes + size))).setCell ⟨bw, 11, none⟩ (.int .i64 (ms.waits + 1))).setCell ⟨bw, 12, none⟩ (.int .u64 (v.m.next + 1))) bw { v with m := ⟨v.m.segments, ms.sealed, ms.bytes + size, ms.waits + 1, v.m.next + 1⟩ } := h6.set 12 _ rfl
   have hk := k3.trans ((keep_cell w3 bw 10 (.int .i64 (ms.bytes + size))).trans ((keep_cell _ bw 11 (.int .i64 (ms.waits + 1))).trans (keep_cell _ bw 12 (.int .u64 (v.m.next + 1)))))
   have HE := Lib.hid (And.intro hk h7)
   have x10 : w3.cell? ⟨bw, 10, none⟩ = some (.int .i64 ms.bytes) := h3.cell rfl
   have f10 := h3.free 10
   have x11 : (w3.setCell ⟨bw, 10, none⟩ (.int .i64 (ms.bytes + size))).cell? ⟨bw, 11, none⟩ = some (.int .i64 ms.waits) := h5.cell rfl
   have f11 := h5.free 11
   have x12 : ((w3.setCell ⟨bw, 10, none⟩ (.int .i64 (ms.bytes + size))).setCell ⟨bw, 11, none⟩ (.int .i64 (ms.waits + 1))).cell? ⟨bw, 12, none⟩ = some (.int .u64 v.m.next) := h6.cell rfl
   have f12 := h6.free 12
   clear h3 h5 h6 h7 hk
   go_wp2_with fail
   go_ret
   rw [HA.out, if_neg (by omega), if_pos q2, if_neg (by omega)]
   exact ⟨rfl, HE.out.1, HE.out.2⟩
 ·have t2 : decide (942 - v.m.bytes < size) = false := decide_eq_false q2
  have y8 := c8 w (New.refl _)
  have y9 := c9 w (New.refl _)
  have y10 := c10 w (New.refl _)
  go_enter Tryz.func28, Tryz.ntmps28
  go_upto_region 1 with fail
  go_quiet (fail)
  rename_i nq
  have kq : New w (w.drewN nq) := (New.refl w).drewN nq
  generalize w.drewN nq = w1 at *
  clear y8 y9 y10
  have y8 := c8 _ kq
  have y9 := c9 _ kq
  have y10 := c10 _ kq
  have h3 := HH.out.1.new kq
  have k3 := Keep.of_new (D := fun j => j ≠ bw) kq
  clear y8 c8 c9 c10
  have u1 : IntKind.i64.wrap (v.m.bytes + size) = v.m.bytes + size := IntWalk.i64_in _ (by omega)
  have u2 : IntKind.i64.wrap (v.m.waits + 1) = v.m.waits + 1 := IntWalk.i64_in _ (by omega)
  have u3 : IntKind.u64.wrap (v.m.next + 1) = v.m.next + 1 := by rw [IntKind.wrap_u64]; omega
  have h5 : W21At (w1.setCell ⟨bw, 10, none⟩ (.int .i64 (v.m.bytes + size))) bw { v with m := ⟨v.m.segments, v.m.sealed, v.m.bytes + size, v.m.waits, v.m.next⟩ } := h3.set 10 _ rfl
  have h6 : W21At ((w1.setCell ⟨bw, 10, none⟩ (.int .i64 (v.m.bytes + size))).setCell ⟨bw, 11, none⟩ (.int .i64 (v.m.waits + 1))) bw { v with m := ⟨v.m.segments, v.m.sealed, v.m.bytes + size, v.m.waits + 1, v.m.next⟩ } := h5.set 11 _ rfl
  have h7 : W21At (((w1.setCell ⟨bw, 10, none⟩ (.int .i64 (v.m.bytes + size))).setCell ⟨bw, 11, none⟩ (.int .i64 (v.m.waits + 1))).setCell ⟨bw, 12, none⟩ (.int .u64 (v.m.next + 1))) bw { v with m := ⟨v.m.segments, v.m.sealed, v.m.bytes + size, v.m.waits + 1, v.m.next + 1⟩ } := h6.set 12 _ rfl
  have hk := k3.trans ((keep_cell w1 bw 10 (.int .i64 (v.m.bytes + size))).trans ((keep_cell _ bw 11 (.int .i64 (v.m.waits + 1))).trans (keep_cell _ bw 12 (.int .u64 (v.m.next + 1)))))
  have HE := Lib.hid (And.intro hk h7)
  have x10 : w1.cell? ⟨bw, 10, none⟩ = some (.int .i64 v.m.bytes) := h3.cell rfl
  have f10 := h3.free 10
  have x11 : (w1.setCell ⟨bw, 10, none⟩ (.int .i64 (v.m.bytes + size))).cell? ⟨bw, 11, none⟩ = some (.int .i64 v.m.waits) := h5.cell rfl
  have f11 := h5.free 11
  have x12 : ((w1.setCell ⟨bw, 10, none⟩ (.int .i64 (v.m.bytes + size))).setCell ⟨bw, 11, none⟩ (.int .i64 (v.m.waits + 1))).cell? ⟨bw, 12, none⟩ = some (.int .u64 v.m.next) := h6.cell rfl
  have f12 := h6.free 12
  clear h3 h5 h6 h7 hk
  go_wp2_with fail
  go_ret
  rw [HA.out, if_neg (by omega), if_neg (by omega)]
  exact ⟨rfl, HE.out.1, HE.out.2⟩
/-
  PROVED HERE: what law21.id, keep.Cut and law21.body answer; conditions: lengths that a slice may have.
-/
theorem bs_cells21 {w : World} {g : Nat} {t : TypeId} {C : Array Value} (bs : List UInt8) (hC : C.toList = bs.map byteVal) (h : w.heap[g]? = some (.cells C t (0, 0))) : Bs w (fun _ => True) (some ⟨g, 0, none⟩) bs.length bs := by
 refine ⟨by simp, fun _ => ⟨g, 0, rfl, trivial, (Array.getElem?_eq_some_iff.1 h).1, fun k u hu => ?_⟩⟩
 rw [cell_of_row _ _ _ _ _ (0, 0) h]
 rw [← hC] at hu
 simpa using hu
def id21 : List UInt8 := [48, 49, 50, 51, 52, 53, 54, 55, 56, 57, 97, 98, 99, 100, 101, 102]
theorem id21_any (w : World) : Calls Tryz.prog 14 #[] w fun e w' => (∃ A', e = .returned (.slice A' 16 16) ∧ Bs w' (fun b => w.heap.size ≤ b) A' 16 id21) ∧ New w w' := by
 obtain ⟨w0, e0, k0, l0⟩ := conv_mark 16 16 (heap_alloc_new w (.cells #[.int .u8 48, .int .u8 49, .int .u8 50, .int .u8 51, .int .u8 52, .int .u8 53, .int .u8 54, .int .u8 55, .int .u8 56, .int .u8 57, .int .u8 97, .int .u8 98, .int .u8 99, .int .u8 100, .int .u8 101, .int .u8 102] 5))
 have b0 : Bs (w.alloc (.cells #[.int .u8 48, .int .u8 49, .int .u8 50, .int .u8 51, .int .u8 52, .int .u8 53, .int .u8 54, .int .u8 55, .int .u8 56, .int .u8 57, .int .u8 97, .int .u8 98, .int .u8 99, .int .u8 100, .int .u8 101, .int .u8 102] 5)) (fun _ => True) (some ⟨w.heap.size, 0, none⟩) 16 id21 := bs_cells21 id21 (by simp [byteVal, bv, id21]) (heap_alloc_new w (.cells #[.int .u8 48, .int .u8 49, .int .u8 50, .int .u8 51, .int .u8 52, .int .u8 53, .int .u8 54, .int .u8 55, .int .u8 56, .int .u8 57, .int .u8 97, .int .u8 98, .int .u8 99, .int .u8 100, .int .u8 101, .int .u8 102] 5))
 have b1 : Bs w0 (fun b => w.heap.size ≤ b) (some ⟨w.heap.size, 0, none⟩) 16 id21 := by
  obtain ⟨h1, h2⟩ := Row.like b0 l0
  refine ⟨h1, fun hn => ?_⟩
  obtain ⟨b, off, e, _, hl, hc⟩ := h2 hn
  injection e with e
  injection e with e e'
  subst e e'
  exact ⟨_, _, rfl, Nat.le_refl _, hl, hc⟩
 have n00 : New w w0 := (Keep.trans2 (D := fun b => b < w.heap.size) (Keep.of_new ((New.refl w).alloc (.cells #[.int .u8 48, .int .u8 49, .int .u8 50, .int .u8 51, .int .u8 52, .int .u8 53, .int .u8 54, .int .u8 55, .int .u8 56, .int .u8 57, .int .u8 97, .int .u8 98, .int .u8 99, .int .u8 100, .int .u8 101, .int .u8 102] 5))) k0 (fun i _ hi e => by subst e; exact absurd hi (Nat.lt_irrefl _))).toNew (fun i hi => hi)
 clear b0 k0 l0
 go_enter Tryz.func14, Tryz.ntmps14
 go_wp2_with fail
 go_ret
 exact ⟨⟨_, rfl, b1⟩, n00⟩
theorem take_min (bs : List UInt8) (m : Nat) {n : Nat} (hl : bs.length = n) : bs.take (min m n) = bs.take m := by
 rcases Nat.le_total m n with h | h
 ·rw [Nat.min_eq_left h]
 ·rw [Nat.min_eq_right h, List.take_of_length_le (by omega), List.take_of_length_le (by omega)]
set_option maxRecDepth 100000 in
theorem keepcut_any {w : World} {D : Nat → Prop} (A : Option Addr) (n c m : Nat) (bs : List UInt8) (hB : Bs w D A n bs) (hc : n ≤ c) (_hn : n ≤ 9223372036854775807) (hm : m ≤ 1000000) :
  Calls Tryz.prog 48 #[.slice A n c, .int .i64 m] w fun e w' => (∃ c', e = .returned (.slice A (bs.take m).length c') ∧ (bs.take m).length ≤ c' ∧ c' ≤ c ∧ Bs w' D A (bs.take m).length (bs.take m)) ∧ New w w' := by
 have hl := hB.len
 have hlt : (bs.take m).length = min m n := by rw [List.length_take, hl]
 have hB2 : Bs w D A (bs.take m).length (bs.take m) := by rw [hlt]; have := hB.cutTo (hi := min m n) (by omega); rwa [take_min bs m hl] at this
 by_cases h : m < n
 ·have hd : decide ((m : Int) < (n : Int)) = true := decide_eq_true (by omega)
  have hd2 : decide (m < n) = true := decide_eq_true h
  have hmn : min m n = m := by omega
  rw [hmn] at hlt
  have HB := Lib.hid hB2
  have HL := Lib.hid hlt
  clear hB hB2 hlt hl hmn
  go_enter Tryz.func48, Tryz.ntmps48
  go_wp2_with fail
  go_ret
  exact ⟨⟨c, by rw [HL.out]; rfl, by rw [HL.out]; omega, Nat.le_refl _, HB.out⟩, New.refl _⟩
 ·have hd : decide ((m : Int) < (n : Int)) = false := decide_eq_false (by omega)
  have hd2 : decide (m < n) = false := decide_eq_false h
  have hmn : min m n = n := by omega
  rw [hmn] at hlt
  have HB := Lib.hid hB2
  have HL := Lib.hid hlt
  clear hB hB2 hlt hl hmn
  go_enter Tryz.func48, Tryz.ntmps48
  go_wp2_with fail
  go_ret
  exact ⟨⟨c, by rw [HL.out]; rfl, by rw [HL.out]; exact hc, Nat.le_refl _, HB.out⟩, New.refl _⟩
set_option maxRecDepth 100000 in
theorem body21_any {w : World} {D : Nat → Prop} (ki by' : Int) (mk : Bool) (A : Option Addr) (n c : Nat) (bs : List UInt8) (hB : Bs w D A n bs) (hc : n ≤ c) (hn : c ≤ 9223372036854775807) :
  Calls Tryz.prog 26 #[.agg #[.int .i64 ki, .int .i64 by', .bool mk, .slice A n c]] w fun e w' => (∃ c', e = .returned (.slice A (bs.take 300).length c') ∧ (bs.take 300).length ≤ c' ∧ c' ≤ c ∧ Bs w' D A (bs.take 300).length (bs.take 300)) ∧ New w w' := by
 have k1 := (New.refl w).alloc (.cells #[.int .i64 ki, .int .i64 by', .bool mk, .slice A n c] 27)
 have c3 := cellOf (heap_alloc_new w (.cells #[.int .i64 ki, .int .i64 by', .bool mk, .slice A n c] 27)) (k := 3) rfl
 obtain ⟨nb, hnb⟩ : ∃ nb, nb = (bs.take 300).length := ⟨_, rfl⟩
 have hC := fun W (hW : New w W) => keepcut_any A n c 300 bs (hB.new hW) hc (by omega) (by decide)
 rw [← hnb] at hC ⊢
 have HC := Lib.hid hC
 clear hC hnb
 have HK := Lib.hid k1
 clear hB k1
 go_enter Tryz.func26, Tryz.ntmps26
 go_wp2_with fail
 refine (HC.out _ HK.out).mono ?_
 rintro e w2 ⟨⟨c', rfl, h1, h2, h3⟩, k2⟩
 go_wp2_with fail
 go_ret
 exact ⟨⟨c', rfl, h1, h2, h3⟩, HK.out.new k2⟩
end Go.Proofs.YtajnkbfcnmajoaaGreatDoor
