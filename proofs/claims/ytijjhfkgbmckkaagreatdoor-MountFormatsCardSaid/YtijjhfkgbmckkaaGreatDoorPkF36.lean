/-
  PROVED HERE: texts that belong together, one behind the other; what each proves, and under which conditions, its own opening remark says: LogMem, Log, LogLaw, LogLaw2, LogSeal, LogOpenD, Image21, Shelf22, Ord22, MapIs22, Tree22, Keys22.
-/
import Derived.Shelf.SlIterI.Nil
import Derived.Shelf.SlIter.Nil
import Derived.Shelf.SortM.Plain
import Derived.Shelf.SortM.SortNone
import Derived.Shelf.SlMaps.Clone
import Derived.Shelf.SlMaps.DeleteFunc
import Derived.Maps.Keyed
import Derived.StringKeys
import Derived.Sort.KeysCollected
import Derived.Lib.SlKeysI
import Derived.Test.YtijjhfkgbmckkaaGreatDoorPkF29
import Derived.Test.YtijjhfkgbmckkaaGreatDoorPkF35
/-
  PROVED HERE: plain lemmas on a log in memory: its struct, its head, its row of records that wait; no program is in sight but for numbers of types.
-/
namespace Go.Proofs.YtijjhfkgbmckkaaGreatDoor
open Go.RowKit
/-! ### a disk of which nothing is unsafe -/
def DiskOf (q : DiskB) : Nat → Prop := fun b => b ≠ q.bd ∧ b ≠ q.bs ∧ b ≠ q.bm
def Clean (w : World) (q : DiskB) (S : List UInt8) : Prop := ∃ wr, DiskAt w (DiskOf q) q S Dirt.no 0 wr
theorem diskOf_not {q : DiskB} {b : Nat} (h : b = q.bd ∨ b = q.bs ∨ b = q.bm) : ¬ DiskOf q b := fun hd => by
 rcases h with rfl | rfl | rfl
 ·exact hd.1 rfl
 ·exact hd.2.1 rfl
 ·exact hd.2.2 rfl
section
variable {w w' : World} {F : Nat → Prop} {q : DiskB} {S : List UInt8}
theorem Clean.keep (h : Clean w q S) (hk : Keep F w w') (hq : ∀ b, b = q.bd ∨ b = q.bs ∨ b = q.bm → F b) : Clean w' q S := by
 obtain ⟨wr, h⟩ := h
 exact ⟨wr, ((h.swap (F := fun _ => False) (fun _ _ h => h)).keep hk hq (fun _ _ h => h.elim)).swap fun b hb => diskOf_not hb⟩
theorem Clean.new (h : Clean w q S) (hk : New w w') : Clean w' q S := h.keep hk fun _ _ => trivial
theorem Clean.of {D : Nat → Prop} {wr : Int} (h : DiskAt w D q S Dirt.no 0 wr) : Clean w q S := ⟨wr, h.swap fun _b hb => diskOf_not hb⟩
theorem Clean.lt (h : Clean w q S) : ∀ b, b = q.bd ∨ b = q.bs ∨ b = q.bm → b < w.heap.size := by obtain ⟨wr, h⟩ := h; exact h.lt
theorem Clean.beyond (h : Clean w q S) : ∀ b, w.heap.size ≤ b → DiskOf q b := fun b hb => by
 have h1 := h.lt q.bd (.inl rfl)
 have h2 := h.lt q.bs (.inr (.inl rfl))
 have h3 := h.lt q.bm (.inr (.inr rfl))
 exact ⟨by omega, by omega, by omega⟩
theorem Clean.size (h : Clean w q S) : ∃ k, S.length = k * 128 ∧ 64 ≤ k ∧ k ≤ 4096 := by obtain ⟨wr, h⟩ := h; exact h.size
end
def placeAt (p i : Nat) : Nat := (1 + 2 * p + i * 8) * 128
def placeOf (S : List UInt8) (p i : Nat) : List UInt8 := (S.drop (placeAt p i)).take 1024
theorem sector_no (S : List UInt8) (i : Nat) : sectorOf S Dirt.no i = (S.drop (i * 128)).take 128 := rfl
theorem take_sector (S : List UInt8) (f j : Nat) : (S.drop (f * 128)).take (j * 128) ++ sectorOf S Dirt.no (f + j) = (S.drop (f * 128)).take ((j + 1) * 128) := by
 rw [sector_no, show (j + 1) * 128 = j * 128 + 128 from by omega, List.take_add, List.drop_drop, show f * 128 + j * 128 = (f + j) * 128 from by omega]
/-! ### the log -/
structure LogV where
 s : Nat
 p : Nat
 g : Nat
 sealed : Nat
 next : Int
 head : List UInt8
 waits : List RecP
structure LogAt (w : World) (D : Nat → Prop) (base bl bd : Nat) (v : LogV) (A : Option Addr) (c : Nat) : Prop where
 cells : ∃ H hc, w.heap[bl]? = some (.cells #[.pointer (some ⟨bd, 0, none⟩), .int .i64 v.s, .int .i64 v.p, .int .i64 v.g, .int .i64 v.sealed, .slice H 32 hc, .int .u64 v.next, .slice A v.waits.length c] 127 (0, 0)) ∧ 32 ≤ hc ∧ Bs w (fun b => D b ∧ some b ≠ blk A) H 32 v.head
 waits : OwnSl 66 recElt w base D A v.waits.length c v.waits
 next0 : 0 ≤ v.next
 next1 : v.next ≤ 1099511627776 + 65536 * (v.sealed : Int)
 few : v.waits.length ≤ 100 ∧ v.sealed ≤ v.g ∧ v.g ≤ 1000
 out : ¬ D bl
 apart : blk A ≠ some bl
section
variable {w w' : World} {D F : Nat → Prop} {base bl bd : Nat} {v : LogV} {A : Option Addr} {c : Nat}
theorem LogAt.keep (h : LogAt w D base bl bd v A c) (hk : Keep F w w') (hl : F bl) (hA : ∀ k, blk A = some k → F k) (hD : ∀ b, D b → F b) : LogAt w' D base bl bd v A c := by
 obtain ⟨H, hc, h1, h2, h3⟩ := h.cells
 exact ⟨⟨H, hc, (hk.block bl (Array.getElem?_eq_some_iff.1 h1).1 hl).trans h1, h2, h3.keep hk fun b _ hb => hD b hb.1⟩, h.waits.keepE hk hA hD, h.next0, h.next1, h.few, h.out, h.apart⟩
theorem LogAt.new (h : LogAt w D base bl bd v A c) (hk : New w w') : LogAt w' D base bl bd v A c := h.keep hk trivial (fun _ _ => trivial) (fun _ _ => trivial)
theorem LogAt.lt (h : LogAt w D base bl bd v A c) : bl < w.heap.size := by obtain ⟨H, hc, h1, _⟩ := h.cells; exact (Array.getElem?_eq_some_iff.1 h1).1
theorem LogAt.rowLt (h : LogAt w D base bl bd v A c) : ∀ k, blk A = some k → base ≤ k ∧ k < w.heap.size := h.waits.lt
theorem LogAt.imp (h : LogAt w D base bl bd v A c) (hF : ∀ b, b < w.heap.size → D b → F b) (hl : ¬ F bl) : LogAt w F base bl bd v A c := by
 obtain ⟨H, hc, h1, h2, h3⟩ := h.cells
 obtain ⟨vs, r1, r2, r3⟩ := h.waits
 exact ⟨⟨H, hc, h1, h2, h3.imp fun b hb hd => ⟨hF b hb hd.1, hd.2⟩⟩, ⟨vs, r1, r2, fun k hk => recElt.imp (r3 k hk) fun b hb hd => ⟨hF b hb hd.1, hd.2⟩⟩, h.next0, h.next1, h.few, hl, h.apart⟩
end
/-
  PROVED HERE: what log.Next, Sealed, Head, Pending, Room, did and Place answer; conditions: the log is as LogAt says, nothing on its disk is unsafe.
-/
section
variable {w : World} {D : Nat → Prop} {base bl bd : Nat} {v : LogV} {A : Option Addr} {c : Nat}
set_option maxRecDepth 100000 in
theorem sealed21_any (h : LogAt w D base bl bd v A c) : Calls Tryz.prog 86 #[.pointer (some ⟨bl, 0, none⟩)] w fun e w' => e = .returned (.int .i64 v.sealed) ∧ New w w' := by
 obtain ⟨H, hc, hb, _⟩ := h.cells
 have c4 : w.cell? ⟨bl, 4, none⟩ = some (.int .i64 v.sealed) := cellOf hb rfl
 clear h hb
 go_enter Tryz.func86, Tryz.ntmps86
 go_wp2_with fail
 go_ret
 exact ⟨rfl, New.refl _⟩
set_option maxRecDepth 100000 in
theorem head21_any (h : LogAt w D base bl bd v A c) : Calls Tryz.prog 35 #[.pointer (some ⟨bl, 0, none⟩)] w fun e w' => (∃ A' c', e = .returned (.slice A' 32 c') ∧ OwnB w' w.heap.size 5 A' 32 c' v.head) ∧ New w w' := by
 obtain ⟨H, hc, hb, _, hB⟩ := h.cells
 have c5 : w.cell? ⟨bl, 5, none⟩ = some (.slice H 32 hc) := cellOf hb rfl
 have HC := Lib.hid (clone_bytes _ H 32 hc v.head w hB (by decide))
 clear h hb hB
 go_enter Tryz.func35, Tryz.ntmps35
 go_wp2_with fail
 refine HC.out.mono ?_
 rintro e w' ⟨⟨A', c', rfl, ho⟩, hk⟩
 go_wp2_with fail
 go_ret
 exact ⟨⟨A', c', rfl, ho⟩, hk⟩
set_option maxRecDepth 100000 in
theorem did_any (h : LogAt w D base bl bd v A c) (hd : HeadP) (P R : Option Addr) (pc rc : Nat) {D2 D3 : Nat → Prop} (hP : Bs w D2 P hd.prev.length hd.prev) (hpc : hd.prev.length ≤ pc) (hR : Bs w D3 R hd.root.length hd.root) (hrc : hd.root.length ≤ rc)
  (hD2 : ∀ b, D2 b → b ≠ bl) (hD3 : ∀ b, D3 b → b ≠ bl) (hf0 : hd.first = v.next) (hc0 : 0 ≤ hd.count) (hc1 : hd.count ≤ 65535) (hs : v.sealed < v.g) :
  Calls Tryz.prog 81 #[.pointer (some ⟨bl, 0, none⟩), .agg #[.int .i64 hd.index, .int .u64 hd.first, .int .i64 hd.count, .int .i64 hd.bytes, .slice P hd.prev.length pc, .slice R hd.root.length rc]] w fun e w' =>
   e = .returned (.tuple #[]) ∧ Keep (fun j => j ≠ bl) w w' ∧ LogAt w' (fun b => D b ∨ w.heap.size ≤ b) base bl bd ⟨v.s, v.p, v.g, v.sealed + 1, hd.first + hd.count, sealOf hd, v.waits⟩ A c := by
 have HH := Lib.hid h
 obtain ⟨H, hc, hb, h32, hB⟩ := h.cells
 have hnx0 := h.next0
 have hnx1 := h.next1
 obtain ⟨_, hfe1, hfe2⟩ := h.few
 have hblt := h.lt
 have hw1 : IntKind.i64.wrap ((v.sealed : Int) + 1) = (v.sealed : Int) + 1 := IntWalk.i64_in _ (by omega)
 have hw2 : IntKind.u64.wrap hd.count = hd.count := by rw [IntKind.wrap_u64]; omega
 have hw3 : IntKind.u64.wrap (hd.first + hd.count) = hd.first + hd.count := by rw [IntKind.wrap_u64]; omega
 have HSE := fun W (hW : Keep (fun j => j ≠ bl) w W) => Lib.hid (seal_any D2 D3 P R _ pc _ rc hd W (hP.keep hW fun b _ hb => hD2 b hb) hpc (hR.keep hW fun b _ hb => hD3 b hb) hrc (by omega) (by omega))
 obtain ⟨n, hn⟩ : ∃ n, n = v.waits.length := ⟨_, rfl⟩
 rw [← hn] at hb
 replace hn := Lib.hid hn
 have k1 : New w (w.alloc (.cells #[.int .i64 hd.index, .int .u64 hd.first, .int .i64 hd.count, .int .i64 hd.bytes, .slice P hd.prev.length pc, .slice R hd.root.length rc] 139)) := (New.refl w).alloc _
 have x1 := heap_alloc_new w (.cells #[.int .i64 hd.index, .int .u64 hd.first, .int .i64 hd.count, .int .i64 hd.bytes, .slice P hd.prev.length pc, .slice R hd.root.length rc] 139)
 have hb1 := k1.blockAt hb trivial
 replace hf0 := Lib.hid hf0
 have hfl : hd.first ≤ 1099511627776 + 65536 * (v.sealed : Int) := by have := hf0.out; omega
 have hfg : 0 ≤ hd.first := by have := hf0.out; omega
 clear h hP hR hB hD2 hD3
 go_enter Tryz.func81, Tryz.ntmps81
 go_upto_region 1 with fail
 generalize w.alloc (.cells #[.int .i64 hd.index, .int .u64 hd.first, .int .i64 hd.count, .int .i64 hd.bytes, .slice P hd.prev.length pc, .slice R hd.root.length rc] 139) = w1 at *
 have c4 : w1.cell? ⟨bl, 4, none⟩ = some (.int .i64 v.sealed) := cellOf hb1 rfl
 have f4 := frozenOf hb1 4
 go_upto_region 2 with fail
 have hb2 := setCell_block hb1 4 (.int .i64 ((v.sealed : Int) + 1))
 have q2 : Keep (fun j => j ≠ bl) w1 (w1.setCell ⟨bl, 4, none⟩ (.int .i64 ((v.sealed : Int) + 1))) := (Keep.refl _ w1).setCell (p := ⟨bl, 4, none⟩) (fun hd => absurd rfl hd) _
 have hgb : w.heap.size ≠ bl := by omega
 have x2 := q2.blockAt x1 hgb
 have q2 : Keep (fun j => j ≠ bl) w _ := (Keep.of_new k1).trans q2
 clear c4 f4 hb1 x1 k1
 generalize w1.setCell ⟨bl, 4, none⟩ (.int .i64 ((v.sealed : Int) + 1)) = w2 at *
 generalize hgz : w.heap.size = gb at *
 obtain ⟨y0, y1, y2, y3, y4, y5⟩ := cs6 x2
 go_wp2_with fail
 refine (HSE w2 q2).out.mono ?_
 rintro e w3 ⟨⟨A', c', rfl, o3⟩, k3⟩
 clear y0 y1 y2 y3 y4 y5 HSE
 have hb3 := k3.blockAt hb2 trivial
 have x3 := k3.blockAt x2 trivial
 have f5 := frozenOf hb3 5
 have c5 := cellOf hb3 (k := 5) rfl
 go_upto_region 3 with fail
 have hb4 := setCell_block hb3 5 (.slice A' 32 c')
 have q4 : Keep (fun j => j ≠ bl) w3 (w3.setCell ⟨bl, 5, none⟩ (.slice A' 32 c')) := (Keep.refl _ w3).setCell (p := ⟨bl, 5, none⟩) (fun hd => absurd rfl hd) _
 have x4 := q4.blockAt x3 hgb
 have hz2 : gb < w2.heap.size := (Array.getElem?_eq_some_iff.1 x2).1
 have hb4' : Bs _ (fun b => w2.heap.size ≤ b) A' 32 (sealOf hd) := (Row.of_own o3).keep q4 (fun b _ hb => by omega)
 have hc32 := own_cap o3
 have q4 := (q2.new k3).trans q4
 clear f5 c5 hb3 x3 x2 hb2 q2 k3 o3
 generalize w3.setCell ⟨bl, 5, none⟩ (.slice A' 32 c') = w4 at *
 have y1 := cellOf x4 (k := 1) rfl
 have y2 := cellOf x4 (k := 2) rfl
 have f6 := frozenOf hb4 6
 have c6 := cellOf hb4 (k := 6) rfl
 go_wp2_with fail
 go_end0
 have hb6 := setCell_block hb4 6 (.int .u64 (hd.first + hd.count))
 have q6 : Keep (fun j => j ≠ bl) w4 (w4.setCell ⟨bl, 6, none⟩ (.int .u64 (hd.first + hd.count))) := (Keep.refl _ w4).setCell (p := ⟨bl, 6, none⟩) (fun hd => absurd rfl hd) _
 have q7 := q4.trans q6
 have h := HH.out
 have hlo := h.rowLt
 refine ⟨rfl, q7, ⟨A', c', ?_, hc32, ?_⟩, ?_, ?_, ?_, ?_, ?_, h.apart⟩
 ·rw [hn.out] at hb6
  exact hb6
 ·exact (hb4'.keep q6 (fun b _ hb => by omega)).imp fun b _ hb => ⟨.inr (by omega), fun e => by have := (hlo b e.symm).2; omega⟩
 ·exact (h.waits.keepE q7 (fun k hk e => h.apart (by rw [hk, e])) (fun b hb e => h.out (e ▸ hb))).imp fun b _ hb => .inl hb
 ·dsimp only; omega
 ·dsimp only; omega
 ·exact ⟨h.few.1, hs, h.few.2.2⟩
 ·exact fun hd => hd.elim h.out (fun h => by omega)
end
set_option maxRecDepth 100000 in
theorem place_any {w : World} {q : DiskB} {S : List UInt8} {k p g i : Nat} (h : Clean w q S) (hk : S.length = k * 128) (hp : planRight k p g = true) (hi : i < g) :
  Calls Tryz.prog 175 #[.pointer (some ⟨q.bd, 0, none⟩), .agg #[.int .i64 k, .int .i64 p, .int .i64 g], .int .i64 i] w fun e w' => (∃ A' c', e = .returned (.slice A' 1024 c') ∧ OwnB w' w.heap.size 5 A' 1024 c' (placeOf S p i)) ∧ New w w' := by
 have hfit := layPlan hp hi
 have HSG := fun W => Lib.hid (segment21_any k p g i (by omega) W)
 rw [laySeg hp hi] at HSG
 dsimp only at HSG
 have HO : Hid (placeOf S p i = (S.drop ((1 + 2 * p + i * 8) * 128)).take (8 * 128)) := Lib.hid rfl
 generalize placeOf S p i = out at *
 generalize hfe : 1 + 2 * p + i * 8 = f at *
 clear hfe hp hi
 obtain ⟨wr0, hd⟩ := h
 have HD := fun W (hW : New w W) (j : Nat) (hj : j < 8) => Lib.hid (dread_any (hd.new hW) hk (f + j) (by omega))
 have kA : New w (w.alloc (.cells #[.int .i64 k, .int .i64 p, .int .i64 g] 57)) := (New.refl w).alloc _
 obtain ⟨x0, x1, x2⟩ := cs3 (heap_alloc_new w (.cells #[.int .i64 k, .int .i64 p, .int .i64 g] 57))
 clear hd hk
 go_enter Tryz.func175, Tryz.ntmps175
 go_wp2_with fail
 refine (HSG _).out.mono ?_
 rintro e w1 ⟨rfl, k1⟩
 have K1 := kA.new k1
 clear x0 x1 x2 kA k1 HSG
 go_wp2_with fail
 go_loopw [9, 10] (fun o i wx => ∃ (j m : Nat) (A' : Option Addr) (c' : Nat), j ≤ 8 ∧ m = j * 128 ∧ o = .slice A' m c' ∧ i = .int .i64 (j : Int) ∧ OwnB wx w.heap.size 5 A' m c' ((S.drop (f * 128)).take (j * 128)) ∧ New w wx) (fun _ i _ => 8 - (intOf i).toNat)
 case atStart => exact ⟨0, 0, none, 0, Nat.zero_le _, rfl, rfl, rfl, Own.nil _ _ _ _, K1⟩
 case round =>
  obtain ⟨j, m, A', c', hj8, hm, rfl, rfl, ho, hK⟩ := hrel
  have HOW := Lib.hid ho
  have HK := Lib.hid hK
  have HM := Lib.hid hm
  clear ho hK hm
  by_cases hlt : j < 8
  ·have hjl : (j : Int) < 8 := by omega
   have HR := HD wr HK.out j hlt
   have hw : IntKind.i64.wrap ((f : Int) + (j : Int)) = (f : Int) + (j : Int) := IntWalk.i64_in _ (by omega)
   have hw2 : IntKind.i64.wrap ((j : Int) + 1) = (j : Int) + 1 := IntWalk.i64_in _ (by omega)
   go_wp2_with fail
   refine HR.out.mono ?_
   rintro e w2 ⟨⟨A2, c2, rfl, o2⟩, k2⟩
   have ho := own_keep HOW.out k2 (fun _ _ => trivial)
   have hr := Row.of_own o2
   have hb : m + 128 ≤ 140737488355328 := by have := HM.out; omega
   have hz : w.heap.size ≤ w2.heap.size := (HK.out.new k2).size
   clear o2
   go_wp2_with (at_builtin; refine app_bytes _ rfl _ _ rfl w.heap.size A' m c' _ rfl ho _ A2 128 c2 _ rfl hr hb hz ?_; intro A4 c4 w4 o4 hg4 hbk4)
   rw [take_sector] at o4
   go_roundw
   case rel => exact ⟨j + 1, m + 128, A4, c4, by omega, by have := HM.out; omega, by go_num, by go_num, o4, (HK.out.new k2).grown hg4 (fun b hb _ => (own_lt ho b hb).1)⟩
   case measure => simp [intOf]; omega
  ·obtain rfl : j = 8 := by omega
   obtain rfl : m = 1024 := HM.out
   go_wp2_with fail
   go_ret
   rw [HO.out]
   exact ⟨⟨A', c', rfl, HOW.out⟩, HK.out⟩
/-
  PROVED HERE: plain law on a log: what its segments are, what is read of them, how a record is taken; no program is in sight.
-/
/-! ### the segments of a log -/
def logStep (s : ChainS) (rs : List RecP) : ChainS :=
 ⟨s.images ++ [segBytes s.heads.length s.next s.prev rs], s.heads ++ [chainHead s.heads.length s.next s.prev rs], s.recs ++ rs, sealOf (chainHead s.heads.length s.next s.prev rs), s.next + rs.length⟩
def logOf (id : List UInt8) (l : List (List RecP)) : ChainS := l.foldl logStep ⟨[], [], [], genesisOf id, 1⟩
theorem logOf_snoc (id : List UInt8) (l : List (List RecP)) (rs : List RecP) : logOf id (l ++ [rs]) = logStep (logOf id l) rs := by simp [logOf, List.foldl_append]
structure LogFine (id : List UInt8) (l : List (List RecP)) : Prop where
 few : l.length ≤ 1000
 fine : ∀ k (h : k < l.length), SegFine k (logOf id (l.take k)).next (logOf id (l.take k)).prev l[k]
theorem LogFine.nil (id : List UInt8) : LogFine id [] := ⟨by simp, fun k h => absurd h (Nat.not_lt_zero k)⟩
theorem LogFine.take {id : List UInt8} {l : List (List RecP)} (h : LogFine id l) (n : Nat) : LogFine id (l.take n) := by
 refine ⟨by rw [List.length_take]; have := h.few; omega, fun k hk => ?_⟩
 have hk' : k < l.length ∧ k < n := by rw [List.length_take] at hk; omega
 rw [List.take_take, List.getElem_take, Nat.min_eq_left (by omega)]
 exact h.fine k hk'.1
theorem LogFine.snoc {id : List UInt8} {l : List (List RecP)} {rs : List RecP} (h : LogFine id l) (hf : SegFine l.length (logOf id l).next (logOf id l).prev rs) (hl : l.length < 1000) : LogFine id (l ++ [rs]) := by
 refine ⟨by rw [List.length_append, List.length_singleton]; omega, fun k hk => ?_⟩
 rw [List.length_append, List.length_singleton] at hk
 by_cases e : k < l.length
 ·rw [List.take_append_of_le_length (by omega), List.getElem_append_left e]; exact h.fine k e
 ·obtain rfl : k = l.length := by omega
  rw [List.take_left', List.getElem_append_right (Nat.le_refl _)]
  ·simpa using hf
  ·rfl
structure LogOK (id : List UInt8) (l : List (List RecP)) (s : ChainS) : Prop where
 images : s.images.length = l.length
 heads : s.heads.length = l.length
 sizes : ∀ b ∈ s.images, b.length = 1024
 prev : s.prev.length = 32
 next : s.next = 1 + (s.recs.length : Int)
 recs : s.recs = l.flatten
 last : s.prev = headSeal id s.heads
 seqs : ∀ j (h : j < s.recs.length), s.recs[j].seq = 1 + (j : Int)
 image : ∀ k (h : k < l.length), s.images[k]? = some (segBytes k (logOf id (l.take k)).next (logOf id (l.take k)).prev l[k])
 head : ∀ k (h : k < l.length), s.heads[k]? = some (chainHead k (logOf id (l.take k)).next (logOf id (l.take k)).prev l[k])
 takes : ∀ k, k ≤ l.length → s.heads.take k = (logOf id (l.take k)).heads
theorem log_ok (id : List UInt8) : ∀ (n : Nat) (l : List (List RecP)), l.length = n → LogFine id l → LogOK id l (logOf id l)
 | 0, l, hn, _ => by
  obtain rfl := List.eq_nil_of_length_eq_zero hn
  exact ⟨rfl, rfl, by simp [logOf], genesisOf_length id, rfl, rfl, rfl, fun j h => absurd h (Nat.not_lt_zero j), fun k h => absurd h (Nat.not_lt_zero k), fun k h => absurd h (Nat.not_lt_zero k), fun k hk => by (have : k = 0 := by simpa using hk); subst this; rfl⟩
 | n + 1, l, hn, hf => by
  obtain ⟨m, x, rfl⟩ : ∃ m x, l = m ++ [x] := ⟨l.dropLast, l.getLast (by rintro rfl; simp at hn), (List.dropLast_concat_getLast _).symm⟩
  have hm : m.length = n := by simpa using hn
  have hfm : LogFine id m := by have := hf.take m.length; rwa [List.take_left' rfl] at this
  have h := log_ok id n m hm hfm
  have hx := hf.fine m.length (by simp)
  rw [List.take_left' rfl, List.getElem_append_right (Nat.le_refl _)] at hx
  simp only [Nat.sub_self, List.getElem_cons_zero] at hx
  have hi := h.images
  have hh := h.heads
  rw [logOf_snoc]
  refine ⟨?_, ?_, ?_, sealOf_length _, ?_, ?_, ?_, ?_, ?_, ?_, ?_⟩
  ·simp [logStep, hi]
  ·simp [logStep, hh]
  ·intro b hb
   rcases List.mem_append.1 hb with hb | hb
   ·exact h.sizes b hb
   ·rw [List.mem_singleton] at hb
    subst hb
    exact segBytes_length _ _ _ _ h.prev hx.room
  ·have := h.next
   simp only [logStep, List.length_append]
   omega
  ·simp [logStep, h.recs]
  ·simp [logStep, headSeal]
  ·intro j hj
   have key : ∀ (hj' : j < ((logOf id m).recs ++ x).length), ((logOf id m).recs ++ x)[j].seq = 1 + (j : Int) := fun hj' => by
    have hj2 := hj'
    rw [List.length_append] at hj2
    by_cases e : j < (logOf id m).recs.length
    ·rw [List.getElem_append_left e]; exact h.seqs j e
    ·rw [List.getElem_append_right (by omega), hx.seqs, h.next]
     omega
   exact key hj
  ·intro k hk
   rw [List.length_append, List.length_singleton] at hk
   by_cases e : k < m.length
   ·rw [List.take_append_of_le_length (by omega), List.getElem_append_left e]
    show ((logOf id m).images ++ _)[k]? = _
    rw [List.getElem?_append_left (by omega)]; exact h.image k e
   ·obtain rfl : k = m.length := by omega
    rw [List.take_left' rfl, List.getElem_append_right (Nat.le_refl _)]
    show ((logOf id m).images ++ _)[m.length]? = _
    rw [List.getElem?_append_right (by omega), hi, hh]
    simp
  ·intro k hk
   rw [List.length_append, List.length_singleton] at hk
   by_cases e : k < m.length
   ·rw [List.take_append_of_le_length (by omega), List.getElem_append_left e]
    show ((logOf id m).heads ++ _)[k]? = _
    rw [List.getElem?_append_left (by omega)]; exact h.head k e
   ·obtain rfl : k = m.length := by omega
    rw [List.take_left' rfl, List.getElem_append_right (Nat.le_refl _)]
    show ((logOf id m).heads ++ _)[m.length]? = _
    rw [List.getElem?_append_right (by omega), hh]
    simp
  ·intro k hk
   rw [List.length_append, List.length_singleton] at hk
   by_cases e : k ≤ m.length
   ·rw [List.take_append_of_le_length e]
    show ((logOf id m).heads ++ _).take k = _
    rw [List.take_append_of_le_length (by omega)]; exact h.takes k e
   ·obtain rfl : k = m.length + 1 := by omega
    have e1 : (m ++ [x]).take (m.length + 1) = m ++ [x] := List.take_of_length_le (by simp)
    rw [e1, logOf_snoc]
    refine List.take_of_length_le ?_
    show ((logOf id m).heads ++ [_]).length ≤ _
    rw [List.length_append, hh]; exact Nat.le_refl _
theorem LogFine.ok {id : List UInt8} {l : List (List RecP)} (h : LogFine id l) : LogOK id l (logOf id l) := log_ok id _ l rfl h
theorem LogFine.read {id : List UInt8} {l : List (List RecP)} (h : LogFine id l) {k : Nat} (hk : k < l.length) : segRead ((logOf id l).images.getD k []) = ((logOf id l).heads.getD k noHead, l[k], 0) := by
 rw [List.getD_eq_getElem?_getD, List.getD_eq_getElem?_getD, h.ok.image k hk, h.ok.head k hk]
 exact (h.fine k hk).read
theorem LogFine.shut {id : List UInt8} {l : List (List RecP)} (h : LogFine id l) {k : Nat} (hk : k < l.length) : sealOf ((logOf id l).heads.getD k noHead) = (logOf id (l.take (k + 1))).prev := by
 have hs : l.take (k + 1) = l.take k ++ [l[k]] := by rw [List.take_add_one, List.getElem?_eq_getElem hk]; rfl
 have ht : (logOf id (l.take k)).heads.length = k := by rw [(h.take k).ok.heads, List.length_take]; omega
 rw [hs, logOf_snoc, List.getD_eq_getElem?_getD, h.ok.head k hk]
 simp [logStep, ht]
/-! ### noughts, and rubbish, are no segment -/
theorem no_nought (b : List UInt8) (h : b.take 16 = List.replicate 16 0) : (segRead b).2.2 ≠ 0 := by
 unfold segRead
 split
 ·decide
 rename_i hl
 split
 ·simp
 have hh : (headOf b).count = 0 := by
  have e : b = List.replicate 16 0 ++ b.drop 16 := by rw [← h, List.take_append_drop]
  rw [e]
  rfl
 rw [if_pos (.inl hh)]
 simp
/-! ### a log that is open -/
structure LogS where
 segs : List (List RecP)
 waits : List RecP
def waitBytes (rs : List RecP) : Nat := (leavesOf rs).flatten.length
structure LogSt (id : List UInt8) (n : Nat) (s : LogS) : Prop where
 fine : LogFine id s.segs
 room : s.segs.length ≤ n
 few : n ≤ 512
 right : ∀ r ∈ s.waits, recRight r = true ∧ 0 ≤ r.seq
 seqs : ∀ k (h : k < s.waits.length), s.waits[k].seq = (logOf id s.segs).next + (k : Int)
 bytes : waitBytes s.waits ≤ 942
 free : s.waits.length ≠ 0 → s.segs.length < n
 time : (logOf id s.segs).next + (s.waits.length : Int) ≤ 1000000
theorem wait_many : ∀ {rs : List RecP}, (∀ r ∈ rs, recRight r = true ∧ 0 ≤ r.seq) → 15 * rs.length ≤ waitBytes rs
 | [], _ => Nat.zero_le _
 | r :: rs, h => by
  have h1 := (h r (by simp)).1
  have := wait_many (rs := rs) fun x hx => h x (by simp [hx])
  unfold waitBytes at *
  rw [leavesOf_cons h1, List.flatten_cons, List.length_append, recEnc_len h1, List.length_cons]
  omega
theorem waitBytes_snoc (rs : List RecP) {r : RecP} (h : recRight r = true) : waitBytes (rs ++ [r]) = waitBytes rs + recSize r := by
 unfold waitBytes leavesOf
 rw [List.map_append, List.flatten_append, List.length_append]
 simp [h, recEnc_size r h]
theorem LogSt.seg {id : List UInt8} {n : Nat} {s : LogS} (h : LogSt id n s) (hw : s.waits.length ≠ 0) : SegFine s.segs.length (logOf id s.segs).next (logOf id s.segs).prev s.waits := by
 have ho := h.fine.ok
 have hn := ho.next
 have ht := h.time
 have hr := h.room
 have hf := h.few
 have hm := wait_many h.right
 have hb := h.bytes
 exact ⟨by omega, by omega, by omega, by omega, ho.prev, hw, h.right, hb, by omega, h.seqs⟩
def LogS.shut (s : LogS) : LogS := if s.waits.length = 0 then s else ⟨s.segs ++ [s.waits], []⟩
theorem LogSt.sealed {id : List UInt8} {n : Nat} {s : LogS} (h : LogSt id n s) : LogSt id n s.shut := by
 unfold LogS.shut
 split
 ·exact h
 ·rename_i hw
  have hf := h.free hw
  have hn := h.few
  have hx : (logOf id (s.segs ++ [s.waits])).next = (logOf id s.segs).next + s.waits.length := by rw [logOf_snoc]; rfl
  have ht := h.time
  refine ⟨h.fine.snoc (h.seg hw) (by omega), by rw [List.length_append, List.length_singleton]; omega, hn, by simp, by simp, by simp [waitBytes, leavesOf], by simp, ?_⟩
  dsimp only
  rw [hx]
  simpa using ht
def LogS.append (n : Nat) (s : LogS) (r : RecP) : Option LogS :=
 if n - s.segs.length = 0 then none
 else if waitBytes s.waits + recSize r ≤ 942 then some ⟨s.segs, s.waits ++ [r]⟩
 else if n - s.segs.length = 1 then none
 else some ⟨s.segs ++ [s.waits], [r]⟩
theorem LogSt.appended {id : List UInt8} {n : Nat} {s s' : LogS} {r : RecP} (h : LogSt id n s) (hr : recRight r = true) (hs : r.seq = (logOf id s.segs).next + s.waits.length) (ht : r.seq < 1000000) (he : s.append n r = some s') : LogSt id n s' := by
 have ho := h.fine.ok
 have hn := ho.next
 have h0 : 0 ≤ r.seq := by omega
 unfold LogS.append at he
 split at he
 ·cases he
 rename_i h1
 split at he
 ·rename_i h2
  injection he with he
  subst he
  refine ⟨h.fine, h.room, h.few, ?_, ?_, ?_, ?_, ?_⟩
  ·intro x hx
   rcases List.mem_append.1 hx with hx | hx
   ·exact h.right x hx
   ·rw [List.mem_singleton] at hx; subst hx; exact ⟨hr, h0⟩
  ·intro k hk
   rw [List.length_append, List.length_singleton] at hk
   by_cases e : k < s.waits.length
   ·simp only [List.getElem_append_left e]; exact h.seqs k e
   ·obtain rfl : k = s.waits.length := by omega
    simp [hs]
  ·rw [waitBytes_snoc _ hr]; exact h2
  ·intro _; dsimp only; omega
  ·dsimp only; rw [List.length_append, List.length_singleton]; omega
 ·rename_i h2
  split at he
  ·cases he
  rename_i h3
  injection he with he
  subst he
  have hr15 : recSize r ≤ 942 := by
   have := recRight_def r
   rw [hr] at this
   unfold recSize
   rw [if_pos hr]
   have := of_decide_eq_true this.symm
   omega
  have hw : s.waits.length ≠ 0 := by
   intro e
   have := List.eq_nil_of_length_eq_zero e
   rw [this] at h2
   simp [waitBytes, leavesOf] at h2
   omega
  have hq := h.sealed
  unfold LogS.shut at hq
  rw [if_neg hw] at hq
  have hx : (logOf id (s.segs ++ [s.waits])).next = (logOf id s.segs).next + s.waits.length := by rw [logOf_snoc]; rfl
  have hf := h.few
  refine ⟨hq.fine, hq.room, hf, ?_, ?_, ?_, ?_, ?_⟩
  ·intro x hx
   rw [List.mem_singleton] at hx; subst hx; exact ⟨hr, h0⟩
  ·intro k hk
   dsimp only at hk ⊢
   have : k = 0 := by simpa using hk
   subst this
   simp [hs, hx]
  ·have := waitBytes_snoc [] hr
   rw [List.nil_append] at this
   rw [this]
   simpa [waitBytes, leavesOf] using hr15
  ·intro _; dsimp only; rw [List.length_append, List.length_singleton]; omega
  ·dsimp only; rw [hx]; simp; omega
theorem LogSt.again {id : List UInt8} {n : Nat} {s : LogS} (h : LogSt id n s) : LogSt id n ⟨s.segs, []⟩ :=
 ⟨h.fine, h.room, h.few, by simp, by simp, by simp [waitBytes, leavesOf], by simp, by have := h.time; simp; omega⟩
/-
  PROVED HERE: plain law on a log's disk: where its segments lie, what is found of them; no program is in sight.
-/
/-! ### what is found -/
def foundIn (S : List UInt8) (p : Nat) : Nat → Nat → Int → List UInt8 → List (HeadP × List RecP)
 | 0, _, _, _ => []
 | n + 1, i, next, head =>
  if (segRead (placeOf S p i)).2.2 = 0 ∧ (segRead (placeOf S p i)).1.index = i ∧ (segRead (placeOf S p i)).1.first = next ∧ (segRead (placeOf S p i)).1.prev = head then
   ((segRead (placeOf S p i)).1, (segRead (placeOf S p i)).2.1) :: foundIn S p n (i + 1) ((segRead (placeOf S p i)).1.first + (segRead (placeOf S p i)).1.count) (sealOf (segRead (placeOf S p i)).1)
  else []
/-! ### the document's log -/
structure RefL where
 segments : Int
 sealed : Int
 bytes : Int
 waits : Int
 next : Int
def RefL.shut (m : RefL) : RefL := if 0 < m.waits then ⟨m.segments, m.sealed + 1, 0, 0, m.next⟩ else m
def RefL.append (m : RefL) (size : Int) : Bool × RefL :=
 if m.segments ≤ m.sealed then (false, m)
 else if 942 - m.bytes < size then
  if m.segments ≤ m.sealed + 1 then (false, m)
  else (true, ⟨m.segments, m.shut.sealed, m.shut.bytes + size, m.shut.waits + 1, m.next + 1⟩)
 else (true, ⟨m.segments, m.sealed, m.bytes + size, m.waits + 1, m.next + 1⟩)
/-
  PROVED HERE: what log.Seal does; conditions: the log is as LogOn says, its records make a segment.
-/
theorem SegFine.build {index first : Int} {prev : List UInt8} {rs : List RecP} (h : SegFine index first prev rs) : buildOf index first prev rs = (segBytes index first prev rs, 0) := by
 have h1 : buildArgs index first prev.length rs = true := decide_eq_true ⟨h.i0, h.i1, h.f1, h.prev, h.any, fits_right (fun r hr => (h.right r hr).1) h.room⟩
 have h2 : seqsFrom first rs = true := (seqsFrom_iff _ _).2 h.seqs
 unfold buildOf
 rw [h1, h2, if_neg (by simp), if_neg (by simp)]
structure LogOn (w : World) (D : Nat → Prop) (base bl : Nat) (q : DiskB) (v : LogV) (A : Option Addr) (c : Nat) (S : List UInt8) : Prop where
 log : LogAt w D base bl q.bd v A c
 disk : Clean w q S
 size : S.length = v.s * 128
 plan : planRight v.s v.p v.g = true
 apart : DiskOf q bl
 row : ∀ k, blk A = some k → DiskOf q k
 data : ∀ b, D b → DiskOf q b
section
variable {w w' : World} {D F : Nat → Prop} {base bl : Nat} {q : DiskB} {v : LogV} {A : Option Addr} {c : Nat} {S : List UInt8}
theorem LogOn.new (h : LogOn w D base bl q v A c S) (hk : New w w') : LogOn w' D base bl q v A c S := ⟨h.log.new hk, h.disk.new hk, h.size, h.plan, h.apart, h.row, h.data⟩
theorem LogOn.keep (h : LogOn w D base bl q v A c S) (hk : Keep F w w') (hl : F bl) (hA : ∀ k, blk A = some k → F k) (hD : ∀ b, D b → F b) (hq : ∀ b, b = q.bd ∨ b = q.bs ∨ b = q.bm → F b) : LogOn w' D base bl q v A c S :=
 ⟨h.log.keep hk hl hA hD, h.disk.keep hk hq, h.size, h.plan, h.apart, h.row, h.data⟩
end
def LogV.shut (v : LogV) : LogV := if v.waits.length = 0 then v else ⟨v.s, v.p, v.g, v.sealed + 1, v.next + (v.waits.length : Int), sealOf (chainHead v.sealed v.next v.head v.waits), []⟩
def LogV.disk (v : LogV) (S : List UInt8) : List UInt8 := if v.waits.length = 0 then S else splice S (placeAt v.p v.sealed) (segBytes v.sealed v.next v.head v.waits)
/-
  PROVED HERE: what log.Open answers where its arguments are right; conditions: nothing on the disk is unsafe.
-/
theorem info_recsl : (Tryz.prog.info? 124).map (fun i => (i.zero, i.size, i.bytes)) = some (some (.slice none 0 0), 1, 24) := by kernel_rfl
theorem New.of_eq {w w' : World} (h : w = w') : New w w' := h ▸ New.refl w
def foundEnd : Int → List UInt8 → List (HeadP × List RecP) → Int × List UInt8
 | nx, hd, [] => (nx, hd)
 | _, _, x :: r => foundEnd (x.1.first + x.1.count) (sealOf x.1) r
theorem foundEnd_snoc : ∀ (nx : Int) (hd : List UInt8) (l : List (HeadP × List RecP)) (x : HeadP × List RecP), foundEnd nx hd (l ++ [x]) = (x.1.first + x.1.count, sealOf x.1)
 | _, _, [], _ => rfl
 | _, _, _y :: l, x => foundEnd_snoc _ _ l x
theorem six_cells {w : World} {g : Nat} {c0 c1 c2 c3 c4 c5 : Value} {t : TypeId} (h : w.heap[g]? = some (.cells #[c0, c1, c2, c3, c4, c5] t (0, 0))) (x0 x1 x2 x3 x4 x5 : Value) :
  ((((((w.setCell ⟨g, 0, none⟩ x0).setCell ⟨g, 1, none⟩ x1).setCell ⟨g, 2, none⟩ x2).setCell ⟨g, 3, none⟩ x3).setCell ⟨g, 4, none⟩ x4).setCell ⟨g, 5, none⟩ x5).heap[g]? = some (.cells #[x0, x1, x2, x3, x4, x5] t (0, 0)) ∧
  Keep (fun b => b ≠ g) w ((((((w.setCell ⟨g, 0, none⟩ x0).setCell ⟨g, 1, none⟩ x1).setCell ⟨g, 2, none⟩ x2).setCell ⟨g, 3, none⟩ x3).setCell ⟨g, 4, none⟩ x4).setCell ⟨g, 5, none⟩ x5) := by
 have no : ∀ (W : World) (k : Nat) (u : Value), Keep (fun b => b ≠ g) w W → Keep (fun b => b ≠ g) w (W.setCell ⟨g, k, none⟩ u) := fun W k u hW => hW.setCell (p := ⟨g, k, none⟩) (fun hd => absurd rfl hd) u
 exact ⟨setCell_block (setCell_block (setCell_block (setCell_block (setCell_block (setCell_block h 0 x0) 1 x1) 2 x2) 3 x3) 4 x4) 5 x5, no _ _ _ (no _ _ _ (no _ _ _ (no _ _ _ (no _ _ _ (no _ _ _ (Keep.refl _ w))))))⟩
theorem own_not {w : World} {base : Nat} {t t' : TypeId} {size n c : Nat} {A : Option Addr} {xs : List Value} (h : Own w base t size A n c xs) {g : Nat} {cs : Array Value} {fr : Nat × Nat} (hg : w.heap[g]? = some (.cells cs t' fr)) (ht : t ≠ t') : blk A ≠ some g := by
 intro e
 rcases h.2 with ⟨hv, _⟩ | ⟨g2, cap2, cur2, hv, _, hg2, _⟩
 ·injection hv with hA; subst hA; cases e
 ·injection hv with hA; subst hA
  have : g2 = g := by injection e
  subst this
  rw [hg] at hg2
  injection hg2 with hg2
  injection hg2 with _ h2
  exact ht h2.symm
def openNext (fr : Nat) (next : Int) : Int := if fr = 0 then 1 else next
def openHead (fr : Nat) (id hb : List UInt8) : List UInt8 := if fr = 0 then genesisOf id else hb
def OpenRet (w : World) (q : DiskB) (S : List UInt8) (s p g fr : Nat) (nx : Int) (hd : List UInt8) (e : Ending) (w' : World) : Prop := New w w' ∧ ∃ bl Ao co fd, fd = foundIn S p (g - fr) fr nx hd ∧
 e = .returned (.tuple #[.pointer (some ⟨bl, 0, none⟩), .slice Ao fd.length co, .int .i64 0]) ∧ w.heap.size ≤ bl ∧
 LogOn w' (fun b => w.heap.size ≤ b ∧ b ≠ bl) w.heap.size bl q ⟨s, p, g, fr + fd.length, (foundEnd nx hd fd).1, (foundEnd nx hd fd).2, []⟩ none 0 S ∧
 OwnSl 124 (slElt recElt) w' w.heap.size (fun b => w.heap.size ≤ b ∧ b ≠ bl) Ao fd.length co (fd.map Prod.snd)
theorem head_count (bs : List UInt8) : 0 ≤ (segRead bs).1.count ∧ (segRead bs).1.count ≤ 65535 := by
 have hf : 0 ≤ (headOf bs).count ∧ (headOf bs).count ≤ 65535 := by
  have h := num_lt (((RdS.mk bs 0).num 2).2.num 8).2 2
  refine ⟨Int.natCast_nonneg _, ?_⟩
  unfold headOf
  dsimp only
  omega
 have h0 : (0 : Int) ≤ noHead.count ∧ noHead.count ≤ 65535 := by decide
 unfold segRead
 split
 ·exact h0
 split
 ·exact h0
 split
 ·exact h0
 split
 ·exact h0
 split
 ·exact h0
 split
 ·exact h0
 ·exact hf
end Go.Proofs.YtijjhfkgbmckkaaGreatDoor
/-
  PROVED HERE: what disk.Image answers where nothing is unsafe; condition: the disk is as Clean says.
-/
namespace Go.Proofs.YtijjhfkgbmckkaaGreatDoor
open Go.RowKit
open Go.Maps (Keyed)
set_option maxRecDepth 100000 in
theorem image_any {w : World} {q : DiskB} {S : List UInt8} (h : Clean w q S) :
  Calls Tryz.prog 17 #[.pointer (some ⟨q.bd, 0, none⟩)] w fun e w' => (∃ A' c', e = .returned (.slice A' S.length c') ∧ Bs w' (fun b => w.heap.size ≤ b) A' S.length S ∧ S.length ≤ c' ∧ c' ≤ 9223372036854775807) ∧ New w w' := by
 obtain ⟨wr0, hd⟩ := h
 obtain ⟨k, hk, hk0, hk1⟩ := hd.size
 have hdisk := hd.disk
 have hlt := hd.lt
 obtain ⟨n, hn⟩ : ∃ n, n = S.length := ⟨_, rfl⟩
 have hbs := hd.row
 rw [← hn] at hdisk hbs ⊢
 have hn9 : n ≤ 1000000 := by omega
 have c0 : w.cell? ⟨q.bd, 0, none⟩ = some (.slice (some ⟨q.bs, 0, none⟩) n n) := by rw [cell_of_row _ _ _ _ _ (0, 0) hdisk]; rfl
 have HC := Lib.hid (clone_bytes _ (some ⟨q.bs, 0, none⟩) n n S w hbs (by omega))
 obtain ⟨E, hown, hs⟩ := hd.dirty
 have HS : Hid (∀ x : Int, Maps.has E (.int .i64 x) = false) := Lib.hid fun x => (hs x).1 rfl
 have HD := Lib.hid hdisk
 have HO := Lib.hid hown
 have hbm := hlt q.bm (.inr (.inr rfl))
 clear hd hk hk0 hk1 hn hlt hbs hown hs hdisk
 go_enter Tryz.func17, Tryz.ntmps17
 go_wp2_with fail
 refine HC.out.mono ?_
 rintro e w1 ⟨⟨A', c', rfl, ho⟩, k1⟩
 have hown1 := ownsMap_keep (F := fun _ => True) HO.out k1 trivial
 have c1 : w1.cell? ⟨q.bd, 1, none⟩ = some (.map (some q.bm)) := cellOf (k1.blockAt HD.out trivial) (k := 1) rfl
 have hB := Row.of_own ho
 have hcp := own_cap ho
 have hcm := own_capMax ho
 clear c0 ho HC
 go_wp2_with (first
  | (at_range; refine wpList_range_own _ rfl _ 86 rfl 3 22 keyI Tryz.underlying86 _ q.bm 0 _ rfl hown1 ?_; intro w0 hrg0 hg0 hs0)
  | fail)
 go_frame
 clear c1
 go_loopw [4] (fun _ wr => ∃ (left : Lit → Bool) (cnt : Nat), wr.ranges Tryz.prog 3 heldR q.bm w1.heap.size 0 E left cnt ∧ (∀ kl, left kl = true → Maps.has E kl = true) ∧ Keep (fun b => b < w1.heap.size) w1 wr)
  (fun _ wr => wr.rangeLeft q.bm w1.heap.size)
 case atStart => exact ⟨_, _, hrg0, fun _ h => h, ⟨hg0.os, hg0.tape, hg0.output, hg0.size, fun j hj _ => hg0.block j hj (by simp)⟩⟩
 case round =>
  obtain ⟨left, cnt, hrg, hle, hK⟩ := hrel
  go_wp2_with (first
   | (at_next; refine wpList_next_ranges _ rfl _ rfl 3 keyI heldR (Value.int .i64) (fun c : Value => c) (fun key kl hkey => by obtain ⟨x, rfl, _⟩ := Maps.keyOf_int_inv Tryz.underlying3 hkey; exact ⟨x, rfl⟩) (fun v y hv => ⟨v, rfl⟩) q.bm w1.heap.size 0 _ _ _ rfl hrg ?_ ?_)
   | fail)
  ·intro _ hl0
   go_wp2_with fail
   go_ret
   have kf : New w1 wr := hK.toNew fun j hj => hj
   exact ⟨⟨A', c', rfl, hB.new kf, hcp, hcm⟩, k1.new kf⟩
  ·intro x c kl y ps w2 cnt1 hkey hlk hR hat hrg1 hlt1 hg1 hs1 hen
   exfalso
   obtain ⟨x', ex, rfl, hwx⟩ := Maps.keyOf_int_inv Tryz.underlying3 hkey
   have h1 := hle _ hlk
   rw [HS.out] at h1
   cases h1
end Go.Proofs.YtijjhfkgbmckkaaGreatDoor
/-
  PROVED HERE: the library's contracts on generic functions (the kit's shelf) at this program: tables of numbers, each field compared with the program. No condition.
-/
namespace Go.Proofs.YtijjhfkgbmckkaaGreatDoor
open Go.Shelf
def keysT_ren : Go.Shelf.Ren := ⟨fun | 7 => 252 | 10 => 315 | n => n, fun | 23 => 268 | 26 => 3 | 3 => 262 | 28 => 100 | 0 => 0 | 27 => 99 | 33 => 89 | 4 => 4 | n => n, fun | n => n⟩
theorem keysT : Go.Proofs.SlLaysZI.n7 Tryz.prog keysT_ren := {
 mixed := by kernel_rfl
 f7 := ⟨Tryz.f252.name, by decide, Tryz.func252.trans (congrArg some (by kernel_rfl))⟩
 f10 := ⟨Tryz.f315.name, by decide, Tryz.func315.trans (congrArg some (by kernel_rfl))⟩
 t0 := Tryz.underlying0
 a0 := Tryz.isAgg0
 z0 := Tryz.sizeOf0
 v0 := Tryz.zeroValue0
 t4 := Tryz.underlying4
 a4 := Tryz.isAgg4
 z4 := Tryz.sizeOf4
 v4 := Tryz.zeroValue4
 t23 := Tryz.underlying268
 a23 := Tryz.isAgg268
 z23 := Tryz.sizeOf268
 v23 := Tryz.zeroValue268
 t26 := Tryz.underlying3
 a26 := Tryz.isAgg3
 z26 := Tryz.sizeOf3
 v26 := Tryz.zeroValue3
 t27 := Tryz.underlying99
 a27 := Tryz.isAgg99
 z27 := Tryz.sizeOf99
 v27 := Tryz.zeroValue99
 t28 := Tryz.underlying100
 a28 := Tryz.isAgg100
 z28 := Tryz.sizeOf100
 v28 := Tryz.zeroValue100
 t33 := Tryz.underlying89
 a33 := Tryz.isAgg89
 z33 := Tryz.sizeOf89
 v33 := Tryz.zeroValue89 }
def sortedI_ren : Go.Shelf.Ren := ⟨fun | 6 => 50 | 8 => 128 | 9 => 129 | 11 => 221 | 13 => 223 | 12 => 222 | 23 => 310 | 24 => 311 | 14 => 301 | 15 => 302 | 16 => 303 | 17 => 304 | 18 => 305 | 19 => 306 | 20 => 307 | 21 => 308 | 22 => 309 | 25 => 343 | 26 => 344 | 27 => 345 | 28 => 346 | 29 => 347 | 30 => 348 | 31 => 370 | n => n, fun | 26 => 3 | 28 => 100 | 24 => 31 | 0 => 0 | 3 => 3 | 37 => 187 | 48 => 103 | 50 => 42 | 4 => 4 | 40 => 380 | 39 => 379 | 45 => 250 | 5 => 5 | 9 => 9 | 51 => 410 | 55 => 413 | 57 => 429 | 58 => 220 | 33 => 89 | n => n, fun | n => n⟩
theorem sortedI : Go.Proofs.SlLaysZI.n6 Tryz.prog sortedI_ren := {
 mixed := by kernel_rfl
 f6 := ⟨Tryz.f50.name, by decide, Tryz.func50.trans (congrArg some (by kernel_rfl))⟩
 f8 := ⟨Tryz.f128.name, by decide, Tryz.func128.trans (congrArg some (by kernel_rfl))⟩
 f11 := ⟨Tryz.f221.name, by decide, Tryz.func221.trans (congrArg some (by kernel_rfl))⟩
 t0 := Tryz.underlying0
 a0 := Tryz.isAgg0
 z0 := Tryz.sizeOf0
 v0 := Tryz.zeroValue0
 t24 := Tryz.underlying31
 a24 := Tryz.isAgg31
 z24 := Tryz.sizeOf31
 v24 := Tryz.zeroValue31
 t26 := Tryz.underlying3
 a26 := Tryz.isAgg3
 z26 := Tryz.sizeOf3
 v26 := Tryz.zeroValue3
 t28 := Tryz.underlying100
 a28 := Tryz.isAgg100
 z28 := Tryz.sizeOf100
 v28 := Tryz.zeroValue100
 i26 := by kernel_rfl }
def sortI_ren : Go.Shelf.Ren := ⟨fun | 5 => 129 | 8 => 223 | 7 => 222 | 19 => 310 | 20 => 311 | 10 => 301 | 11 => 302 | 12 => 303 | 13 => 304 | 14 => 305 | 15 => 306 | 16 => 307 | 17 => 308 | 18 => 309 | 30 => 343 | 31 => 344 | 32 => 345 | 33 => 346 | 34 => 347 | 35 => 348 | 40 => 370 | n => n, fun | 23 => 31 | 25 => 3 | 3 => 3 | 32 => 187 | 22 => 31 | 0 => 0 | 44 => 103 | 46 => 42 | 4 => 4 | 36 => 380 | 35 => 379 | 41 => 250 | 5 => 5 | 9 => 9 | 53 => 410 | 57 => 413 | 63 => 429 | 64 => 220 | n => n, fun | n => n⟩
theorem sortI : Go.Proofs.SlLaysM.n5 Tryz.prog sortI_ren := {
 mixed := by kernel_rfl
 f5 := ⟨Tryz.f129.name, by decide, Tryz.func129.trans (congrArg some (by kernel_rfl))⟩
 f7 := ⟨Tryz.f222.name, by decide, Tryz.func222.trans (congrArg some (by kernel_rfl))⟩
 f8 := Tryz.func223.trans (congrArg some (by kernel_rfl))
 f10 := ⟨Tryz.f301.name, by decide, Tryz.func301.trans (congrArg some (by kernel_rfl))⟩
 f11 := ⟨Tryz.f302.name, by decide, Tryz.func302.trans (congrArg some (by kernel_rfl))⟩
 f12 := ⟨Tryz.f303.name, by decide, Tryz.func303.trans (congrArg some (by kernel_rfl))⟩
 f13 := ⟨Tryz.f304.name, by decide, Tryz.func304.trans (congrArg some (by kernel_rfl))⟩
 f14 := ⟨Tryz.f305.name, by decide, Tryz.func305.trans (congrArg some (by kernel_rfl))⟩
 f15 := ⟨Tryz.f306.name, by decide, Tryz.func306.trans (congrArg some (by kernel_rfl))⟩
 f16 := ⟨Tryz.f307.name, by decide, Tryz.func307.trans (congrArg some (by kernel_rfl))⟩
 f17 := ⟨Tryz.f308.name, by decide, Tryz.func308.trans (congrArg some (by kernel_rfl))⟩
 f18 := ⟨Tryz.f309.name, by decide, Tryz.func309.trans (congrArg some (by kernel_rfl))⟩
 f19 := Tryz.func310.trans (congrArg some (by kernel_rfl))
 f20 := Tryz.func311.trans (congrArg some (by kernel_rfl))
 f30 := ⟨Tryz.f343.name, by decide, Tryz.func343.trans (congrArg some (by kernel_rfl))⟩
 f31 := Tryz.func344.trans (congrArg some (by kernel_rfl))
 f32 := Tryz.func345.trans (congrArg some (by kernel_rfl))
 f33 := ⟨Tryz.f346.name, by decide, Tryz.func346.trans (congrArg some (by kernel_rfl))⟩
 f34 := ⟨Tryz.f347.name, by decide, Tryz.func347.trans (congrArg some (by kernel_rfl))⟩
 f35 := ⟨Tryz.f348.name, by decide, Tryz.func348.trans (congrArg some (by kernel_rfl))⟩
 f40 := ⟨Tryz.f370.name, by decide, Tryz.func370.trans (congrArg some (by kernel_rfl))⟩
 t0 := Tryz.underlying0
 a0 := Tryz.isAgg0
 z0 := Tryz.sizeOf0
 v0 := Tryz.zeroValue0
 t3 := Tryz.underlying3
 a3 := Tryz.isAgg3
 z3 := Tryz.sizeOf3
 v3 := Tryz.zeroValue3
 t4 := Tryz.underlying4
 a4 := Tryz.isAgg4
 z4 := Tryz.sizeOf4
 v4 := Tryz.zeroValue4
 t5 := Tryz.underlying5
 a5 := Tryz.isAgg5
 z5 := Tryz.sizeOf5
 v5 := Tryz.zeroValue5
 t9 := Tryz.underlying9
 a9 := Tryz.isAgg9
 z9 := Tryz.sizeOf9
 v9 := Tryz.zeroValue9
 t22 := Tryz.underlying31
 a22 := Tryz.isAgg31
 z22 := Tryz.sizeOf31
 v22 := Tryz.zeroValue31
 t23 := Tryz.underlying31
 a23 := Tryz.isAgg31
 z23 := Tryz.sizeOf31
 v23 := Tryz.zeroValue31
 t25 := Tryz.underlying3
 a25 := Tryz.isAgg3
 z25 := Tryz.sizeOf3
 v25 := Tryz.zeroValue3
 t32 := Tryz.underlying187
 a32 := Tryz.isAgg187
 z32 := Tryz.sizeOf187
 v32 := Tryz.zeroValue187
 t35 := Tryz.underlying379
 a35 := Tryz.isAgg379
 z35 := Tryz.sizeOf379
 v35 := Tryz.zeroValue379
 t36 := Tryz.underlying380
 a36 := Tryz.isAgg380
 z36 := Tryz.sizeOf380
 v36 := Tryz.zeroValue380
 t41 := Tryz.underlying250
 a41 := Tryz.isAgg250
 z41 := Tryz.sizeOf250
 v41 := Tryz.zeroValue250
 t44 := Tryz.underlying103
 a44 := Tryz.isAgg103
 z44 := Tryz.sizeOf103
 v44 := Tryz.zeroValue103
 t46 := Tryz.underlying42
 a46 := Tryz.isAgg42
 z46 := Tryz.sizeOf42
 v46 := Tryz.zeroValue42
 t53 := Tryz.underlying410
 a53 := Tryz.isAgg410
 z53 := Tryz.sizeOf410
 v53 := Tryz.zeroValue410
 t57 := Tryz.underlying413
 a57 := Tryz.isAgg413
 z57 := Tryz.sizeOf413
 v57 := Tryz.zeroValue413
 t63 := Tryz.underlying429
 a63 := Tryz.isAgg429
 z63 := Tryz.sizeOf429
 v63 := Tryz.zeroValue429
 t64 := Tryz.underlying220
 a64 := Tryz.isAgg220
 z64 := Tryz.sizeOf220
 v64 := Tryz.zeroValue220 }
def keysN_ren : Go.Shelf.Ren := ⟨fun | 7 => 206 | 10 => 293 | n => n, fun | 23 => 265 | 26 => 9 | 3 => 3 | 28 => 292 | 0 => 0 | 27 => 291 | 33 => 314 | 4 => 4 | n => n, fun | n => n⟩
theorem keysN : Go.Proofs.SlLaysZ.n7 Tryz.prog keysN_ren := {
 mixed := by kernel_rfl
 f7 := ⟨Tryz.f206.name, by decide, Tryz.func206.trans (congrArg some (by kernel_rfl))⟩
 f10 := ⟨Tryz.f293.name, by decide, Tryz.func293.trans (congrArg some (by kernel_rfl))⟩
 t0 := Tryz.underlying0
 a0 := Tryz.isAgg0
 z0 := Tryz.sizeOf0
 v0 := Tryz.zeroValue0
 t4 := Tryz.underlying4
 a4 := Tryz.isAgg4
 z4 := Tryz.sizeOf4
 v4 := Tryz.zeroValue4
 t23 := Tryz.underlying265
 a23 := Tryz.isAgg265
 z23 := Tryz.sizeOf265
 v23 := Tryz.zeroValue265
 t26 := Tryz.underlying9
 a26 := Tryz.isAgg9
 z26 := Tryz.sizeOf9
 v26 := Tryz.zeroValue9
 t27 := Tryz.underlying291
 a27 := Tryz.isAgg291
 z27 := Tryz.sizeOf291
 v27 := Tryz.zeroValue291
 t28 := Tryz.underlying292
 a28 := Tryz.isAgg292
 z28 := Tryz.sizeOf292
 v28 := Tryz.zeroValue292
 t33 := Tryz.underlying314
 a33 := Tryz.isAgg314
 z33 := Tryz.sizeOf314
 v33 := Tryz.zeroValue314 }
def sortedN_ren : Go.Shelf.Ren := ⟨fun | 6 => 205 | 8 => 291 | 9 => 292 | 11 => 331 | 13 => 223 | 12 => 332 | 23 => 310 | 24 => 311 | 14 => 359 | 15 => 360 | 16 => 361 | 17 => 362 | 18 => 363 | 19 => 364 | 20 => 365 | 21 => 366 | 22 => 367 | 25 => 377 | 26 => 344 | 27 => 345 | 28 => 378 | 29 => 379 | 30 => 380 | 31 => 387 | n => n, fun | 26 => 9 | 28 => 292 | 24 => 71 | 0 => 0 | 3 => 3 | 37 => 187 | 48 => 103 | 50 => 42 | 4 => 4 | 40 => 380 | 39 => 379 | 45 => 250 | 5 => 5 | 9 => 9 | 51 => 410 | 55 => 413 | 57 => 429 | 58 => 220 | 33 => 314 | n => n, fun | n => n⟩
theorem sortedN : Go.Proofs.SlLaysZ.n6 Tryz.prog sortedN_ren := {
 mixed := by kernel_rfl
 f6 := ⟨Tryz.f205.name, by decide, Tryz.func205.trans (congrArg some (by kernel_rfl))⟩
 f8 := ⟨Tryz.f291.name, by decide, Tryz.func291.trans (congrArg some (by kernel_rfl))⟩
 f11 := ⟨Tryz.f331.name, by decide, Tryz.func331.trans (congrArg some (by kernel_rfl))⟩
 t0 := Tryz.underlying0
 a0 := Tryz.isAgg0
 z0 := Tryz.sizeOf0
 v0 := Tryz.zeroValue0
 t24 := Tryz.underlying71
 a24 := Tryz.isAgg71
 z24 := Tryz.sizeOf71
 v24 := Tryz.zeroValue71
 t26 := Tryz.underlying9
 a26 := Tryz.isAgg9
 z26 := Tryz.sizeOf9
 v26 := Tryz.zeroValue9
 t28 := Tryz.underlying292
 a28 := Tryz.isAgg292
 z28 := Tryz.sizeOf292
 v28 := Tryz.zeroValue292
 i26 := by kernel_rfl }
def sortN_ren : Go.Shelf.Ren := ⟨fun | 6 => 292 | 8 => 223 | 9 => 332 | 19 => 310 | 20 => 311 | 21 => 359 | 22 => 360 | 23 => 361 | 24 => 362 | 25 => 363 | 26 => 364 | 27 => 365 | 28 => 366 | 29 => 367 | 36 => 377 | 31 => 344 | 32 => 345 | 37 => 378 | 38 => 379 | 39 => 380 | 41 => 387 | n => n, fun | 27 => 71 | 29 => 9 | 3 => 3 | 32 => 187 | 26 => 71 | 0 => 0 | 44 => 103 | 46 => 42 | 4 => 4 | 36 => 380 | 35 => 379 | 41 => 250 | 5 => 5 | 9 => 9 | 53 => 410 | 57 => 413 | 63 => 429 | 64 => 220 | n => n, fun | n => n⟩
theorem sortN : Go.Proofs.SlLaysM.n6 Tryz.prog sortN_ren := {
 mixed := by kernel_rfl
 f6 := ⟨Tryz.f292.name, by decide, Tryz.func292.trans (congrArg some (by kernel_rfl))⟩
 f8 := Tryz.func223.trans (congrArg some (by kernel_rfl))
 f9 := ⟨Tryz.f332.name, by decide, Tryz.func332.trans (congrArg some (by kernel_rfl))⟩
 f19 := Tryz.func310.trans (congrArg some (by kernel_rfl))
 f20 := Tryz.func311.trans (congrArg some (by kernel_rfl))
 f21 := ⟨Tryz.f359.name, by decide, Tryz.func359.trans (congrArg some (by kernel_rfl))⟩
 f22 := ⟨Tryz.f360.name, by decide, Tryz.func360.trans (congrArg some (by kernel_rfl))⟩
 f23 := ⟨Tryz.f361.name, by decide, Tryz.func361.trans (congrArg some (by kernel_rfl))⟩
 f24 := ⟨Tryz.f362.name, by decide, Tryz.func362.trans (congrArg some (by kernel_rfl))⟩
 f25 := ⟨Tryz.f363.name, by decide, Tryz.func363.trans (congrArg some (by kernel_rfl))⟩
 f26 := ⟨Tryz.f364.name, by decide, Tryz.func364.trans (congrArg some (by kernel_rfl))⟩
 f27 := ⟨Tryz.f365.name, by decide, Tryz.func365.trans (congrArg some (by kernel_rfl))⟩
 f28 := ⟨Tryz.f366.name, by decide, Tryz.func366.trans (congrArg some (by kernel_rfl))⟩
 f29 := ⟨Tryz.f367.name, by decide, Tryz.func367.trans (congrArg some (by kernel_rfl))⟩
 f31 := Tryz.func344.trans (congrArg some (by kernel_rfl))
 f32 := Tryz.func345.trans (congrArg some (by kernel_rfl))
 f36 := ⟨Tryz.f377.name, by decide, Tryz.func377.trans (congrArg some (by kernel_rfl))⟩
 f37 := ⟨Tryz.f378.name, by decide, Tryz.func378.trans (congrArg some (by kernel_rfl))⟩
 f38 := ⟨Tryz.f379.name, by decide, Tryz.func379.trans (congrArg some (by kernel_rfl))⟩
 f39 := ⟨Tryz.f380.name, by decide, Tryz.func380.trans (congrArg some (by kernel_rfl))⟩
 f41 := ⟨Tryz.f387.name, by decide, Tryz.func387.trans (congrArg some (by kernel_rfl))⟩
 t0 := Tryz.underlying0
 a0 := Tryz.isAgg0
 z0 := Tryz.sizeOf0
 v0 := Tryz.zeroValue0
 t3 := Tryz.underlying3
 a3 := Tryz.isAgg3
 z3 := Tryz.sizeOf3
 v3 := Tryz.zeroValue3
 t4 := Tryz.underlying4
 a4 := Tryz.isAgg4
 z4 := Tryz.sizeOf4
 v4 := Tryz.zeroValue4
 t5 := Tryz.underlying5
 a5 := Tryz.isAgg5
 z5 := Tryz.sizeOf5
 v5 := Tryz.zeroValue5
 t9 := Tryz.underlying9
 a9 := Tryz.isAgg9
 z9 := Tryz.sizeOf9
 v9 := Tryz.zeroValue9
 t26 := Tryz.underlying71
 a26 := Tryz.isAgg71
 z26 := Tryz.sizeOf71
 v26 := Tryz.zeroValue71
 t27 := Tryz.underlying71
 a27 := Tryz.isAgg71
 z27 := Tryz.sizeOf71
 v27 := Tryz.zeroValue71
 t29 := Tryz.underlying9
 a29 := Tryz.isAgg9
 z29 := Tryz.sizeOf9
 v29 := Tryz.zeroValue9
 t32 := Tryz.underlying187
 a32 := Tryz.isAgg187
 z32 := Tryz.sizeOf187
 v32 := Tryz.zeroValue187
 t35 := Tryz.underlying379
 a35 := Tryz.isAgg379
 z35 := Tryz.sizeOf379
 v35 := Tryz.zeroValue379
 t36 := Tryz.underlying380
 a36 := Tryz.isAgg380
 z36 := Tryz.sizeOf380
 v36 := Tryz.zeroValue380
 t41 := Tryz.underlying250
 a41 := Tryz.isAgg250
 z41 := Tryz.sizeOf250
 v41 := Tryz.zeroValue250
 t44 := Tryz.underlying103
 a44 := Tryz.isAgg103
 z44 := Tryz.sizeOf103
 v44 := Tryz.zeroValue103
 t46 := Tryz.underlying42
 a46 := Tryz.isAgg42
 z46 := Tryz.sizeOf42
 v46 := Tryz.zeroValue42
 t53 := Tryz.underlying410
 a53 := Tryz.isAgg410
 z53 := Tryz.sizeOf410
 v53 := Tryz.zeroValue410
 t57 := Tryz.underlying413
 a57 := Tryz.isAgg413
 z57 := Tryz.sizeOf413
 v57 := Tryz.zeroValue413
 t63 := Tryz.underlying429
 a63 := Tryz.isAgg429
 z63 := Tryz.sizeOf429
 v63 := Tryz.zeroValue429
 t64 := Tryz.underlying220
 a64 := Tryz.isAgg220
 z64 := Tryz.sizeOf220
 v64 := Tryz.zeroValue220 }
def cloneN_ren : Go.Shelf.Ren := ⟨fun | 5 => 251 | 7 => 314 | n => n, fun | 23 => 265 | 25 => 9 | 3 => 3 | 4 => 4 | 20 => 20 | n => n, fun | n => n⟩
theorem cloneN : Go.Proofs.SlLaysW.n5 Tryz.prog cloneN_ren := {
 mixed := by kernel_rfl
 f5 := ⟨Tryz.f251.name, by decide, Tryz.func251.trans (congrArg some (by kernel_rfl))⟩
 f7 := Tryz.func314.trans (congrArg some (by kernel_rfl))
 t4 := Tryz.underlying4
 a4 := Tryz.isAgg4
 z4 := Tryz.sizeOf4
 v4 := Tryz.zeroValue4
 t20 := Tryz.underlying20
 a20 := Tryz.isAgg20
 z20 := Tryz.sizeOf20
 v20 := Tryz.zeroValue20
 t23 := Tryz.underlying265
 a23 := Tryz.isAgg265
 z23 := Tryz.sizeOf265
 v23 := Tryz.zeroValue265 }
def delN_ren : Go.Shelf.Ren := ⟨fun | 5 => 254 | n => n, fun | 23 => 265 | 26 => 9 | 24 => 3 | 27 => 335 | 0 => 0 | 4 => 4 | n => n, fun | n => n⟩
theorem delN : Go.Proofs.SlLaysDf.n5 Tryz.prog delN_ren := {
 mixed := by kernel_rfl
 f5 := ⟨Tryz.f254.name, by decide, Tryz.func254.trans (congrArg some (by kernel_rfl))⟩
 t0 := Tryz.underlying0
 a0 := Tryz.isAgg0
 z0 := Tryz.sizeOf0
 v0 := Tryz.zeroValue0
 t4 := Tryz.underlying4
 a4 := Tryz.isAgg4
 z4 := Tryz.sizeOf4
 v4 := Tryz.zeroValue4
 t23 := Tryz.underlying265
 a23 := Tryz.isAgg265
 z23 := Tryz.sizeOf265
 v23 := Tryz.zeroValue265
 a24 := Tryz.isAgg3
 z24 := Tryz.sizeOf3
 a26 := Tryz.isAgg9
 z26 := Tryz.sizeOf9
 t27 := Tryz.underlying335
 a27 := Tryz.isAgg335
 z27 := Tryz.sizeOf335
 v27 := Tryz.zeroValue335 }
end Go.Proofs.YtijjhfkgbmckkaaGreatDoor
/-
  PROVED HERE: plain lemmas on lists of keys and what stands at them, in the keys' order; no program is in sight; no condition.
-/
namespace Go.Proofs.YtijjhfkgbmckkaaGreatDoor
class Ord2 (κ : Type) extends LT κ where
 dec : (a b : κ) → Decidable (a < b)
 deq : DecidableEq κ
 irr : ∀ a : κ, ¬ a < a
 tra : ∀ {a b c : κ}, a < b → b < c → a < c
 tri : ∀ a b : κ, a < b ∨ a = b ∨ b < a
instance {κ : Type} [Ord2 κ] (a b : κ) : Decidable (a < b) := Ord2.dec a b
instance (priority := low) {κ : Type} [Ord2 κ] : DecidableEq κ := Ord2.deq
instance : Ord2 Int where
 dec := fun a b => inferInstance
 deq := inferInstance
 irr := Int.lt_irrefl
 tra := Int.lt_trans
 tri := fun a b => by omega
instance : Ord2 (List UInt8) where
 dec := fun a b => inferInstance
 deq := inferInstance
 irr := List.lt_irrefl
 tra := List.lt_trans
 tri := fun a b => by
  by_cases h1 : a < b
  ·exact .inl h1
  ·by_cases h2 : b < a
   ·exact .inr (.inr h2)
   ·exact .inr (.inl (List.le_antisymm (List.not_lt.1 h2) (List.not_lt.1 h1)))
def Rising {κ α : Type} [Ord2 κ] (l : List (κ × α)) : Prop := l.Pairwise fun x y => x.1 < y.1
def getK {κ α : Type} [Ord2 κ] (l : List (κ × α)) (k : κ) : Option α := match l with
 | [] => none
 | (a, x) :: r => if a = k then some x else getK r k
def putK {κ α : Type} [Ord2 κ] (k : κ) (v : α) : List (κ × α) → List (κ × α)
 | [] => [(k, v)]
 | (a, x) :: r => if k < a then (k, v) :: (a, x) :: r else if a = k then (k, v) :: r else (a, x) :: putK k v r
def delK {κ α : Type} [Ord2 κ] (k : κ) (l : List (κ × α)) : List (κ × α) := l.filter fun p => decide (p.1 ≠ k)
section
variable {κ α : Type} [Ord2 κ] {l : List (κ × α)} {k j : κ} {v : α}
theorem getK_put : getK (putK k v l) j = if j = k then some v else getK l j := by
 induction l with
 | nil => simp only [putK, getK]; by_cases h : k = j <;> simp [h, eq_comm]
 | cons p r ih =>
  obtain ⟨a, x⟩ := p
  unfold putK
  split
  ·by_cases h : k = j
   ·subst h; simp [getK]
   ·rw [if_neg (fun e => h e.symm)]; simp [getK, h]
  ·split
   ·rename_i h; subst h
    by_cases h : a = j
    ·subst h; simp [getK]
    ·rw [if_neg (fun e => h e.symm)]; simp [getK, h]
   ·rename_i h1 h2
    simp only [getK, ih]
    by_cases h : a = j
    ·subst h; rw [if_pos rfl, if_neg h2, if_pos rfl]
    ·rw [if_neg h, if_neg h]
theorem getK_del : getK (delK k l) j = if j = k then none else getK l j := by
 induction l with
 | nil => simp [delK, getK]
 | cons p r ih =>
  obtain ⟨a, x⟩ := p
  unfold delK at ih ⊢
  rw [List.filter_cons]
  by_cases h : a = k
  ·subst h
   simp only [ne_eq, not_true_eq_false, decide_false, Bool.false_eq_true, if_false]
   rw [ih]
   by_cases h2 : j = a
   ·rw [if_pos h2, if_pos h2]
   ·rw [if_neg h2, if_neg h2]; show _ = if a = j then some x else getK r j; rw [if_neg (fun e => h2 e.symm)]
  ·have : decide (a ≠ k) = true := by simp [h]
   simp only [this, if_true]
   simp only [getK, ih]
   by_cases h2 : a = j
   ·subst h2; rw [if_pos rfl, if_neg h, if_pos rfl]
   ·rw [if_neg h2, if_neg h2]
theorem mem_putK {p : κ × α} (h : p ∈ putK k v l) : p = (k, v) ∨ p ∈ l := by
 induction l with
 | nil => simpa [putK] using h
 | cons q r ih =>
  obtain ⟨a, x⟩ := q
  unfold putK at h
  split at h
  ·simpa using h
  ·split at h
   ·rcases List.mem_cons.1 h with h | h
    ·exact .inl h
    ·exact .inr (List.mem_cons_of_mem _ h)
   ·rcases List.mem_cons.1 h with h | h
    ·exact .inr (by rw [h]; exact List.mem_cons_self ..)
    ·exact (ih h).imp id (List.mem_cons_of_mem _)
theorem Rising.put (h : Rising l) : Rising (putK k v l) := by
 induction l with
 | nil => simp [putK, Rising]
 | cons q r ih =>
  obtain ⟨a, x⟩ := q
  have h1 := List.pairwise_cons.1 h
  unfold putK
  split
  ·rename_i hk
   refine List.pairwise_cons.2 ⟨fun p hp => ?_, h⟩
   rcases List.mem_cons.1 hp with rfl | hp
   ·exact hk
   ·exact Ord2.tra hk (h1.1 p hp)
  ·split
   ·rename_i hk; subst hk
    exact List.pairwise_cons.2 ⟨h1.1, h1.2⟩
   ·rename_i h2 h3
    refine List.pairwise_cons.2 ⟨fun p hp => ?_, ih h1.2⟩
    rcases mem_putK hp with rfl | hp
    ·exact ((Ord2.tri a k).resolve_right (fun q => q.elim h3 h2))
    ·exact h1.1 p hp
theorem Rising.del (h : Rising l) : Rising (delK k l) := List.Pairwise.filter _ h
theorem getK_mem {x : α} (h : getK l k = some x) : (k, x) ∈ l := by
 induction l with
 | nil => cases h
 | cons q r ih =>
  obtain ⟨a, y⟩ := q
  unfold getK at h
  split at h
  ·rename_i e; subst e; injection h with h; subst h; exact List.mem_cons_self ..
  ·exact List.mem_cons_of_mem _ (ih h)
theorem Rising.get (h : Rising l) {x : α} (hm : (k, x) ∈ l) : getK l k = some x := by
 induction l with
 | nil => cases hm
 | cons q r ih =>
  obtain ⟨a, y⟩ := q
  have h1 := List.pairwise_cons.1 h
  unfold getK
  rcases List.mem_cons.1 hm with e | hm
  ·injection e with e1 e2; subst e1; subst e2; rw [if_pos rfl]
  ·have := h1.1 _ hm
   rw [if_neg (by intro e; subst e; exact Ord2.irr _ this)]
   exact ih h1.2 hm
theorem Rising.ext {l' : List (κ × α)} (h : Rising l) (h' : Rising l') (he : ∀ k, getK l k = getK l' k) : l = l' := by
 induction l generalizing l' with
 | nil =>
  cases l' with
  | nil => rfl
  | cons q r => obtain ⟨a, y⟩ := q; have := he a; simp [getK] at this
 | cons p r ih =>
  obtain ⟨a, x⟩ := p
  cases l' with
  | nil => have := he a; simp [getK] at this
  | cons q r' =>
   obtain ⟨b, y⟩ := q
   have h1 := List.pairwise_cons.1 h
   have h1' := List.pairwise_cons.1 h'
   have hab : a = b := by
    have ha := he a
    have hb := he b
    simp only [getK, if_true] at ha hb
    by_cases e : b = a
    ·exact e.symm
    ·rw [if_neg e] at ha
     have e1 : ¬ a = b := fun q => e q.symm
     rw [if_neg e1] at hb
     have g1 : b < a := h1'.1 _ (getK_mem ha.symm)
     have g2 : a < b := h1.1 _ (getK_mem hb)
     exact absurd (Ord2.tra g1 g2) (Ord2.irr _)
   subst hab
   have hxy : x = y := by have := he a; simpa [getK] using this
   subst hxy
   congr 1
   refine ih h1.2 h1'.2 fun k => ?_
   by_cases e : a = k
   ·subst e
    have n1 : getK r a = none := by
     cases hg : getK r a with
     | none => rfl
     | some z => exact absurd (h1.1 _ (getK_mem hg)) (Ord2.irr _)
    have n2 : getK r' a = none := by
     cases hg : getK r' a with
     | none => rfl
     | some z => exact absurd (h1'.1 _ (getK_mem hg)) (Ord2.irr _)
    rw [n1, n2]
   ·have := he k
    simpa [getK, e] using this
theorem getK_filter {P : κ → Bool} : getK (l.filter fun p => P p.1) j = if P j then getK l j else none := by
 induction l with
 | nil => simp [getK]
 | cons p r ih =>
  obtain ⟨a, x⟩ := p
  rw [List.filter_cons]
  by_cases h : P a
  ·rw [if_pos h]
   show (if a = j then some x else getK (r.filter fun p => P p.1) j) = if P j then (if a = j then some x else getK r j) else none
   rw [ih]
   by_cases e : a = j
   ·subst e; rw [if_pos rfl, if_pos rfl, if_pos h]
   ·rw [if_neg e, if_neg e]
  ·rw [if_neg h, ih]
   show _ = if P j then (if a = j then some x else getK r j) else none
   by_cases e : a = j
   ·subst e; rw [if_neg h, if_neg h]
   ·rw [if_neg e]
theorem Rising.filter (h : Rising l) (P : κ × α → Bool) : Rising (l.filter P) := List.Pairwise.filter _ h
theorem Rising.len_le {l' : List (κ × α)} (h : Rising l) (h' : Rising l') {P : κ → Bool} (he : ∀ k, getK l' k = if P k then getK l k else none) : l'.length ≤ l.length := by
 have : l' = l.filter fun p => P p.1 := h'.ext (h.filter _) fun k => by rw [he k, getK_filter]
 rw [this]
 exact List.length_filter_le _ _
end
end Go.Proofs.YtijjhfkgbmckkaaGreatDoor
/-
  PROVED HERE: maps in memory that hold just what a list in the keys' order says: how they are looked up, written, deleted from, counted; conditions: keys that a machine holds.
-/
namespace Go.Proofs.YtijjhfkgbmckkaaGreatDoor
open Go.RowKit
open Go.Maps (Keyed)
open Go.WideMaps (keyOf_string_mk)
class KeyL (κ : Type) extends Ord2 κ where
 lit : κ → Lit
 val : κ → Value
 wf : κ → Prop
 kt : TypeId
 same : ∀ x : κ, (lit x).sameKey (lit x) = true
 inj : ∀ {a b : κ}, lit a = lit b → a = b
 keyed : Keyed Tryz.prog kt
 lits : ∀ {v : Value} {kl : Lit}, keyOf Tryz.prog kt v = some kl → ∃ x, kl = lit x
 key : ∀ {x : κ}, wf x → keyOf Tryz.prog kt (val x) = some (lit x)
instance : KeyL Int where
 lit := .int .i64
 val := .int .i64
 wf := fun k => (Lit.int .i64 k).wf = true
 kt := 3
 same := fun x => by simp [Lit.sameKey]
 inj := fun h => by injection h
 keyed := keyI
 lits := fun h => by obtain ⟨x, _, h2, _⟩ := Maps.keyOf_i64 Tryz.underlying3 h; exact ⟨x, h2⟩
 key := fun h => keyOfI h
theorem keyS : Keyed Tryz.prog 9 := Maps.string_keyed Tryz.underlying9
theorem keyOfS {nm : List UInt8} (h : nm.length ≤ 9223372036854775807) : keyOf Tryz.prog 9 (.string (strOf nm)) = some (.string nm) :=
 keyOf_string_mk (P := Tryz.prog) Tryz.underlying9 (s := strOf nm) (by show nm.toArray.size ≤ maxLen; rw [List.size_toArray]; exact h)
instance : KeyL (List UInt8) where
 lit := .string
 val := fun nm => .string (strOf nm)
 wf := fun nm => nm.length ≤ 9223372036854775807
 kt := 9
 same := fun x => by simp [Lit.sameKey]
 inj := fun h => by injection h
 keyed := keyS
 lits := fun h => by obtain ⟨x, _, h2, _⟩ := Maps.keyOf_str Tryz.underlying9 h; exact ⟨x, h2⟩
 key := fun h => keyOfS h
section
variable {κ α : Type} [KeyL κ] {w w' : World} {bm : Nat} {f : κ → α → Value} {l : List (κ × α)} {F : Nat → Prop} {E : DataW Value}
def ShowsK (E : DataW Value) (f : κ → α → Value) (l : List (κ × α)) : Prop :=
 ∀ k, (getK l k = none → Maps.has E (KeyL.lit k) = false) ∧ ∀ x, getK l k = some x → Maps.has E (KeyL.lit k) = true ∧ ∀ zd, E.atKey (KeyL.lit k) zd = .held (f k x)
def MapIs (w : World) (bm : Nat) (f : κ → α → Value) (l : List (κ × α)) : Prop := Rising l ∧ ∃ E : DataW Value, w.ownsMap Tryz.prog (KeyL.kt κ) heldR bm l.length E ∧ ShowsK E f l
theorem MapIs.lt (h : MapIs w bm f l) : bm < w.heap.size := by obtain ⟨_, E, h1, _⟩ := h; exact h1.lt
theorem MapIs.keep (h : MapIs w bm f l) (hk : Keep F w w') (hF : F bm) : MapIs w' bm f l := by
 obtain ⟨h0, E, h1, h2⟩ := h
 refine ⟨h0, E, ?_, h2⟩
 have hlt := h1.lt
 obtain ⟨es, clock, hb, rest⟩ := h1
 exact ⟨es, clock, (hk.block bm hlt hF).trans hb, rest⟩
theorem MapIs.new (h : MapIs w bm f l) (hk : New w w') : MapIs w' bm f l := h.keep hk trivial
theorem MapIs.made (w : World) (f : κ → α → Value) : MapIs (w.alloc (.map #[] 0)) w.heap.size f [] := ⟨List.Pairwise.nil, .map [], World.ownsMap_made w _ _ _, fun k => ⟨fun _ => rfl, fun x hx => by cases hx⟩⟩
theorem MapIs.fn {g : κ → α → Value} (h : MapIs w bm f l) (hg : ∀ k x, getK l k = some x → f k x = g k x) : MapIs w bm g l := by
 obtain ⟨h0, E, h1, h2⟩ := h
 exact ⟨h0, E, h1, fun k => ⟨(h2 k).1, fun x hx => ⟨((h2 k).2 x hx).1, fun zd => by rw [((h2 k).2 x hx).2 zd, hg k x hx]⟩⟩⟩
theorem own_exact {P : Program} {k : TypeId} {n : Nat} (h : w.ownsMap P k heldR bm n E) : w.ownsMap P k heldR bm (Maps.size E) E := by
 obtain ⟨es, clock, hb, hf, hs, rfl⟩ := h
 refine ⟨es, clock, hb, hf, ?_, rfl⟩
 show es.size ≤ List.length _
 rw [length_sorted]
 simp
theorem shows_size {n : Nat} (hown : w.ownsMap Tryz.prog (KeyL.kt κ) heldR bm n E) (hs : ShowsK E f l) (hr : Rising l) : Maps.size E = l.length := by
 obtain ⟨es, hD, hpw, _⟩ := hown.entries KeyL.keyed
 obtain ⟨es', hD', hko⟩ := hown.keysOf
 obtain rfl : es = es' := by rw [hD] at hD'; simpa using hD'
 subst hD
 have n1 : (es.map (·.1)).Nodup := List.pairwise_map.2 (hpw.imp fun h => h)
 have n2 : (l.map fun p => KeyL.lit p.1).Nodup := List.pairwise_map.2 (hr.imp fun {a b} h e => by have := KeyL.inj e; rw [this] at h; exact Ord2.irr _ h)
 have hp : (es.map (·.1)).Perm (l.map fun p => KeyL.lit p.1) := (List.perm_ext_iff_of_nodup n1 n2).2 fun y => by
  constructor
  ·intro hy
   obtain ⟨p, hp, rfl⟩ := List.mem_map.1 hy
   obtain ⟨v, hv⟩ := hko p hp
   obtain ⟨x, hx⟩ := KeyL.lits hv
   have hh : Maps.has (.map es) (KeyL.lit x) = true := by rw [Maps.has_eq, List.any_eq_true]; exact ⟨p, hp, by rw [hx]; exact KeyL.same x⟩
   cases hg : getK l x with
   | none => rw [(hs x).1 hg] at hh; cases hh
   | some z => exact List.mem_map.2 ⟨(x, z), getK_mem hg, hx.symm⟩
  ·intro hy
   obtain ⟨p, hp, rfl⟩ := List.mem_map.1 hy
   have hh := ((hs p.1).2 p.2 (hr.get hp)).1
   rw [Maps.has_eq, List.any_eq_true] at hh
   obtain ⟨z, hz, hzz⟩ := hh
   exact List.mem_map.2 ⟨z, hz, WideAt.sameKey_eq hzz⟩
 have := hp.length_eq
 rw [List.length_map, List.length_map] at this
 exact this
theorem heldR_inj {v d : Value} {ps : List MemPlace} (h : heldR v = some (.held d, ps)) : v = d := by
 simp only [heldR, Option.some.injEq, Prod.mk.injEq, DataW.held.injEq] at h
 exact h.1
theorem own_shows {n : Nat} (hown : w.ownsMap Tryz.prog (KeyL.kt κ) heldR bm n E) (hs : ShowsK E f l) (hr : Rising l) : MapIs w bm f l := by
 have := own_exact hown
 rw [shows_size hown hs hr] at this
 exact ⟨hr, E, this, hs⟩
variable {t e : TypeId}
theorem MapIs.look (h : MapIs w bm f l) (ht : Tryz.prog.underlying t = some (.map (KeyL.kt κ) e)) {z : Value} (hz : (zeroValue e).run Tryz.prog w = .ok z w) {k : κ} (hk : KeyL.wf k) :
  (Instr.lookup t (.map (some bm)) (KeyL.val k) true).run Tryz.prog w = .ok (.tuple #[(getK l k).elim z (f k), .bool (getK l k).isSome]) w ∧
  (Instr.lookup t (.map (some bm)) (KeyL.val k) false).run Tryz.prog w = .ok ((getK l k).elim z (f k)) w := by
 obtain ⟨h0, E, h1, h2⟩ := h
 obtain ⟨v, ps, hrun, hv⟩ := h1.look_ok KeyL.keyed ht hz (zd := .held z) (zp := []) rfl (KeyL.key hk)
 obtain ⟨v', ps', hrun', hv'⟩ := h1.lookup KeyL.keyed ht hz (zd := .held z) (zp := []) rfl (KeyL.key hk)
 rw [hrun, hrun']
 cases hg : getK l k with
 | none =>
  have g := (h2 k).1 hg
  rw [g]
  rw [Maps.atKey_of_not_has g] at hv hv'
  have e1 : v = z := heldR_inj hv
  have e2 : v' = z := heldR_inj hv'
  rw [e1, e2]
  exact ⟨rfl, rfl⟩
 | some x =>
  obtain ⟨g, ga⟩ := (h2 k).2 x hg
  rw [g]
  rw [ga] at hv hv'
  have e1 : v = f k x := heldR_inj hv
  have e2 : v' = f k x := heldR_inj hv'
  rw [e1, e2]
  exact ⟨rfl, rfl⟩
theorem MapIs.len (h : MapIs w bm f l) (ht : Tryz.prog.underlying t = some (.map (KeyL.kt κ) e)) (ty : TypeId) : (Builtin.len_ #[t] ty #[.map (some bm)]).run Tryz.prog w = .ok (.int .i64 l.length) w := by
 obtain ⟨h0, E, h1, h2⟩ := h
 rw [← shows_size h1 h2 h0]
 exact h1.len ht ty
theorem keep_turned {b : Nat} (h : w.mapTurned w' b) : Keep (fun i => i ≠ b) w w' ∧ w'.heap.size = w.heap.size := by
 have hg := h.grown
 refine ⟨⟨hg.os, hg.tape, hg.output, hg.size, fun j hj hd => hg.block j hj (fun e => hd (by injection e))⟩, ?_⟩
 obtain ⟨es, clock, es', clock', _, rfl⟩ := h
 simp [ChangeMaps.setBlock]
theorem MapIs.store (h : MapIs w bm f l) (ht : Tryz.prog.underlying t = some (.map (KeyL.kt κ) e)) (hn : l.length < 1000000) {k : κ} (hk : KeyL.wf k) (x : α) :
  ∃ w', (Instr.mapUpdate t (.map (some bm)) (KeyL.val k) (f k x)).run Tryz.prog w = .ok () w' ∧ MapIs w' bm f (putK k x l) ∧ Keep (fun i => i ≠ bm) w w' ∧ w'.heap.size = w.heap.size := by
 obtain ⟨h0, E, h1, h2⟩ := h
 obtain ⟨w', hrun, hown, ht2⟩ := h1.store KeyL.keyed ht (by unfold maxLen; omega) (KeyL.key hk) (val := f k x) rfl
 obtain ⟨g1, g2⟩ := keep_turned ht2
 refine ⟨w', hrun, own_shows hown ?_ h0.put, g1, g2⟩
 ·intro j
  have hkey : WideAt.IsKeyLit (KeyL.lit k) := KeyL.keyed.key (KeyL.key hk)
  rw [getK_put]
  by_cases e : j = k
  ·subst e
   rw [if_pos rfl]
   refine ⟨fun h => (by cases h), fun y hy => ?_⟩
   injection hy with hy
   subst hy
   exact ⟨Maps.has_put_same h1.isMap hkey _, fun zd => Maps.atKey_put_same h1.isMap hkey _ zd⟩
  ·rw [if_neg e]
   have hne : (KeyL.lit j : Lit) ≠ KeyL.lit k := fun q => e (KeyL.inj q)
   refine ⟨fun hg => by rw [Maps.has_put_other hne]; exact (h2 j).1 hg, fun y hy => ?_⟩
   obtain ⟨g3, g4⟩ := (h2 j).2 y hy
   exact ⟨by rw [Maps.has_put_other hne]; exact g3, fun zd => by rw [Maps.atKey_put_other hne]; exact g4 zd⟩
theorem MapIs.drop (h : MapIs w bm f l) (ht : Tryz.prog.underlying t = some (.map (KeyL.kt κ) e)) {k : κ} (hk : KeyL.wf k) :
  ∃ w', (∀ ty, (Builtin.delete_ #[t, KeyL.kt κ] ty #[.map (some bm), KeyL.val k]).run Tryz.prog w = .ok (.tuple #[]) w') ∧ MapIs w' bm f (delK k l) ∧ Keep (fun i => i ≠ bm) w w' ∧ w'.heap.size = w.heap.size := by
 obtain ⟨h0, E, h1, h2⟩ := h
 obtain ⟨w', hrun, hown, ht2⟩ := h1.drop KeyL.keyed ht (KeyL.key hk) 0
 obtain ⟨g1, g2⟩ := keep_turned ht2
 refine ⟨w', fun ty => hrun, own_shows hown ?_ h0.del, g1, g2⟩
 intro j
 rw [getK_del]
 by_cases e : j = k
 ·subst e
  rw [if_pos rfl]
  exact ⟨fun _ => Maps.has_del_same, fun y hy => by cases hy⟩
 ·rw [if_neg e]
  have hne : (KeyL.lit j : Lit) ≠ KeyL.lit k := fun q => e (KeyL.inj q)
  refine ⟨fun hg => by rw [Maps.has_del_other hne]; exact (h2 j).1 hg, fun y hy => ?_⟩
  obtain ⟨g3, g4⟩ := (h2 j).2 y hy
  exact ⟨by rw [Maps.has_del_other hne]; exact g3, fun zd => by rw [Maps.atKey_del_other hne]; exact g4 zd⟩
end
end Go.Proofs.YtijjhfkgbmckkaaGreatDoor
/-
  PROVED HERE: plain lemmas on trees in memory: whose blocks they are (colours), their items, their names; no program is in sight but for numbers of types.
-/
namespace Go.Proofs.YtijjhfkgbmckkaaGreatDoor
open Go.RowKit
/-! ### trees -/
structure NodeP where
 kind : Int
 links : Int
 size : Int
 till : Int
 shut : Bool
structure ItemP where
 n : NodeP
 b : List UInt8
 names : List (List UInt8 × Int)
abbrev TreeP := List (Int × ItemP)
/-! ### whose a block is: its colour; 0: nobody turns it -/
abbrev Col := Nat → Nat
def Ext (w : World) (c c' : Col) : Prop := ∀ b, b < w.heap.size → c' b = c b
section
variable {w w' w2 : World} {c c' c2 : Col} {i : Nat}
theorem Ext.refl (w : World) (c : Col) : Ext w c c := fun _ _ => rfl
theorem Ext.trans (h : Ext w c c') (h' : Ext w' c' c2) (hz : w.heap.size ≤ w'.heap.size) : Ext w c c2 := fun b hb => (h' b (Nat.lt_of_lt_of_le hb hz)).trans (h b hb)
def Col.on (c : Col) (n : Nat) (f : Col) : Col := fun b => if b < n then c b else f b
theorem Col.on_ext (c : Col) (w : World) (f : Col) : Ext w c (c.on w.heap.size f) := fun b hb => by unfold Col.on; rw [if_pos hb]
theorem Col.on_new (c : Col) {n : Nat} (f : Col) {b : Nat} (hb : n ≤ b) : c.on n f b = f b := by unfold Col.on; rw [if_neg (by omega)]
theorem Col.on_old (c : Col) {n : Nat} (f : Col) {b : Nat} (hb : b < n) : c.on n f b = c b := by unfold Col.on; rw [if_pos hb]
end
abbrev NamesAt (w : World) (nb : Nat) (l : List (List UInt8 × Int)) : Prop := MapIs w nb (fun _ (id : Int) => .int .i64 id) l
structure ItemAt (w : World) (c : Col) (i : Nat) (bi nb : Nat) (id : Int) (it : ItemP) : Prop where
 col : c bi = i
 cells : ∃ A cp, w.heap[bi]? = some (.cells #[.int .i64 id, .int .i64 it.n.kind, .int .i64 it.n.links, .int .i64 it.n.size, .int .u64 it.n.till, .bool it.n.shut, .slice A it.b.length cp, .map (if it.n.kind = 2 then some nb else none)] 267 (0, 0)) ∧
  it.b.length ≤ cp ∧ cp ≤ 9223372036854775807 ∧ Bs w (fun b => c b = 0) A it.b.length it.b
 names : it.n.kind = 2 → c nb = i ∧ NamesAt w nb it.names
 bare : it.n.kind ≠ 2 → it.names = []
structure TreeB where
 bm : Nat
 β : Int → Nat
 γ : Int → Nat
structure TreeAt (w : World) (c : Col) (i : Nat) (bt : Nat) (q : TreeB) (T : TreeP) : Prop where
 tree : w.heap[bt]? = some (.cells #[.map (some q.bm)] 270 (0, 0))
 own : MapIs w q.bm (fun (k : Int) (_ : ItemP) => .pointer (some ⟨q.β k, 0, none⟩)) T
 item : ∀ k it, getK T k = some it → ItemAt w c i (q.β k) (q.γ k) k it
 col : c bt = i ∧ c q.bm = i
 inj : ∀ k k' it it', getK T k = some it → getK T k' = some it' → k ≠ k' → q.β k ≠ q.β k' ∧ (it.n.kind = 2 → it'.n.kind = 2 → q.γ k ≠ q.γ k')
 far : ∀ k it, getK T k = some it → it.n.kind = 2 → q.γ k ≠ q.bm
section
variable {w w' : World} {c c' : Col} {i bt bi nb : Nat} {q : TreeB} {T : TreeP} {l : List (List UInt8 × Int)} {id : Int} {it : ItemP} {F : Nat → Prop}
theorem ItemAt.lt (h : ItemAt w c i bi nb id it) : bi < w.heap.size := by obtain ⟨A, cp, h1, _⟩ := h.cells; exact (Array.getElem?_eq_some_iff.1 h1).1
theorem ItemAt.keepB (h : ItemAt w c i bi nb id it) (hk : Keep F w w') (hx : Ext w c c') (hbi : F bi) (hnb : it.n.kind = 2 → F nb) (h0 : ∀ b, b < w.heap.size → c b = 0 → F b) : ItemAt w' c' i bi nb id it := by
 have hlt := h.lt
 obtain ⟨A, cp, h1, h2, h3, h4⟩ := h.cells
 refine ⟨(hx _ hlt).trans h.col, ⟨A, cp, (hk.block bi hlt hbi).trans h1, h2, h3, (h4.imp (E := fun b => c b = 0 ∧ c' b = 0) fun b hb hd => ⟨hd, (hx b hb).trans hd⟩).keep hk (fun b hb hd => h0 b hb hd.1) |>.imp fun b _ hd => hd.2⟩, fun hd => ?_, h.bare⟩
 obtain ⟨g1, g2⟩ := h.names hd
 exact ⟨(hx _ g2.lt).trans g1, g2.keep hk (hnb hd)⟩
theorem ItemAt.keep (h : ItemAt w c i bi nb id it) (hk : Keep F w w') (hx : Ext w c c') (hF : ∀ b, b < w.heap.size → c b = i ∨ c b = 0 → F b) : ItemAt w' c' i bi nb id it := by
 exact h.keepB hk hx (hF _ h.lt (.inl h.col)) (fun hd => hF _ (h.names hd).2.lt (.inl (h.names hd).1)) fun b hb hc => hF b hb (.inr hc)
theorem ItemAt.notMap (h : ItemAt w c i bi nb id it) {α κ : Type} [KeyL κ] {b : Nat} {f : κ → α → Value} {L : List (κ × α)} (hm : MapIs w b f L) : bi ≠ b := by
 obtain ⟨A, cp, h1, _⟩ := h.cells
 obtain ⟨_, E, ⟨es, clock, h2, _⟩, _⟩ := hm
 intro e
 rw [e, h2] at h1
 injection h1 with h1
 cases h1
theorem TreeAt.ltT (h : TreeAt w c i bt q T) : bt < w.heap.size := (Array.getElem?_eq_some_iff.1 h.tree).1
theorem TreeAt.ltM (h : TreeAt w c i bt q T) : q.bm < w.heap.size := h.own.lt
theorem TreeAt.keep (h : TreeAt w c i bt q T) (hk : Keep F w w') (hx : Ext w c c') (hF : ∀ b, b < w.heap.size → c b = i ∨ c b = 0 → F b) : TreeAt w' c' i bt q T := by
 exact ⟨(hk.block bt h.ltT (hF _ h.ltT (.inl h.col.1))).trans h.tree, h.own.keep hk (hF _ h.ltM (.inl h.col.2)), fun k it hg => (h.item k it hg).keep hk hx hF, ⟨(hx _ h.ltT).trans h.col.1, (hx _ h.ltM).trans h.col.2⟩, h.inj, h.far⟩
theorem TreeAt.new (h : TreeAt w c i bt q T) (hk : New w w') : TreeAt w' c i bt q T := h.keep hk (Ext.refl _ _) fun _ _ _ => trivial
theorem TreeAt.other {j : Nat} (h : TreeAt w c i bt q T) (hk : Keep (fun b => c b ≠ j) w w') (hx : Ext w c c') (hi : i ≠ j) (h0 : j ≠ 0) : TreeAt w' c' i bt q T :=
 h.keep hk hx fun b _ hc => hc.elim (fun e => by rw [e]; exact hi) (fun e => by rw [e]; exact h0.symm)
end
end Go.Proofs.YtijjhfkgbmckkaaGreatDoor
/-
  PROVED HERE: what maps.Clone, slices.Sorted of maps.Keys answer at the trees' maps: by the kit's contracts; conditions: fewer than 1000000 entries.
-/
namespace Go.Proofs.YtijjhfkgbmckkaaGreatDoor
open Go.RowKit Go.Maps Go.Sort Go.Shelf
section
variable {w w' : World} {nb bm : Nat} {c : Col} {i bt : Nat} {q : TreeB} {T : TreeP}
theorem new_of_below (h : Below w.heap.size w w') : New w w' := ⟨h.os, h.tape, h.output, h.size, fun k hk _ => h.block k hk⟩
theorem cloneN_any {l : List (List UInt8 × Int)} (h : NamesAt w nb l) :
  Calls Tryz.prog 251 #[.map (some nb)] w fun e w' => e = .returned (.map (some w.heap.size)) ∧ New w w' ∧ w.heap.size < w'.heap.size ∧ NamesAt w' w.heap.size l := by
 obtain ⟨h0, E, h1, h2⟩ := h
 refine (AnyW.maps_Clone_owns cloneN _ heldR nb _ E w h1).mono ?_
 rintro e w' ⟨he, ho, _, hb⟩
 exact ⟨he, new_of_below hb, ho.lt, h0, E, ho, h2⟩
theorem cloneN_nil (w : World) : Calls Tryz.prog 251 #[.map none] w fun e w' => e = .returned (.map none) ∧ w = w' :=
 (AnyW.maps_Clone_nil cloneN w).mono fun _e _w' ⟨he, hw⟩ => ⟨he, hw.symm⟩
/-! ### keys -/
theorem sortsI (m : Nat) : AnyZI.SortsIn Tryz.prog sortedI_ren Fence.wide m :=
 ⟨fun blk off cap ss W hH hblk hsz => callsIn_wide.2 (AnyM.slices_Sort_int sortI blk off cap ss W hH hblk hsz), fun p cap W => callsIn_wide.2 (AnyM.slices_Sort_int_none sortI p cap W)⟩
theorem sortsN (m : Nat) : AnyZ.SortsIn Tryz.prog sortedN_ren Fence.wide m :=
 ⟨fun blk off cap ss W hH hblk hsz => callsIn_wide.2 (AnyM.slices_Sort_string sortN blk off cap ss W hH hblk hsz), fun p cap W => callsIn_wide.2 (AnyM.slices_Sort_string_none sortN p cap W)⟩
theorem keys_int {α : Type} {f : Int → α → Value} {l : List (Int × α)} {n : Nat} {E : DataW Value} (hown : w.ownsMap Tryz.prog 3 heldR bm n E) (hs : ShowsK E f l) (hr : Rising l) {ss : List Int} (hp : ss.Perm (intKeys E)) : (ss.mergeSort fun x y => decide (x ≤ y)) = l.map (·.1) := by
 obtain ⟨es, hD, hpw, _⟩ := hown.entries keyI
 obtain ⟨es', hD', hko⟩ := hown.keysOf
 obtain rfl : es = es' := by rw [hD] at hD'; simpa using hD'
 subst hD
 have h1 : (l.map (·.1)).Perm (intKeys (.map es)) := perm_intKeys hpw (fun p hp => by obtain ⟨v, hv⟩ := hko p hp; obtain ⟨x, _, hx, _⟩ := Maps.keyOf_i64 Tryz.underlying3 hv; exact ⟨x, hx⟩)
  (List.pairwise_map.2 (hr.imp fun {a b} h e => by have h : a.1 < b.1 := h; omega)) (fun x => by
   constructor
   ·intro hx
    obtain ⟨p, hp, rfl⟩ := List.mem_map.1 hx
    exact ((hs p.1).2 p.2 (hr.get hp)).1
   ·intro hx
    cases hg : getK l x with
    | none => have := (hs x).1 hg; rw [show (KeyL.lit x : Lit) = .int .i64 x from rfl] at this; rw [this] at hx; cases hx
    | some z => exact List.mem_map.2 ⟨(x, z), getK_mem hg, rfl⟩)
 have h2 := mergeSort_of_perm_i (hp.trans h1.symm)
 have h3 : (l.map (·.1)).mergeSort leI = l.map (·.1) := List.mergeSort_of_pairwise (List.pairwise_map.2 (hr.imp fun {a b} h => by have h : a.1 < b.1 := h; simp only [leI, decide_eq_true_eq]; omega))
 exact h2.trans h3
theorem keys_str {α : Type} {f : List UInt8 → α → Value} {l : List (List UInt8 × α)} {n : Nat} {E : DataW Value} (hown : w.ownsMap Tryz.prog 9 heldR bm n E) (hs : ShowsK E f l) (hr : Rising l) {ss : List (List UInt8)} (hp : ss.Perm (strKeys E)) : (ss.mergeSort fun x y => decide (x ≤ y)) = l.map (·.1) := by
 obtain ⟨es, hD, hpw, _⟩ := hown.entries keyS
 obtain ⟨es', hD', hko⟩ := hown.keysOf
 obtain rfl : es = es' := by rw [hD] at hD'; simpa using hD'
 subst hD
 have h1 : (l.map (·.1)).Perm (strKeys (.map es)) := perm_strKeys hpw (fun p hp => by obtain ⟨v, hv⟩ := hko p hp; obtain ⟨x, _, hx, _⟩ := Maps.keyOf_str Tryz.underlying9 hv; exact ⟨x, hx⟩)
  (List.pairwise_map.2 (hr.imp fun {a b} h e => by have h : a.1 < b.1 := h; rw [e] at h; exact Ord2.irr _ h)) (fun x => by
   constructor
   ·intro hx
    obtain ⟨p, hp, rfl⟩ := List.mem_map.1 hx
    exact ((hs p.1).2 p.2 (hr.get hp)).1
   ·intro hx
    cases hg : getK l x with
    | none => have := (hs x).1 hg; rw [show (KeyL.lit x : Lit) = .string x from rfl] at this; rw [this] at hx; cases hx
    | some z => exact List.mem_map.2 ⟨(x, z), getK_mem hg, rfl⟩)
 have h2 := mergeSort_of_perm (hp.trans h1.symm)
 have h3 : (l.map (·.1)).mergeSort leB = l.map (·.1) := List.mergeSort_of_pairwise (List.pairwise_map.2 (hr.imp fun {a b} h => by have h : a.1 < b.1 := h; simp only [leB, decide_eq_true_eq]; exact List.le_of_lt h))
 exact h2.trans h3
theorem own_sliceV {base e size n : Nat} {v : Value} {xs : List Value} (h : w.ownsRow base e size v n xs) : ∃ A c, v = .slice A n c := by
 rcases h.2 with ⟨h0, h2⟩ | ⟨g, cap, cur, h0, _⟩
 ·exact ⟨none, 0, by rw [h0, h2]⟩
 ·exact ⟨_, _, h0⟩
theorem sortedT_any {α : Type} {f : Int → α → Value} {l : List (Int × α)} (h : MapIs w bm f l) (hn : l.length ≤ 1000000) (B1 : Nat) (h1 : w.heap[B1]? = some (.cells #[.map (some bm)] 268 (0, 0))) :
  Calls Tryz.prog 50 #[.func (.func 315) #[] #[.pointer (some ⟨B1, 0, none⟩)]] w fun e w' => (∃ (A : Option Addr) (c : Nat), e = .returned (.slice A l.length c) ∧ Own w' w.heap.size 3 1 A l.length c (l.map fun p => .int .i64 p.1)) ∧ New w w' := by
 obtain ⟨h0, E, hown, hsh⟩ := h
 have hs := hown.size_le
 have hseq : SeqGives Fence.wide 2 Tryz.prog 315 #[.pointer (some ⟨B1, 0, none⟩)] encZ (fun ss => ss.Perm (intKeys E)) (Maps.size E) w :=
  AnyZI.keys_gives (ρ := keysT_ren) { keysT with } Fence.wide _ trivial rfl (by omega) B1 bm _ E w (Array.getElem?_eq_some_iff.1 h1).1 (cellOf h1 (k := 0) rfl) hown
 have cS := AnyZI.sorted_in sortedI Fence.wide 5 trivial trivial trivial trivial rfl (by omega) (sortsI _) (enters_of Tryz.func129 (by kernel_rfl) rfl) 315 #[.pointer (some ⟨B1, 0, none⟩)] trivial (enters_of Tryz.func315 (by kernel_rfl) rfl) _ _ (by unfold maxLen; omega) (by omega) _ hseq
 change CallsIn _ _ Tryz.prog 50 _ _ _ at cS
 refine (callsIn_wide.1 cS).mono ?_
 rintro e w' ⟨v, ss, rfl, hp, hrow, _, hb⟩
 have hk := keys_int hown hsh h0 hp
 have hl : ss.length = l.length := by have := congrArg List.length hk; rw [List.length_mergeSort, List.length_map] at this; exact this
 rw [hk, List.map_map, hl] at hrow
 obtain ⟨A, c, rfl⟩ := own_sliceV hrow
 exact ⟨⟨A, c, rfl, hrow⟩, new_of_below hb⟩
theorem sortedN_any {α : Type} {f : List UInt8 → α → Value} {l : List (List UInt8 × α)} (h : MapIs w bm f l) (hn : l.length ≤ 1000000) (B1 : Nat) (h1 : w.heap[B1]? = some (.cells #[.map (some bm)] 265 (0, 0))) :
  Calls Tryz.prog 205 #[.func (.func 293) #[] #[.pointer (some ⟨B1, 0, none⟩)]] w fun e w' => (∃ (A : Option Addr) (c : Nat), e = .returned (.slice A l.length c) ∧ Own w' w.heap.size 9 1 A l.length c (l.map fun p => .string (strOf p.1))) ∧ New w w' := by
 obtain ⟨h0, E, hown, hsh⟩ := h
 have hs := hown.size_le
 have hseq : SeqGives Fence.wide 2 Tryz.prog 293 #[.pointer (some ⟨B1, 0, none⟩)] encStr (fun ss => ss.Perm (strKeys E)) (Maps.size E) w :=
  AnyZ.keys_gives (ρ := keysN_ren) { keysN with } Fence.wide _ trivial rfl (by omega) B1 bm _ E w (Array.getElem?_eq_some_iff.1 h1).1 (cellOf h1 (k := 0) rfl) hown
 have cS := AnyZ.sorted_in sortedN Fence.wide 5 trivial trivial trivial trivial rfl (by omega) (sortsN _) (enters_of Tryz.func292 (by kernel_rfl) rfl) 293 #[.pointer (some ⟨B1, 0, none⟩)] trivial (enters_of Tryz.func293 (by kernel_rfl) rfl) _ _ (by unfold maxLen; omega) (by omega) _ hseq
 change CallsIn _ _ Tryz.prog 205 _ _ _ at cS
 refine (callsIn_wide.1 cS).mono ?_
 rintro e w' ⟨v, ss, rfl, hp, hrow, _, hb⟩
 have hk := keys_str hown hsh h0 hp
 have hl : ss.length = l.length := by have := congrArg List.length hk; rw [List.length_mergeSort, List.length_map] at this; exact this
 rw [hk, List.map_map, hl] at hrow
 obtain ⟨A, c, rfl⟩ := own_sliceV hrow
 exact ⟨⟨A, c, rfl, hrow⟩, new_of_below hb⟩
theorem keysT_any (bm : Nat) (w : World) : Calls Tryz.prog 252 #[.map (some bm)] w fun e w' => e = .returned (.func (.func 315) #[] #[.pointer (some ⟨w.heap.size, 0, none⟩)]) ∧ w' = w.alloc (.cells #[.map (some bm)] 268) := by
 go_enter Tryz.func252, Tryz.ntmps252
 go_wp2_with fail
 go_ret
 exact ⟨rfl, rfl⟩
theorem keysN_any (bm : Nat) (w : World) : Calls Tryz.prog 206 #[.map (some bm)] w fun e w' => e = .returned (.func (.func 293) #[] #[.pointer (some ⟨w.heap.size, 0, none⟩)]) ∧ w' = w.alloc (.cells #[.map (some bm)] 265) := by
 go_enter Tryz.func206, Tryz.ntmps206
 go_wp2_with fail
 go_ret
 exact ⟨rfl, rfl⟩
theorem ids_any (h : TreeAt w c i bt q T) (hn : T.length ≤ 1000000) :
  Calls Tryz.prog 156 #[.pointer (some ⟨bt, 0, none⟩)] w fun e w' => (∃ (A : Option Addr) (cp : Nat), e = .returned (.slice A T.length cp) ∧ Own w' w.heap.size 3 1 A T.length cp (T.map fun p => .int .i64 p.1)) ∧ New w w' := by
 have k1 := (New.refl w).alloc (.cells #[.map (some q.bm)] 268)
 have c0 : w.cell? ⟨bt, 0, none⟩ = some (.map (some q.bm)) := cellOf h.tree (k := 0) rfl
 have HL := Lib.hid (sortedT_any (h.own.new k1) hn _ (heap_alloc_new w _))
 have HM := Lib.hid (keysT_any q.bm w)
 clear h
 go_enter Tryz.func156, Tryz.ntmps156
 go_wp2_with fail
 refine HM.out.mono ?_
 rintro e w1 ⟨rfl, rfl⟩
 go_wp2_with fail
 refine HL.out.mono ?_
 rintro e w2 ⟨⟨A, c, rfl, ho⟩, k2⟩
 have HK := Lib.hid (And.intro ho k2)
 clear ho k2
 go_wp2_with fail
 go_ret
 exact ⟨⟨A, c, rfl, ownsRow_base_a HK.out.1 (by simp)⟩, k1.new HK.out.2⟩
end
end Go.Proofs.YtijjhfkgbmckkaaGreatDoor
