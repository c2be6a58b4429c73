/-
  PROVED HERE: texts that belong together, one behind the other; what each proves, and under which conditions, its own opening remark says: FmtPts22, RSCopy22, R10Enc22, RSave22, RCommit22, RSettle22, RSnap22, RStSave22, Same22, RNew22, Begin22, MMountBad22.
-/
import Derived.Test.YtijjhfkgbmckkaaGreatDoorPkF46
/-
  PROVED HERE: plain law: the super sector, the points and the log of a disk that is made ready, as mount.Mount sees them; condition: 64 to 1000 sectors, an id of 16 bytes.
-/
namespace Go.Proofs.YtijjhfkgbmckkaaGreatDoor
open Go.RowKit
theorem seg_left {a b : List UInt8} {n : Nat} (h : a.length = n) : (a ++ b).take n = a := by
 rw [← h, List.take_left]
theorem seg_right {a b : List UInt8} {n m : Nat} (h : a.length = n) (hm : n ≤ m) : (a ++ b).drop m = b.drop (m - n) := by
 rw [List.drop_append, List.drop_eq_nil_of_le (by omega), List.nil_append, h]
theorem seg_right' {a b : List UInt8} {n m : Nat} (h : a.length = n) (hm : n = m) : (a ++ b).drop m = b := by
 rw [seg_right h (by omega), hm, Nat.sub_self]; rfl
theorem fmt_super {k : Nat} {id : List UInt8} (h0 : 64 ≤ k) (h1 : k ≤ 4096) (hid : id.length = 16) : superOf ((fmtBytes k id).take 128) = some (k, id) := by
 unfold fmtBytes
 rw [seg_left (superBytes_length hid)]
 exact superOf_super h0 h1 hid
theorem stateNew_loads : LoadsSt stateNew := stload_of stateNew_ok (by decide) rfl committed_new tload_new sload_new (by rw [stNew_length]; decide)
theorem fmt_point0 {k : Nat} {id : List UInt8} (h0 : 64 ≤ k) (hid : id.length = 16) : pointOf (fmtBytes k id) (k / 4) 0 = fmtPoint k id 2 := by
 have hs : (superBytes (k : Int) id).length = 128 := superBytes_length hid
 have h2 := fmtPoint_length (id := id) (gen := 2) h0 (by decide) (by decide)
 unfold pointOf fmtBytes
 rw [seg_right' hs (by omega), seg_left h2]
theorem fmt_point1 {k : Nat} {id : List UInt8} (h0 : 64 ≤ k) (hid : id.length = 16) : pointOf (fmtBytes k id) (k / 4) 1 = fmtPoint k id 1 := by
 have hs : (superBytes (k : Int) id).length = 128 := superBytes_length hid
 have h2 := fmtPoint_length (id := id) (gen := 2) h0 (by decide) (by decide)
 have h1 := fmtPoint_length (id := id) (gen := 1) h0 (by decide) (by decide)
 unfold pointOf fmtBytes
 rw [seg_right hs (by omega), seg_right' h2 (by omega), seg_left h1]
theorem fmt_ok0 {k : Nat} {id : List UInt8} (h0 : 64 ≤ k) (hid : id.length = 16) (g : Nat) : PointOk (fmtBytes k id) (k / 4) g 0 (fmtMark id 2) stateNew := by
 have h := fmtMark_ok (id := id) (p := k / 4) (g := g) (gen := 2) (by decide) (by decide) (by omega)
 exact ⟨h.1, by have e : (fmtMark id 2).data.length = 51 := h.2.2; omega, fmt_point0 h0 hid, rfl, stateNew_loads⟩
theorem fmt_ok1 {k : Nat} {id : List UInt8} (h0 : 64 ≤ k) (hid : id.length = 16) (g : Nat) : PointOk (fmtBytes k id) (k / 4) g 1 (fmtMark id 1) stateNew := by
 have h := fmtMark_ok (id := id) (p := k / 4) (g := g) (gen := 1) (by decide) (by decide) (by omega)
 exact ⟨h.1, by have e : (fmtMark id 1).data.length = 51 := h.2.2; omega, fmt_point1 h0 hid, rfl, stateNew_loads⟩
theorem fmt_log {k : Nat} {id : List UInt8} (h0 : 64 ≤ k) (hid : id.length = 16) (i : Nat) : (placeOf (fmtBytes k id) (k / 4) i).take 16 = List.replicate (min 16 ((k - 1 - 2 * (k / 4)) * 128 - i * 1024)) 0 := by
 have hs : (superBytes (k : Int) id).length = 128 := superBytes_length hid
 have h2 := fmtPoint_length (id := id) (gen := 2) h0 (by decide) (by decide)
 have h1 := fmtPoint_length (id := id) (gen := 1) h0 (by decide) (by decide)
 unfold placeOf fmtBytes placeAt
 rw [seg_right hs (by omega), seg_right h2 (by omega), seg_right h1 (by omega), List.drop_replicate, List.take_replicate, List.take_replicate]
 congr 1
 omega
theorem fmt_unread {k : Nat} {id : List UInt8} (h0 : 64 ≤ k) (hid : id.length = 16) {i : Nat} (hi : i < (k - 1 - 2 * (k / 4)) / 8) : (segRead (placeOf (fmtBytes k id) (k / 4) i)).2.2 ≠ 0 :=
 no_nought _ (by rw [fmt_log h0 hid, Nat.min_eq_left (by omega)])
theorem fmt_found {k : Nat} {id : List UInt8} (h0 : 64 ≤ k) (hid : id.length = 16) (nx : Int) (hd : List UInt8) : foundIn (fmtBytes k id) (k / 4) ((k - 1 - 2 * (k / 4)) / 8 - 0) 0 nx hd = [] := by
 obtain ⟨g, hg⟩ : ∃ g, g = (k - 1 - 2 * (k / 4)) / 8 := ⟨_, rfl⟩
 rw [← hg, Nat.sub_zero]
 rcases g with _ | g
 ·rfl
 ·unfold foundIn
  rw [if_neg fun h => fmt_unread h0 hid (i := 0) (by omega) h.1]
theorem mmount_fmt {w : World} {q : DiskB} {k : Nat} {id : List UInt8} (h0 : 64 ≤ k) (h1 : k ≤ 1000) (hid : id.length = 16) (h : Clean w q (fmtBytes k id)) (c : Col) (J : Cols) (hJ : J.Ok) :
  Calls Tryz.prog 31 #[.pointer (some ⟨q.bd, 0, none⟩)] w (MountRet w c J q (fmtBytes k id) k (k / 4) ((k - 1 - 2 * (k / 4)) / 8) 0 id (fmtMark id 2) stateNew) :=
 mmount_quiet h (fmtBytes_length h0 hid) (fmt_super h0 (by omega) hid) (fmt_ok0 h0 hid _) (fmt_ok1 h0 hid _) (.inl ⟨by show (1 : Int) ≤ 2; decide, rfl, rfl⟩) rfl (by show (0 : Int) < _; decide) (fmt_found h0 hid _ _) (fun i _ hi hr => fmt_unread h0 hid hi hr.1) (by decide) (by decide) (by decide) c J hJ
/-
  PROVED HERE: what the document's snapshots' Copy answers; condition: they are not too many.
-/
theorem info2_one : (Tryz.prog.info? 209).map (fun i => (i.zero.map fun z => z.cells.size, i.size, i.bytes)) = some (some 3, 3, 40) := by kernel_rfl
set_option maxRecDepth 100000 in
set_option maxHeartbeats 2000000 in
theorem rscopy_any {w : World} {c : Col} {i bs : Nat} {ns : RSnapsP} (h : RSnapsAt w c i bs ns) (hn : ns.list.length ≤ 1000000) (j : Nat) : Calls Tryz.prog 75 #[.pointer (some ⟨bs, 0, none⟩)] w (RSnapsRet w c j ns) := by
 have hlt := h.lt
 obtain ⟨-, L, cl, A, ca, vs, h1, hcl, hca, hL, hA, hV⟩ := h
 have hvl : vs.length = ns.list.length * 3 := hA.1
 have one_vs : ∀ u ∈ vs, u.oneCell' = true := by
  intro u hu
  obtain ⟨k, hk, rfl⟩ := List.getElem_of_mem hu
  obtain ⟨A', c', b', q0, q1, q2, _⟩ := hV (k / 3) (by omega)
  have h3 : k % 3 = 0 ∨ k % 3 = 1 ∨ k % 3 = 2 := by omega
  have hg : vs[k]? = some vs[k] := List.getElem?_eq_getElem hk
  rcases h3 with h3 | h3 | h3
  ·rw [show k / 3 * 3 = k from by omega, hg] at q0; injection q0 with q0; rw [q0]; rfl
  ·rw [show k / 3 * 3 + 1 = k from by omega, hg] at q1; injection q1 with q1; rw [q1]; rfl
  ·rw [show k / 3 * 3 + 2 = k from by omega, hg] at q2; injection q2 with q2; rw [q2]; rfl
 have HR := Lib.hid (And.intro hL (And.intro hA hV))
 have HCA := Lib.hid (And.intro hcl hca)
 have c0 : ∀ W, New w.drew W → W.cell? ⟨bs, 0, none⟩ = some (.int .i64 ns.next) := fun W hW => hW.cell_some (cellOf (w := w.drew) h1 (k := 0) rfl) trivial
 have c1 : ∀ W, New w.drew W → W.cell? ⟨bs, 1, none⟩ = some (.slice L ns.last.length cl) := fun W hW => hW.cell_some (cellOf (w := w.drew) h1 (k := 1) rfl) trivial
 have c2 : ∀ W, New w.drew W → W.cell? ⟨bs, 2, none⟩ = some (.slice A ns.list.length ca) := fun W hW => hW.cell_some (cellOf (w := w.drew) h1 (k := 2) rfl) trivial
 clear hL hA hV hcl hca h1
 go_enter Tryz.func75, Tryz.ntmps75
 go_upto_region 1 with fail
 refine hold_beginS (New w.drew) (by kernel_rfl) ?_
 have n0 : New w.drew w.drew := New.refl _
 refine take0 0 n0 ?_
 refine take0 1 n0 ?_
 refine take0 2 n0 ?_
 refine take0 3 n0 ?_
 refine take0 4 n0 ?_
 refine take0 5 n0 ?_
 refine take0 6 n0 ?_
 refine take0 7 n0 ?_
 refine take0 9 n0 ?_
 refine take0 10 n0 ?_
 refine take0 11 n0 ?_
 refine take0 12 n0 ?_
 have kk := (New.refl w.drew).alloc (.cells #[] 209)
 obtain ⟨gg, hgg, ho⟩ := emp_made w.drew (base := w.heap.size) (Nat.le_refl _) 209 (size := 3) (by decide)
 injection hgg with hgg
 injection hgg with hgg
 injection hgg with hgg
 subst hgg
 refine hold_step0 (i := 8) (by kernel_rfl) rfl rfl (fun K hK => ?_)
 go_simp
 go_wp2_with fail
 refine hK.out _ _ kk ?_
 clear hK K
 try simp only [Act.put, ly1, ly2, ly3, ly4, ly5, ly6]
 have hz1 : w.heap.size ≤ (w.drew.alloc (.cells #[] 209)).heap.size := kk.size
 obtain ⟨ii, z, q1, q2, q3, q4, q5⟩ := parts2 info2_one
 refine hold_step0 (i := 13) (by kernel_rfl) rfl rfl (fun K hK => ?_)
 refine wp_append_fresh (w.drew.alloc (.cells #[] 209)) _ _ 201 rfl w.heap.size 209 ii z 3 40 Tryz.underlying201 q1 q2 q3 q4 q5 (by decide) _ rfl ho _ A ns.list.length ca _ rfl (HR.out.2.1.drew.new kk) one_vs (by unfold maxLen; omega) (by omega) hz1 ?_
 intro A2 d2 w2 o2 k2
 refine hK.out _ _ (kk.new k2) ?_
 clear hK K
 try simp only [Act.put, ly1, ly2, ly3, ly4, ly5, ly6]
 have n2 := kk.new k2
 have HO := Lib.hid o2
 refine take0 14 n2 ?_
 have k3 := (New.refl w2).alloc (.cells #[.int .i64 ns.next, .slice L ns.last.length cl, .slice A2 ns.list.length d2] 203)
 have x3 := heap_alloc_new w2 (.cells #[.int .i64 ns.next, .slice L ns.last.length cl, .slice A2 ns.list.length d2] 203)
 clear o2
 refine hold_step0 (i := 15) (by kernel_rfl) rfl rfl (fun K hK => ?_)
 go_simp
 go_wp2_with fail
 refine hK.out _ _ (n2.new k3) ?_
 clear hK K
 try simp only [Act.put, ly1, ly2, ly3, ly4, ly5, ly6]
 refine take0 16 (n2.new k3) ?_
 refine wpAnyH_done (by kernel_rfl) ?_ _
 go_wp2_with fail
 go_ret
 have kw : New w w2 := Keep.new (Keep.drew (New.refl w)) n2
 have hz : w.heap.size ≤ w2.heap.size := kw.size
 have e3 := c.on_ext w fun b => if b = w2.heap.size then j else 0
 have on0 : ∀ b, w.heap.size ≤ b → b < w2.heap.size → c.on w.heap.size (fun b => if b = w2.heap.size then j else 0) b = 0 := fun b hb hn => by rw [c.on_new _ hb, if_neg (by omega)]
 refine ⟨w2.heap.size, c.on w.heap.size fun b => if b = w2.heap.size then j else 0, rfl, kw.new k3, hz, e3, by rw [c.on_new _ hz, if_pos rfl], L, cl, A2, d2, vs, x3, HCA.out.1, ⟨own_cap HO.out, own_capMax HO.out⟩, bs_col HR.out.1 (kw.new k3) e3 fun _ _ _ => trivial, ?_, fun k hk => ?_⟩
 ·exact Row.new ((Row.of_own HO.out).imp fun b hb hd => on0 b hd hb) k3
 ·obtain ⟨A1, c1', b1, g1, g2, g3, g4, g5, g6⟩ := HR.out.2.2 k hk
  exact ⟨A1, c1', b1, g1, g2, g3, g4, bs_col g5 (kw.new k3) e3 fun _ _ _ => trivial, g6.keep (kw.new k3) e3 trivial fun _ _ _ => trivial⟩
/-
  PROVED HERE: what the document's Encode of a node answers; condition: its time is a number that Go has.
-/
theorem BytesRet.len {bs : List UInt8} {w w' : World} {e : Ending} (h : BytesRet bs w e w') {m : Nat} (hm : bs.length = m) : (∃ A' c', e = .returned (.slice A' m c') ∧ OwnB w' w.heap.size 5 A' m c' bs) ∧ New w w' := by
 subst hm; exact h
set_option maxRecDepth 100000 in
theorem flag4_any (D : Nat → Prop) (A : Option Addr) (n c : Nat) (bs : List UInt8) (b : Bool) (w : World) (hB : Bs w D A n bs) (hn : n ≤ 1099511627776) :
  Calls Tryz.prog 224 #[.slice A n c, .bool b] w (BytesRet (bs ++ flagByte b) w) := by
 cases b
 ·have HB := Lib.hid (byte4_any D A n c bs 0 w hB hn)
  have HL : Hid ((bs ++ beI 1 0).length = (bs ++ flagByte false).length) := Lib.hid rfl
  clear hB
  go_enter Tryz.func224, Tryz.ntmps224
  go_wp2_with fail
  refine HB.out.mono ?_
  rintro e w' ⟨⟨A', c', rfl, ho⟩, hk⟩
  have HF := Lib.hid (And.intro ho hk)
  generalize (bs ++ beI 1 0).length = L at *
  clear ho hk
  go_wp2_with fail
  go_ret
  exact BytesRet.mk' rfl HF.out.1 HF.out.2
 ·have HB := Lib.hid (byte4_any D A n c bs 1 w hB hn)
  clear hB
  go_enter Tryz.func224, Tryz.ntmps224
  go_wp2_with fail
  refine HB.out.mono ?_
  rintro e w' ⟨⟨A', c', rfl, ho⟩, hk⟩
  have HF := Lib.hid (And.intro ho hk)
  generalize (bs ++ beI 1 1).length = L at *
  clear ho hk
  go_wp2_with fail
  go_ret
  exact BytesRet.mk' rfl HF.out.1 HF.out.2
set_option maxRecDepth 100000 in
set_option maxHeartbeats 1000000 in
theorem r10enc_any (id : Int) (n : NodeP) (ht : 0 ≤ n.till ∧ n.till ≤ 18446744073709551615) (w : World) :
  Calls Tryz.prog 132 #[.agg #[.int .i64 id, .int .i64 n.kind, .int .i64 n.links, .int .i64 n.size, .int .u64 n.till, .bool n.shut]] w (BytesRet (nodeBytes id n) w) := by
 obtain ⟨kd, lk, sz, tl, sh⟩ := n
 dsimp only at *
 have k1 := (New.refl w).alloc (.cells #[.int .i64 id, .int .i64 kd, .int .i64 lk, .int .i64 sz, .int .u64 tl, .bool sh] 73)
 have x1 := heap_alloc_new w (.cells #[.int .i64 id, .int .i64 kd, .int .i64 lk, .int .i64 sz, .int .u64 tl, .bool sh] 73)
 go_enter Tryz.func132, Tryz.ntmps132
 go_upto_region 1 with fail
 generalize w.alloc (.cells #[.int .i64 id, .int .i64 kd, .int .i64 lk, .int .i64 sz, .int .u64 tl, .bool sh] 73) = w1 at *
 obtain ⟨g, hg⟩ : ∃ g, g = w.heap.size := ⟨_, rfl⟩
 rw [← hg] at x1 ⊢
 have HX := Lib.hid x1
 have HK1 := Lib.hid k1
 have HG := Lib.hid hg
 clear k1 x1 hg
 have r0 : ∀ W, New w1 W → W.cell? ⟨g, 0, none⟩ = some (.int .i64 id) := fun W hW => hW.cell_some (cellOf HX.out (k := 0) rfl) trivial
 have r1 : ∀ W, New w1 W → W.cell? ⟨g, 1, none⟩ = some (.int .i64 kd) := fun W hW => hW.cell_some (cellOf HX.out (k := 1) rfl) trivial
 have r2 : ∀ W, New w1 W → W.cell? ⟨g, 2, none⟩ = some (.int .i64 lk) := fun W hW => hW.cell_some (cellOf HX.out (k := 2) rfl) trivial
 refine hold_begin (by kernel_rfl) ?_
 have n0 : New w1 w1.drew := (New.refl w1).drew
 replace r0 := fun W (hW : New w1.drew W) => r0 W (Keep.new n0 hW)
 replace r1 := fun W (hW : New w1.drew W) => r1 W (Keep.new n0 hW)
 replace r2 := fun W (hW : New w1.drew W) => r2 W (Keep.new n0 hW)
 refine take1 0 ?_
 refine take1 1 ?_
 refine take1 3 ?_
 refine take1 4 ?_
 refine take1 6 ?_
 refine take1 7 ?_
 refine hold_step (i := 2) (by kernel_rfl) rfl rfl (fun K hK => ?_)
 go_simp
 refine (short4_any (fun _ => True) none 0 0 [] id _ (Row.nil _ _ _ _) (by decide)).mono ?_
 rintro e w2 h2; obtain ⟨⟨A2, c2, rfl, o2⟩, k2⟩ := BytesRet.len h2 (m := 2) (by simp [beI_length])
 go_wp2_with fail
 refine hK.out _ _ k2 ?_
 clear hK K
 try simp only [Act.put, ly1, ly2, ly3, ly4, ly5, ly6]
 replace n0 := Keep.new n0 k2
 replace r0 := fun W (hW : New w2 W) => r0 W (Keep.new k2 hW)
 replace r1 := fun W (hW : New w2 W) => r1 W (Keep.new k2 hW)
 replace r2 := fun W (hW : New w2 W) => r2 W (Keep.new k2 hW)
 refine hold_step (i := 5) (by kernel_rfl) rfl rfl (fun K hK => ?_)
 go_simp
 refine (byte4_any _ A2 2 c2 _ kd _ (Row.of_own o2) (by decide)).mono ?_
 rintro e w3 h3; obtain ⟨⟨A3, c3, rfl, o3⟩, k3⟩ := BytesRet.len h3 (m := 3) (by simp [beI_length])
 go_wp2_with fail
 refine hK.out _ _ k3 ?_
 clear hK K
 try simp only [Act.put, ly1, ly2, ly3, ly4, ly5, ly6]
 replace n0 := Keep.new n0 k3
 replace r0 := fun W (hW : New w3 W) => r0 W (Keep.new k3 hW)
 replace r1 := fun W (hW : New w3 W) => r1 W (Keep.new k3 hW)
 replace r2 := fun W (hW : New w3 W) => r2 W (Keep.new k3 hW)
 refine hold_step (i := 8) (by kernel_rfl) rfl rfl (fun K hK => ?_)
 go_simp
 refine (short4_any _ A3 3 c3 _ lk _ (Row.of_own o3) (by decide)).mono ?_
 rintro e w4 h4; obtain ⟨⟨A4, c4, rfl, o4⟩, k4⟩ := BytesRet.len h4 (m := 5) (by simp [beI_length])
 go_wp2_with fail
 refine hK.out _ _ k4 ?_
 clear hK K
 try simp only [Act.put, ly1, ly2, ly3, ly4, ly5, ly6]
 replace n0 := Keep.new n0 k4
 replace r0 := fun W (hW : New w4 W) => r0 W (Keep.new k4 hW)
 replace r1 := fun W (hW : New w4 W) => r1 W (Keep.new k4 hW)
 replace r2 := fun W (hW : New w4 W) => r2 W (Keep.new k4 hW)
 refine take1 9 ?_
 refine wpAnyH_done (by kernel_rfl) ?_ _
 have k14 := Lib.hid ((k2.new k3).new k4)
 have K4 := Lib.hid n0
 have O4 := Lib.hid o4
 clear o2 o3 o4 k2 k3 k4 h2 h3 h4 n0 r0 r1 r2
 go_upto_region 2 with fail
 have HX4 := Lib.hid (K4.out.blockAt HX.out trivial)
 have r3 : ∀ W, New w4 W → W.cell? ⟨g, 3, none⟩ = some (.int .i64 sz) := fun W hW => hW.cell_some (cellOf HX4.out (k := 3) rfl) trivial
 have r4 : ∀ W, New w4 W → W.cell? ⟨g, 4, none⟩ = some (.int .u64 tl) := fun W hW => hW.cell_some (cellOf HX4.out (k := 4) rfl) trivial
 have r5 : ∀ W, New w4 W → W.cell? ⟨g, 5, none⟩ = some (.bool sh) := fun W hW => hW.cell_some (cellOf HX4.out (k := 5) rfl) trivial
 refine hold_begin (by kernel_rfl) ?_
 have n0 : New w4 w4.drew := (New.refl w4).drew
 replace r3 := fun W (hW : New w4.drew W) => r3 W (Keep.new n0 hW)
 replace r4 := fun W (hW : New w4.drew W) => r4 W (Keep.new n0 hW)
 replace r5 := fun W (hW : New w4.drew W) => r5 W (Keep.new n0 hW)
 refine take1 0 ?_
 refine take1 1 ?_
 refine take1 2 ?_
 refine take1 4 ?_
 refine take1 5 ?_
 refine take1 7 ?_
 refine take1 8 ?_
 refine hold_step (i := 3) (by kernel_rfl) rfl rfl (fun K hK => ?_)
 go_simp
 refine (short4_any _ A4 5 c4 _ sz _ ((Row.of_own O4.out).drew) (by decide)).mono ?_
 rintro e w5 h5; obtain ⟨⟨A5, c5, rfl, o5⟩, k5⟩ := BytesRet.len h5 (m := 7) (by simp [beI_length])
 go_wp2_with fail
 refine hK.out _ _ k5 ?_
 clear hK K
 try simp only [Act.put, ly1, ly2, ly3, ly4, ly5, ly6]
 replace n0 := Keep.new n0 k5
 replace r3 := fun W (hW : New w5 W) => r3 W (Keep.new k5 hW)
 replace r4 := fun W (hW : New w5 W) => r4 W (Keep.new k5 hW)
 replace r5 := fun W (hW : New w5 W) => r5 W (Keep.new k5 hW)
 refine hold_step (i := 6) (by kernel_rfl) rfl rfl (fun K hK => ?_)
 go_simp
 refine (long4_any _ A5 7 c5 _ tl _ (Row.of_own o5) (by decide) ht.1 ht.2).mono ?_
 rintro e w6 h6; obtain ⟨⟨A6, c6, rfl, o6⟩, k6⟩ := BytesRet.len h6 (m := 15) (by simp [beI_length])
 go_wp2_with fail
 refine hK.out _ _ k6 ?_
 clear hK K
 try simp only [Act.put, ly1, ly2, ly3, ly4, ly5, ly6]
 replace n0 := Keep.new n0 k6
 replace r3 := fun W (hW : New w6 W) => r3 W (Keep.new k6 hW)
 replace r4 := fun W (hW : New w6 W) => r4 W (Keep.new k6 hW)
 replace r5 := fun W (hW : New w6 W) => r5 W (Keep.new k6 hW)
 refine hold_step (i := 9) (by kernel_rfl) rfl rfl (fun K hK => ?_)
 go_simp
 refine (flag4_any _ A6 15 c6 _ sh _ (Row.of_own o6) (by decide)).mono ?_
 rintro e w7 h7; obtain ⟨⟨A7, c7, rfl, o7⟩, k7⟩ := BytesRet.len h7 (m := 16) (by simp [beI_length, flagByte])
 go_wp2_with fail
 refine hK.out _ _ k7 ?_
 clear hK K
 try simp only [Act.put, ly1, ly2, ly3, ly4, ly5, ly6]
 replace n0 := Keep.new n0 k7
 replace r3 := fun W (hW : New w7 W) => r3 W (Keep.new k7 hW)
 replace r4 := fun W (hW : New w7 W) => r4 W (Keep.new k7 hW)
 replace r5 := fun W (hW : New w7 W) => r5 W (Keep.new k7 hW)
 refine take1 10 ?_
 refine wpAnyH_done (by kernel_rfl) ?_ _
 have hz : w.heap.size ≤ w6.heap.size := by
  have h1 := HK1.out.size
  have h2 := K4.out.size
  have h3 := k5.size
  have h4 := k6.size
  have e0 : w4.drew.heap.size = w4.heap.size := rfl
  omega
 have HO := Lib.hid (own_base (base := w.heap.size) o7 hz)
 have HKF := Lib.hid ((HK1.out.new K4.out).new n0)
 have hb : [] ++ beI 2 id ++ beI 1 kd ++ beI 2 lk ++ beI 2 sz ++ beI 8 tl ++ flagByte sh = nodeBytes id ⟨kd, lk, sz, tl, sh⟩ := by simp [nodeBytes]
 rw [hb] at HO
 clear h5 h6 h7 o5 o6 o7 k5 k6 k7 n0 r3 r4 r5 hb hz
 go_wp2_with fail
 go_ret
 exact BytesRet.mk' rfl HO.out HKF.out
/-
  PROVED HERE: what the document's tree's Save answers; condition: the tree may be written.
-/
def rnamesOf (e : List (Int × List UInt8 × Int)) (id : Int) : List (List UInt8 × Int) := e.filterMap fun p => if p.1 = id then some p.2 else none
def ritemBytes (R : RTreeP) (x : (Int × NodeP) × List UInt8) : List UInt8 := lenBytes (nodeBytes x.1.1 x.1.2) ++ lenBytes x.2 ++ beI 2 (rnamesOf R.e x.1.1).length ++ ((rnamesOf R.e x.1.1).map nameBytes).flatten
def rtreeBytes (R : RTreeP) : List UInt8 := beI 2 R.nodes.length ++ ((R.nodes.zip R.data).map (ritemBytes R)).flatten
structure RTreeOk (R : RTreeP) : Prop where
 few : R.nodes.length ≤ 1000
 same : R.data.length = R.nodes.length
 names : R.e.length ≤ 10000
 till : ∀ p ∈ R.nodes, 0 ≤ p.2.till ∧ p.2.till ≤ 18446744073709551615
 data : ∀ d ∈ R.data, d.length ≤ 9223372036854775807
 short : ∀ p ∈ R.e, p.2.1.length ≤ 9223372036854775807
theorem flat_get {α : Type} (f : α → List Value) (m : Nat) (hf : ∀ x, (f x).length = m) : ∀ (l : List α) (k j : Nat) (hk : k < l.length), j < m → ((l.map f).flatten)[k * m + j]? = (f l[k])[j]?
 | [], k, j, hk, _ => absurd hk (Nat.not_lt_zero k)
 | x :: r, 0, j, _, hj => by
  rw [List.map_cons, List.flatten_cons, Nat.zero_mul, Nat.zero_add, List.getElem?_append_left (by rw [hf]; exact hj)]
  rfl
 | x :: r, k + 1, j, hk, hj => by
  rw [List.map_cons, List.flatten_cons, List.getElem?_append_right (by rw [hf, Nat.succ_mul]; omega), hf, show (k + 1) * m + j - m = k * m + j from by rw [Nat.succ_mul]; omega, flat_get f m hf r k j (Nat.lt_of_succ_lt_succ hk) hj]
  rfl
theorem rnames_le (e : List (Int × List UInt8 × Int)) (id : Int) : (rnamesOf e id).length ≤ e.length := List.length_filterMap_le _ _
theorem ritem_le {R : RTreeP} (h : R.e.length ≤ 10000) (x : (Int × NodeP) × List UInt8) : (ritemBytes R x).length ≤ 700000000 := by
 unfold ritemBytes
 have h1 := lenBytes_le (nodeBytes x.1.1 x.1.2)
 have h2 := lenBytes_le x.2
 have h3 := flatten_le nameBytes 65539 (rnamesOf R.e x.1.1) fun y _ => by unfold nameBytes; rw [List.length_append, beI_length]; have := lenBytes_le y.1; omega
 rw [List.length_append, List.length_append, List.length_append, beI_length]
 have h4 := rnames_le R.e x.1.1
 have : (rnamesOf R.e x.1.1).length * 65539 ≤ 10000 * 65539 := Nat.mul_le_mul_right _ (by omega)
 omega
theorem rnames_take (e : List (Int × List UInt8 × Int)) (id : Int) {j : Nat} (hj : j < e.length) : rnamesOf (e.take (j + 1)) id = rnamesOf (e.take j) id ++ (if e[j].1 = id then [e[j].2] else []) := by
 unfold rnamesOf
 rw [List.take_succ_eq_append_getElem hj, List.filterMap_append]
 congr 1
 by_cases h : e[j].1 = id
 ·rw [if_pos h]; simp [h]
 ·rw [if_neg h]; simp [h]
section
variable {w : World} {c : Col} {i bt : Nat} {R : RTreeP}
theorem Row.rnode {D : Nat → Prop} {A : Option Addr} {l : List (Int × NodeP)} (h : Row w D A l.length 6 (l.map rnodeCells).flatten) {k : Nat} (hk : k < l.length) : ∃ g off, A = some ⟨g, off, none⟩ ∧ g < w.heap.size ∧
  w.cell? ⟨g, off + k * 6, none⟩ = some (.int .i64 l[k].1) ∧ w.cell? ⟨g, off + k * 6 + 1, none⟩ = some (.int .i64 l[k].2.kind) ∧ w.cell? ⟨g, off + k * 6 + 2, none⟩ = some (.int .i64 l[k].2.links) ∧ w.cell? ⟨g, off + k * 6 + 3, none⟩ = some (.int .i64 l[k].2.size) ∧ w.cell? ⟨g, off + k * 6 + 4, none⟩ = some (.int .u64 l[k].2.till) ∧ w.cell? ⟨g, off + k * 6 + 5, none⟩ = some (.bool l[k].2.shut) := by
 obtain ⟨g, off, hA, _, hl, hc⟩ := h.2 (by omega)
 have hf := flat_get rnodeCells 6 (fun _ => rfl) l k
 have hx : ∀ j, j < 6 → ∀ u, (rnodeCells l[k])[j]? = some u → w.cell? ⟨g, off + k * 6 + j, none⟩ = some u := fun j hj u hu => by rw [Nat.add_assoc]; exact hc _ _ ((hf j hk hj).trans hu)
 exact ⟨g, off, hA, hl, hx 0 (by decide) _ rfl, hx 1 (by decide) _ rfl, hx 2 (by decide) _ rfl, hx 3 (by decide) _ rfl, hx 4 (by decide) _ rfl, hx 5 (by decide) _ rfl⟩
theorem Row.rent {D : Nat → Prop} {A : Option Addr} {l : List (Int × List UInt8 × Int)} (h : Row w D A l.length 3 (l.map rentCells).flatten) {k : Nat} (hk : k < l.length) : ∃ g off, A = some ⟨g, off, none⟩ ∧ g < w.heap.size ∧
  w.cell? ⟨g, off + k * 3, none⟩ = some (.int .i64 l[k].1) ∧ w.cell? ⟨g, off + k * 3 + 1, none⟩ = some (.string (strOf l[k].2.1)) ∧ w.cell? ⟨g, off + k * 3 + 2, none⟩ = some (.int .i64 l[k].2.2) := by
 obtain ⟨g, off, hA, _, hl, hc⟩ := h.2 (by omega)
 have hf := flat_get rentCells 3 (fun _ => rfl) l k
 have hx : ∀ j, j < 3 → ∀ u, (rentCells l[k])[j]? = some u → w.cell? ⟨g, off + k * 3 + j, none⟩ = some u := fun j hj u hu => by rw [Nat.add_assoc]; exact hc _ _ ((hf j hk hj).trans hu)
 exact ⟨g, off, hA, hl, hx 0 (by decide) _ rfl, hx 1 (by decide) _ rfl, hx 2 (by decide) _ rfl⟩
set_option maxRecDepth 100000 in
set_option maxHeartbeats 8000000 in
theorem rtsave_any (h : RTreeAt w c i bt R) (hO : RTreeOk R) : Calls Tryz.prog 57 #[.pointer (some ⟨bt, 0, none⟩)] w (BytesRet (rtreeBytes R) w) := by
 have hlt := h.lt
 obtain ⟨-, A, ca, B, cb, E, ce, h1, hca, hcb, hce, hN, hB, hE⟩ := h
 have HO := Lib.hid hO
 have hfew := hO.few
 have c0 : ∀ W, New w W → W.cell? ⟨bt, 0, none⟩ = some (.slice A R.nodes.length ca) := fun W hW => hW.cell_some (cellOf h1 (k := 0) rfl) trivial
 have c1 : ∀ W, New w W → W.cell? ⟨bt, 1, none⟩ = some (.slice B R.data.length cb) := fun W hW => hW.cell_some (cellOf h1 (k := 1) rfl) trivial
 have c2 : ∀ W, New w W → W.cell? ⟨bt, 2, none⟩ = some (.slice E R.e.length ce) := fun W hW => hW.cell_some (cellOf h1 (k := 2) rfl) trivial
 have HC := Lib.hid (And.intro c0 (And.intro c1 c2))
 have HR := Lib.hid (And.intro hN (And.intro hB hE))
 have y0 := c0 w (New.refl w)
 clear h1 hN hB hE hO c0 c1 c2 hca hcb hce
 go_enter Tryz.func57, Tryz.ntmps57
 go_wp2_with fail
 refine (short4_any (fun _ => True) none 0 0 [] (R.nodes.length : Int) w (Row.nil _ _ _ _) (by decide)).mono ?_
 rintro e w1 hb1
 obtain ⟨⟨A1, d1, rfl, o1⟩, k1⟩ := BytesRet.len hb1 (m := 2) (by simp [beI_length])
 have H1 := Lib.hid (And.intro o1 k1)
 clear o1 k1 hb1 y0
 go_wp2_with fail
 go_loopw [3, 4] (fun s3 s4 wx => ∃ (n : Nat) (A3 : Option Addr) (L3 d3 : Nat), s4 = .int .i64 (n : Int) ∧ n ≤ R.nodes.length ∧ s3 = .slice A3 L3 d3 ∧ New w wx ∧ OwnB wx w.heap.size 5 A3 L3 d3 (beI 2 R.nodes.length ++ (((R.nodes.zip R.data).take n).map (ritemBytes R)).flatten)) (fun _ s4 _ => R.nodes.length - (intOf s4).toNat)
 case atStart => exact ⟨0, A1, 2, d1, rfl, Nat.zero_le _, rfl, H1.out.2, by simpa using H1.out.1⟩
 case round =>
  obtain ⟨n, A3, L3, d3, rfl, hn, rfl, hkw, ho⟩ := hrel
  have y0 := HC.out.1 wr hkw
  have hbnd : (beI 2 R.nodes.length ++ (((R.nodes.zip R.data).take n).map (ritemBytes R)).flatten).length ≤ 700000000002 := by
   have h1 := flatten_le (ritemBytes R) 700000000 ((R.nodes.zip R.data).take n) fun x _ => ritem_le HO.out.names x
   rw [List.length_append, beI_length]
   have h2 : ((R.nodes.zip R.data).take n).length ≤ 1000 := by rw [List.length_take, List.length_zip]; omega
   have : ((R.nodes.zip R.data).take n).length * 700000000 ≤ 1000 * 700000000 := Nat.mul_le_mul_right _ h2
   omega
  obtain ⟨pre, hpre⟩ : ∃ pre, pre = beI 2 R.nodes.length ++ (((R.nodes.zip R.data).take n).map (ritemBytes R)).flatten := ⟨_, rfl⟩
  rw [← hpre] at ho hbnd
  have hL3 : pre.length = L3 := by simpa using ho.1
  have HST := Lib.hid (And.intro hkw (And.intro ho hpre))
  have HL3 := Lib.hid hL3
  rw [hL3] at hbnd
  by_cases hlt2 : n < R.nodes.length
  ·skip
   have hl2 : (n : Int) < (R.nodes.length : Int) := by omega
   have hnd : n < R.data.length := by have := HO.out.same; omega
   have hl3 : (n : Int) < (R.data.length : Int) := by omega
   obtain ⟨g, off, hA, hgl, x0, x1, x2, x3, x4, x5⟩ := (HR.out.1.new hkw).rnode hlt2
   obtain ⟨gd, offd, Ad, cd, hBq, dc, hdc, hdb⟩ := (HR.out.2.1.new hkw).at_ hnd
   have htl := HO.out.till _ (List.getElem_mem hlt2)
   have hdl := HO.out.data _ (List.getElem_mem hnd)
   obtain ⟨id, hid⟩ : ∃ id, id = R.nodes[n].1 := ⟨_, rfl⟩
   obtain ⟨nd, hndd⟩ : ∃ nd, nd = R.nodes[n].2 := ⟨_, rfl⟩
   obtain ⟨da, hda⟩ : ∃ da, da = R.data[n] := ⟨_, rfl⟩
   rw [← hid] at x0
   rw [← hndd] at x1 x2 x3 x4 x5 htl
   rw [← hda] at dc hdc hdb hdl
   have HZ : Hid ((R.nodes.zip R.data).take (n + 1) = (R.nodes.zip R.data).take n ++ [((id, nd), da)]) := Lib.hid (by
    rw [List.take_succ_eq_append_getElem (by rw [List.length_zip]; omega), List.getElem_zip, hid, hndd, hda])
   obtain ⟨dl, hdle⟩ : ∃ dl, dl = da.length := ⟨_, rfl⟩
   rw [← hdle] at dc hdc hdb hdl
   have HDL := Lib.hid hdle
   subst hA hBq
   obtain ⟨kd, lk, sz, tl, sh⟩ := nd
   dsimp only at x1 x2 x3 x4 x5 htl
   have r0 : ∀ W, New wr W → W.cell? ⟨bt, 0, none⟩ = some (.slice (some ⟨g, off, none⟩) R.nodes.length ca) := fun W hW => HC.out.1 W (HST.out.1.new hW)
   have r1 : ∀ W, New wr W → W.cell? ⟨bt, 1, none⟩ = some (.slice (some ⟨gd, offd, none⟩) R.data.length cb) := fun W hW => HC.out.2.1 W (HST.out.1.new hW)
   have z0 : ∀ W, New wr W → W.cell? ⟨g, off + n * 6, none⟩ = some (.int .i64 id) := fun W hW => hW.cell_some x0 trivial
   have z1 : ∀ W, New wr W → W.cell? ⟨g, off + n * 6 + 1, none⟩ = some (.int .i64 kd) := fun W hW => hW.cell_some x1 trivial
   have z2 : ∀ W, New wr W → W.cell? ⟨g, off + n * 6 + 2, none⟩ = some (.int .i64 lk) := fun W hW => hW.cell_some x2 trivial
   have z3 : ∀ W, New wr W → W.cell? ⟨g, off + n * 6 + 3, none⟩ = some (.int .i64 sz) := fun W hW => hW.cell_some x3 trivial
   have z4 : ∀ W, New wr W → W.cell? ⟨g, off + n * 6 + 4, none⟩ = some (.int .u64 tl) := fun W hW => hW.cell_some x4 trivial
   have z5 : ∀ W, New wr W → W.cell? ⟨g, off + n * 6 + 5, none⟩ = some (.bool sh) := fun W hW => hW.cell_some x5 trivial
   have zd : ∀ W, New wr W → W.cell? ⟨gd, offd + n, none⟩ = some (.slice Ad dl cd) := fun W hW => hW.cell_some dc trivial
   have HZ0 := Lib.hid z0
   have HDB := Lib.hid (And.intro hdb hdc)
   clear hid hndd hda hdle x0 x1 x2 x3 x4 x5 dc hdb hdc hkw ho hpre hL3
   go_upto_region 5 with fail
   clear y0
   refine hold_begin (by kernel_rfl) ?_
   have n0 : New wr wr.drew := (New.refl wr).drew
   replace r0 := fun W (hW : New wr.drew W) => r0 W (Keep.new n0 hW)
   replace r1 := fun W (hW : New wr.drew W) => r1 W (Keep.new n0 hW)
   replace z0 := fun W (hW : New wr.drew W) => z0 W (Keep.new n0 hW)
   replace z1 := fun W (hW : New wr.drew W) => z1 W (Keep.new n0 hW)
   replace z2 := fun W (hW : New wr.drew W) => z2 W (Keep.new n0 hW)
   replace z3 := fun W (hW : New wr.drew W) => z3 W (Keep.new n0 hW)
   replace z4 := fun W (hW : New wr.drew W) => z4 W (Keep.new n0 hW)
   replace z5 := fun W (hW : New wr.drew W) => z5 W (Keep.new n0 hW)
   replace zd := fun W (hW : New wr.drew W) => zd W (Keep.new n0 hW)
   refine take1 0 ?_
   refine take1 1 ?_
   refine take1 2 ?_
   refine take1 3 ?_
   refine take1 4 ?_
   refine take1 5 ?_
   refine take1 6 ?_
   refine take1 7 ?_
   refine take1 10 ?_
   refine take1 11 ?_
   refine take1 12 ?_
   refine take1 13 ?_
   refine take1 14 ?_
   refine take1 15 ?_
   refine take1 16 ?_
   refine hold_step (i := 8) (by kernel_rfl) rfl rfl (fun K hK => ?_)
   go_simp
   refine (r10enc_any id ⟨kd, lk, sz, tl, sh⟩ htl _).mono ?_
   rintro e w2 h2; obtain ⟨⟨A2, c2, rfl, o2⟩, k2⟩ := BytesRet.len h2 (m := 16) (nodeBytes_length id ⟨kd, lk, sz, tl, sh⟩)
   go_wp2_with fail
   refine hK.out _ _ k2 ?_
   clear hK K
   try simp only [Act.put, ly1, ly2, ly3, ly4, ly5, ly6]
   replace n0 := Keep.new n0 k2
   replace r0 := fun W (hW : New w2 W) => r0 W (Keep.new k2 hW)
   replace r1 := fun W (hW : New w2 W) => r1 W (Keep.new k2 hW)
   replace z0 := fun W (hW : New w2 W) => z0 W (Keep.new k2 hW)
   replace z1 := fun W (hW : New w2 W) => z1 W (Keep.new k2 hW)
   replace z2 := fun W (hW : New w2 W) => z2 W (Keep.new k2 hW)
   replace z3 := fun W (hW : New w2 W) => z3 W (Keep.new k2 hW)
   replace z4 := fun W (hW : New w2 W) => z4 W (Keep.new k2 hW)
   replace z5 := fun W (hW : New w2 W) => z5 W (Keep.new k2 hW)
   replace zd := fun W (hW : New w2 W) => zd W (Keep.new k2 hW)
   have o2' := Lib.hid o2
   refine hold_step (i := 9) (by kernel_rfl) rfl rfl (fun K hK => ?_)
   go_simp
   refine (bytes4_any _ _ A3 A2 L3 d3 16 c2 pre _ _ (((Row.of_own HST.out.2.1).drew).new k2) (Row.of_own o2'.out) (by omega) (by decide) (own_cap o2'.out)).mono ?_
   rintro e w3 h3; obtain ⟨L4, hL4⟩ : ∃ L, (pre ++ lenBytes (nodeBytes id ⟨kd, lk, sz, tl, sh⟩)).length = L := ⟨_, rfl⟩; obtain ⟨⟨A4, c4, rfl, o4⟩, k4⟩ := BytesRet.len h3 hL4; replace hL4 := Lib.hid hL4
   go_wp2_with fail
   refine hK.out _ _ k4 ?_
   clear hK K
   try simp only [Act.put, ly1, ly2, ly3, ly4, ly5, ly6]
   replace n0 := Keep.new n0 k4
   replace r0 := fun W (hW : New w3 W) => r0 W (Keep.new k4 hW)
   replace r1 := fun W (hW : New w3 W) => r1 W (Keep.new k4 hW)
   replace z0 := fun W (hW : New w3 W) => z0 W (Keep.new k4 hW)
   replace z1 := fun W (hW : New w3 W) => z1 W (Keep.new k4 hW)
   replace z2 := fun W (hW : New w3 W) => z2 W (Keep.new k4 hW)
   replace z3 := fun W (hW : New w3 W) => z3 W (Keep.new k4 hW)
   replace z4 := fun W (hW : New w3 W) => z4 W (Keep.new k4 hW)
   replace z5 := fun W (hW : New w3 W) => z5 W (Keep.new k4 hW)
   replace zd := fun W (hW : New w3 W) => zd W (Keep.new k4 hW)
   have o4' := Lib.hid o4
   have hb4 : L4 ≤ L3 + 65537 := by have := hL4.out; have h1 := lenBytes_le (nodeBytes id ⟨kd, lk, sz, tl, sh⟩); rw [List.length_append, HL3.out] at this; omega
   refine hold_step (i := 17) (by kernel_rfl) rfl rfl (fun K hK => ?_)
   go_simp
   refine (bytes4_any _ _ A4 Ad L4 c4 dl cd _ da _ (Row.of_own o4'.out) (((HDB.out.1.drew).new k2).new k4) (by omega) hdl HDB.out.2).mono ?_
   rintro e w5 h5; obtain ⟨L5, hL5⟩ : ∃ L, (pre ++ lenBytes (nodeBytes id ⟨kd, lk, sz, tl, sh⟩) ++ lenBytes da).length = L := ⟨_, rfl⟩; obtain ⟨⟨A5, c5, rfl, o5⟩, k5⟩ := BytesRet.len h5 hL5; replace hL5 := Lib.hid hL5
   go_wp2_with fail
   refine hK.out _ _ k5 ?_
   clear hK K
   try simp only [Act.put, ly1, ly2, ly3, ly4, ly5, ly6]
   replace n0 := Keep.new n0 k5
   replace r0 := fun W (hW : New w5 W) => r0 W (Keep.new k5 hW)
   replace r1 := fun W (hW : New w5 W) => r1 W (Keep.new k5 hW)
   replace z0 := fun W (hW : New w5 W) => z0 W (Keep.new k5 hW)
   replace z1 := fun W (hW : New w5 W) => z1 W (Keep.new k5 hW)
   replace z2 := fun W (hW : New w5 W) => z2 W (Keep.new k5 hW)
   replace z3 := fun W (hW : New w5 W) => z3 W (Keep.new k5 hW)
   replace z4 := fun W (hW : New w5 W) => z4 W (Keep.new k5 hW)
   replace z5 := fun W (hW : New w5 W) => z5 W (Keep.new k5 hW)
   replace zd := fun W (hW : New w5 W) => zd W (Keep.new k5 hW)
   refine take1 18 ?_
   refine wpAnyH_done (by kernel_rfl) ?_ _
   have hb5 : L5 ≤ L4 + 65537 := by have := hL5.out; have h1 := lenBytes_le da; rw [List.length_append, hL4.out] at this; omega
   have hz5 : w.heap.size ≤ w3.heap.size := by
    have h1 := HST.out.1.size
    have h2 := k2.size
    have h4 := k4.size
    have e0 : wr.drew.heap.size = wr.heap.size := rfl
    omega
   have HO5 := Lib.hid (own_base (base := w.heap.size) o5 hz5)
   have HK5 := Lib.hid (HST.out.1.new n0)
   have HK5w := Lib.hid n0
   clear o2 o4 o5 o2' o4' k2 k4 k5 h2 h3 h5 n0 r0 r1 z0 z1 z2 z3 z4 z5 zd hz5
   go_wp2_with fail
   generalize wr = w0 at *
   go_loopw [5, 6, 7] (fun s5 s6 s7 wx => ∃ (j : Nat) (A6 : Option Addr) (L6 d6 : Nat), s7 = .int .i64 (j : Int) ∧ j ≤ R.e.length ∧ s5 = .int .i64 ((rnamesOf (R.e.take j) id).length : Int) ∧ s6 = .slice A6 L6 d6 ∧ New w5 wx ∧ OwnB wx w.heap.size 5 A6 L6 d6 (((rnamesOf (R.e.take j) id).map nameBytes).flatten)) (fun _ _ s7 _ => R.e.length - (intOf s7).toNat)
   case atStart => exact ⟨0, none, 0, 0, rfl, Nat.zero_le _, rfl, rfl, New.refl _, Own.nil _ _ _ _⟩
   case round =>
    obtain ⟨j, A6, L6, d6, rfl, hj, rfl, rfl, hkx, ho6⟩ := hrel
    have hkW : New w wr := HK5.out.new hkx
    have y2 := HC.out.2.2 wr hkW
    have hje := HO.out.names
    have hcb : (rnamesOf (R.e.take j) id).length ≤ 10000 := by have := rnames_le (R.e.take j) id; have h2 := HO.out.names; rw [List.length_take] at this; omega
    have hb6 : L6 ≤ 655390000 := by
     have h1 := flatten_le nameBytes 65539 (rnamesOf (R.e.take j) id) fun y _ => by unfold nameBytes; rw [List.length_append, beI_length]; have := lenBytes_le y.1; omega
     have h2 : (((rnamesOf (R.e.take j) id).map nameBytes).flatten).length = L6 := by have h := ho6.1; rw [List.length_map] at h; omega
     have : (rnamesOf (R.e.take j) id).length * 65539 ≤ 10000 * 65539 := Nat.mul_le_mul_right _ hcb
     omega
    obtain ⟨cnt, hcnt⟩ : ∃ cnt, cnt = (rnamesOf (R.e.take j) id).length := ⟨_, rfl⟩
    obtain ⟨p6, hp6⟩ : ∃ p6, p6 = ((rnamesOf (R.e.take j) id).map nameBytes).flatten := ⟨_, rfl⟩
    rw [← hp6] at ho6
    rw [← hcnt] at hcb ⊢
    have HCN := Lib.hid (And.intro hcnt hp6)
    have HI := Lib.hid (And.intro hkx (And.intro hkW ho6))
    clear hcnt hp6 hkx hkW ho6
    by_cases hlj : j < R.e.length
    ·skip
     have hl4 : (j : Int) < (R.e.length : Int) := by omega
     obtain ⟨ge, offe, hEe, hgel, e0, e1, e2⟩ := (HR.out.2.2.new HI.out.2.1).rent hlj
     obtain ⟨ed, hed⟩ : ∃ ed, ed = R.e[j].1 := ⟨_, rfl⟩
     obtain ⟨nm, hnm⟩ : ∃ nm, nm = R.e[j].2.1 := ⟨_, rfl⟩
     obtain ⟨ek, hek⟩ : ∃ ek, ek = R.e[j].2.2 := ⟨_, rfl⟩
     rw [← hed] at e0
     rw [← hnm] at e1
     rw [← hek] at e2
     have HT := Lib.hid (rnames_take R.e id hlj)
     have hns := HO.out.short _ (List.getElem_mem hlj)
     rw [← hnm] at hns
     have hpr : R.e[j] = (ed, nm, ek) := by rw [hed, hnm, hek]
     rw [hpr] at HT
     dsimp only at HT
     subst hEe
     have q0 : ∀ W, New wr W → W.cell? ⟨bt, 0, none⟩ = some (.slice (some ⟨g, off, none⟩) R.nodes.length ca) := fun W hW => HC.out.1 W (HI.out.2.1.new hW)
     have q2 : ∀ W, New wr W → W.cell? ⟨bt, 2, none⟩ = some (.slice (some ⟨ge, offe, none⟩) R.e.length ce) := fun W hW => HC.out.2.2 W (HI.out.2.1.new hW)
     have qi : ∀ W, New wr W → W.cell? ⟨g, off + n * 6, none⟩ = some (.int .i64 id) := fun W hW => HZ0.out W (Keep.new HK5w.out (HI.out.1.new hW))
     have qe : ∀ W, New wr W → W.cell? ⟨ge, offe + j * 3, none⟩ = some (.int .i64 ed) := fun W hW => hW.cell_some e0 trivial
     have HE := Lib.hid (And.intro e1 e2)
     have HE2 := Lib.hid (HC.out.2.2)
     clear hed hnm hek hpr e0 e1 e2
     go_upto_region 11 with fail
     clear y2
     refine hold_begin (by kernel_rfl) ?_
     have n0 : New wr wr.drew := (New.refl wr).drew
     replace q0 := fun W (hW : New wr.drew W) => q0 W (Keep.new n0 hW)
     replace q2 := fun W (hW : New wr.drew W) => q2 W (Keep.new n0 hW)
     replace qi := fun W (hW : New wr.drew W) => qi W (Keep.new n0 hW)
     replace qe := fun W (hW : New wr.drew W) => qe W (Keep.new n0 hW)
     refine take1 0 ?_
     refine take1 1 ?_
     refine take1 2 ?_
     refine take1 3 ?_
     refine take1 4 ?_
     refine take1 5 ?_
     refine take1 6 ?_
     refine take1 7 ?_
     refine take1 8 ?_
     refine take1 9 ?_
     refine take1 10 ?_
     refine take1 11 ?_
     refine take1 12 ?_
     refine take1 13 ?_
     refine take1 14 ?_
     refine take1 15 ?_
     refine take1 16 ?_
     refine wpAnyH_done (by kernel_rfl) ?_ _
     obtain ⟨w6, hw6⟩ : ∃ w6, w6 = wr.drew := ⟨_, rfl⟩
     rw [← hw6] at n0 ⊢
     have HK6 := Lib.hid n0
     clear hw6 n0 q0 q2 qi qe
     by_cases hq : ed = id
     ·have hqb : (ed == id) = true := by simp [hq]
      rw [if_pos hq] at HT
      obtain ⟨cpc, wc, hconv, hcpc, kc, hbc⟩ := conv_name nm w6.drew
      have q2 : ∀ W, New w6 W → W.cell? ⟨bt, 2, none⟩ = some (.slice (some ⟨ge, offe, none⟩) R.e.length ce) := fun W hW => HE2.out W (HI.out.2.1.new (HK6.out.new hW))
      have q3 : ∀ W, New w6 W → W.cell? ⟨ge, offe + j * 3 + 1, none⟩ = some (.string (strOf nm)) := fun W hW => (HK6.out.new hW).cell_some HE.out.1 trivial
      have q4 : ∀ W, New w6 W → W.cell? ⟨ge, offe + j * 3 + 2, none⟩ = some (.int .i64 ek) := fun W hW => (HK6.out.new hW).cell_some HE.out.2 trivial
      have HBC := Lib.hid (And.intro hbc hcpc)
      have HP6 := Lib.hid (((Row.of_own HI.out.2.2).new HK6.out).drew.new kc)
      replace hq := Lib.hid hq
      clear hbc hcpc
      go_upto_region 13 with fail
      refine hold_begin (by kernel_rfl) ?_
      have n0 : New w6 w6.drew := (New.refl w6).drew
      replace q2 := fun W (hW : New w6.drew W) => q2 W (Keep.new n0 hW)
      replace q3 := fun W (hW : New w6.drew W) => q3 W (Keep.new n0 hW)
      replace q4 := fun W (hW : New w6.drew W) => q4 W (Keep.new n0 hW)
      refine take1 0 ?_
      refine take1 1 ?_
      refine take1 2 ?_
      refine take1 3 ?_
      refine take1 4 ?_
      refine take1 5 ?_
      refine take1 6 ?_
      refine take1 7 ?_
      refine take1 8 ?_
      refine take1 11 ?_
      refine take1 12 ?_
      refine take1 13 ?_
      refine take1 14 ?_
      refine take1 15 ?_
      refine take1 16 ?_
      refine take1 17 ?_
      refine take1 18 ?_
      refine hold_step (i := 9) (by kernel_rfl) rfl rfl (fun K hK => ?_)
      go_simp
      go_wp2_with fail
      refine hK.out _ _ kc ?_
      clear hK K
      try simp only [Act.put, ly1, ly2, ly3, ly4, ly5, ly6]
      replace n0 := Keep.new n0 kc
      replace q2 := fun W (hW : New wc W) => q2 W (Keep.new kc hW)
      replace q3 := fun W (hW : New wc W) => q3 W (Keep.new kc hW)
      replace q4 := fun W (hW : New wc W) => q4 W (Keep.new kc hW)
      clear hconv
      refine hold_step (i := 10) (by kernel_rfl) rfl rfl (fun K hK => ?_)
      go_simp
      refine (bytes4_any _ _ A6 _ L6 d6 nm.length cpc p6 nm _ HP6.out HBC.out.1 (by omega) hns HBC.out.2).mono ?_
      rintro e w7 h7; obtain ⟨L7, hL7⟩ : ∃ L, (p6 ++ lenBytes nm).length = L := ⟨_, rfl⟩; obtain ⟨⟨A7, c7, rfl, o7⟩, k7⟩ := BytesRet.len h7 hL7; replace hL7 := Lib.hid hL7
      go_wp2_with fail
      refine hK.out _ _ k7 ?_
      clear hK K
      try simp only [Act.put, ly1, ly2, ly3, ly4, ly5, ly6]
      replace n0 := Keep.new n0 k7
      replace q2 := fun W (hW : New w7 W) => q2 W (Keep.new k7 hW)
      replace q3 := fun W (hW : New w7 W) => q3 W (Keep.new k7 hW)
      replace q4 := fun W (hW : New w7 W) => q4 W (Keep.new k7 hW)
      have o7' := Lib.hid o7
      have hb7 : L7 ≤ L6 + 65537 := by have := hL7.out; have h1 := lenBytes_le nm; have h2 : p6.length = L6 := (by have h := HI.out.2.2.1; rw [List.length_map] at h; omega); rw [List.length_append, h2] at this; omega
      refine hold_step (i := 19) (by kernel_rfl) rfl rfl (fun K hK => ?_)
      go_simp
      refine (short4_any _ A7 L7 c7 _ ek _ (Row.of_own o7'.out) (by omega)).mono ?_
      rintro e w8 h8; obtain ⟨⟨A8, c8, rfl, o8⟩, k8⟩ := BytesRet.len h8 (m := L7 + 2) (by rw [List.length_append, hL7.out, beI_length])
      go_wp2_with fail
      refine hK.out _ _ k8 ?_
      clear hK K
      try simp only [Act.put, ly1, ly2, ly3, ly4, ly5, ly6]
      replace n0 := Keep.new n0 k8
      replace q2 := fun W (hW : New w8 W) => q2 W (Keep.new k8 hW)
      replace q3 := fun W (hW : New w8 W) => q3 W (Keep.new k8 hW)
      replace q4 := fun W (hW : New w8 W) => q4 W (Keep.new k8 hW)
      refine take1 20 ?_
      refine wpAnyH_done (by kernel_rfl) ?_ _
      have hz7 : w.heap.size ≤ w7.heap.size := by
       have h1 := HI.out.2.1.size
       have h2 := HK6.out.size
       have h3 := kc.size
       have h4 := k7.size
       have e0 : w6.drew.heap.size = w6.heap.size := rfl
       omega
      have HF := Lib.hid (And.intro (HK6.out.new n0) (own_base (base := w.heap.size) o8 hz7))
      clear n0 o7 o8 o7' k7 k8 h7 h8 hz7 q2 q3 q4
      go_wp2_with fail
      go_roundw
      case rel =>
       obtain ⟨f1, f2⟩ := HF.out
       refine ⟨j + 1, A8, L7 + 2, c8, by go_num, by omega, ?_, rfl, HI.out.1.new f1, ?_⟩
       ·rw [HT.out, List.length_append, ← HCN.out.1]; rfl
       ·rw [HT.out, List.map_append, List.flatten_append, ← HCN.out.2]
        rw [show (p6 ++ (List.map nameBytes [(nm, ek)]).flatten) = p6 ++ lenBytes nm ++ beI 2 ek from by simp [nameBytes]]
        exact f2
      case measure => simp [intOf]; omega
     ·have hqb : (ed == id) = false := by simp [hq]
      rw [if_neg hq, List.append_nil] at HT
      replace hq := Lib.hid hq
      go_wp2_with fail
      go_roundw
      case rel =>
       refine ⟨j + 1, A6, L6, d6, by go_num, by omega, ?_, rfl, HI.out.1.new HK6.out, ?_⟩
       ·rw [HT.out, ← HCN.out.1]
       ·rw [HT.out, ← HCN.out.2]; exact Own.keepNew HI.out.2.2 HK6.out
      case measure => simp [intOf]; omega
    ·skip
     have hl4 : ¬ (j : Int) < (R.e.length : Int) := by omega
     have eT : R.e.take j = R.e := List.take_of_length_le (by omega)
     rw [eT] at HCN
     go_wp2_with fail
     refine (short4_any _ A5 L5 c5 _ (cnt : Int) wr ((Row.of_own HO5.out).new HI.out.1) (by omega)).mono ?_
     rintro e w9 h9
     obtain ⟨L9, hL9⟩ : ∃ L, (pre ++ lenBytes (nodeBytes id ⟨kd, lk, sz, tl, sh⟩) ++ lenBytes da ++ beI 2 cnt).length = L := ⟨_, rfl⟩
     obtain ⟨⟨A9, c9, rfl, o9⟩, k9⟩ := BytesRet.len h9 hL9
     have hb9 : L9 = L5 + 2 := by rw [← hL9, List.length_append, hL5.out, beI_length]
     have hbb : L9 + L6 ≤ 140737488355328 := by omega
     have hbp := ((Row.of_own HI.out.2.2).new k9)
     have hs9 := k9.size
     replace hL9 := Lib.hid hL9
     replace hb9 := Lib.hid hb9
     have HK9 := Lib.hid k9
     clear h9 k9 y2
     go_wp2_with (at_builtin; refine app_bytes _ rfl _ _ rfl wr.heap.size A9 L9 c9 _ rfl o9 _ A6 L6 d6 p6 rfl hbp hbb hs9 ?_; intro A10 c10 w10 o10 hg10 hbk10)
     have hfin := (Keep.of_new (D := fun b => b < wr.heap.size) HK9.out).grown hg10 (fun j hj hd => absurd hd (by have := (own_lt o9 j hj).1; show ¬ j < wr.heap.size; omega))
     have hzz : w.heap.size ≤ wr.heap.size := HI.out.2.1.size
     have hK : New w w10 := (Keep.trans2 (D := fun b => b < w.heap.size) (Keep.of_new HI.out.2.1) hfin (fun i hi _ => Nat.lt_of_lt_of_le hi hzz)).toNew (fun i hi => hi)
     have HFF := Lib.hid (And.intro hK (own_base (base := w.heap.size) o10 hzz))
     clear o9 o10 hg10 hbk10 hfin hK hbp hs9
     go_roundw
     case rel =>
      obtain ⟨f1, f2⟩ := HFF.out
      refine ⟨n + 1, A10, L9 + L6, c10, by go_num, hlt2, rfl, f1, ?_⟩
      rw [HZ.out, List.map_append, List.flatten_append]
      have e9 : pre ++ lenBytes (nodeBytes id ⟨kd, lk, sz, tl, sh⟩) ++ lenBytes da ++ beI 2 cnt ++ p6 = pre ++ (List.map (ritemBytes R) [((id, ⟨kd, lk, sz, tl, sh⟩), da)]).flatten := by rw [HCN.out.1, HCN.out.2]; simp [ritemBytes]
      rw [← List.append_assoc, ← HST.out.2.2, ← e9]
      exact f2
     case measure => simp [intOf]; omega
  ·skip
   have hl2 : ¬ (n : Int) < (R.nodes.length : Int) := by omega
   go_wp2_with fail
   go_ret
   have e1 : (R.nodes.zip R.data).take n = R.nodes.zip R.data := List.take_of_length_le (by rw [List.length_zip]; omega)
   have hf := HST.out
   rw [e1] at hf
   have ho2 := hf.2.1
   rw [hf.2.2] at ho2
   exact BytesRet.mk' rfl ho2 hf.1
end
/-
  PROVED HERE: what the document's tree's Committed answers where every file is closed: a copy; condition: every node is closed.
-/
set_option maxRecDepth 100000 in
set_option maxHeartbeats 2000000 in
theorem rtcommitted_shut {w : World} {c : Col} {i bt : Nat} {R : RTreeP} (h : RTreeAt w c i bt R) (hF : RFew R) (hS : ∀ p ∈ R.nodes, p.2.shut = true) (j : Nat) : Calls Tryz.prog 74 #[.pointer (some ⟨bt, 0, none⟩)] w (RTreeRet w c j R) := by
 have HCP := Lib.hid (rtcopy_any h hF j)
 have hfew := hF.nodes
 obtain ⟨-, A, ca, B, cb, E, ce, h1, -, -, -, hN, -, -⟩ := h
 have HN := Lib.hid hN
 have c0 := cellOf h1 (k := 0) rfl
 have HC := Lib.hid c0
 have HS := Lib.hid hS
 clear h1 hN c0 hF hS
 go_enter Tryz.func74, Tryz.ntmps74
 go_wp2_with fail
 refine HCP.out.mono ?_
 rintro e w1 ⟨bt2, c2, rfl, k1, z1, x1, t1⟩
 have H1 := Lib.hid (And.intro k1 (And.intro z1 (And.intro x1 t1)))
 clear k1 z1 x1 t1 HCP
 go_wp2_with fail
 go_loopw [4] (fun s4 wx => ∃ n : Nat, s4 = .int .i64 (n : Int) ∧ n ≤ R.nodes.length ∧ wx = w1) (fun s4 _ => R.nodes.length - (intOf s4).toNat)
 case atStart => exact ⟨0, rfl, Nat.zero_le _, rfl⟩
 case round =>
  obtain ⟨n, rfl, hn, rfl⟩ := hrel
  have y0 := H1.out.1.cell_some HC.out trivial
  by_cases hlt2 : n < R.nodes.length
  ·have hl2 : (n : Int) < (R.nodes.length : Int) := by omega
   obtain ⟨g, off, hA, hgl, -, -, -, -, -, q5⟩ := (HN.out.new H1.out.1).rnode hlt2
   rw [HS.out _ (List.getElem_mem hlt2)] at q5
   subst hA
   go_wp2_with fail
   go_roundw
   case rel => exact ⟨n + 1, by go_num, hlt2, trivial⟩
   case measure => simp [intOf]; omega
  ·have hl2 : ¬ (n : Int) < (R.nodes.length : Int) := by omega
   go_wp2_with fail
   go_ret
   obtain ⟨k1, z1, x1, t1⟩ := H1.out
   exact ⟨bt2, c2, rfl, k1, z1, x1, t1⟩
/-
  PROVED HERE: what the document's Settled answers where every file is closed; condition: every node is closed.
-/
def RStateP.settled (s : RStateP) : RStateP := { s with fd := fun _ => ⟨0, 0, []⟩ }
set_option maxRecDepth 100000 in
set_option maxHeartbeats 2000000 in
theorem rsettled_shut {w : World} {c : Col} {I J : Cols} {b : Nat} {s : RStateP} (h : RStateAt w c I b s) (hF : RFew s.T) (hS : ∀ p ∈ s.T.nodes, p.2.shut = true) (hn : s.S.list.length ≤ 1000000) (hJ : J.Ok) : Calls Tryz.prog 28 #[.pointer (some ⟨b, 0, none⟩)] w (RStateRet w c J s.settled) := by
 have hlt := h.lt
 obtain ⟨-, -, bt, bs, A, ca, h1, h2, h3, -⟩ := h
 have c0 : ∀ W, New w.drew W → W.cell? ⟨b, 0, none⟩ = some (.pointer (some ⟨bt, 0, none⟩)) := fun W hW => hW.cell_some (cellOf (w := w.drew) h1 (k := 0) rfl) trivial
 have c1 : ∀ W, New w.drew W → W.cell? ⟨b, 1, none⟩ = some (.pointer (some ⟨bs, 0, none⟩)) := fun W hW => hW.cell_some (cellOf (w := w.drew) h1 (k := 1) rfl) trivial
 have c2 : ∀ W, New w.drew W → W.cell? ⟨b, 2, none⟩ = some (.int .u64 s.clock) := fun W hW => hW.cell_some (cellOf (w := w.drew) h1 (k := 2) rfl) trivial
 have HT := Lib.hid (rtcommitted_shut (w := w.drew) (h2.new (Keep.drew (New.refl w))) hF hS J.t)
 have H3 := Lib.hid h3
 clear h1 h2 h3 hF hS
 go_enter Tryz.func28, Tryz.ntmps28
 go_upto_region 1 with fail
 refine hold_beginS (Keep (fun _ => True) w.drew) (by kernel_rfl) ?_
 have n0 : Keep (fun _ => True) w.drew w.drew := Keep.refl _ _
 refine take0 0 n0 ?_
 refine take0 1 n0 ?_
 refine take0 2 n0 ?_
 refine take0 3 n0 ?_
 refine take0 5 n0 ?_
 refine take0 6 n0 ?_
 refine take0 7 n0 ?_
 refine take0 8 n0 ?_
 refine take0 10 n0 ?_
 refine take0 11 n0 ?_
 refine take0 12 n0 ?_
 refine take0 13 n0 ?_
 refine hold_step0 (i := 4) (by kernel_rfl) rfl rfl (fun K hK => ?_)
 go_simp
 refine HT.out.mono ?_
 rintro e w1 ⟨bt2, d1, rfl, k1, z1, x1, t1⟩; have H1 := Lib.hid (And.intro k1 (And.intro z1 (And.intro x1 t1))); clear z1 x1 t1
 go_wp2_with fail
 have n1 := Keep.new n0 k1
 refine hK.out _ _ n1 ?_
 clear hK K
 try simp only [Act.put, ly1, ly2, ly3, ly4, ly5, ly6]
 replace n0 := n1
 clear n1
 refine hold_step0 (i := 9) (by kernel_rfl) rfl rfl (fun K hK => ?_)
 go_simp
 refine (rscopy_any (RSnapsAt.keep H3.out ((Keep.drew (New.refl w)).new H1.out.1) (show Ext w c d1 from H1.out.2.2.1) trivial fun _ _ _ => trivial) hn J.s).mono ?_
 rintro e w2 ⟨bs2, d2, rfl, k2, z2, x2, t2⟩; have H2 := Lib.hid (And.intro k2 (And.intro z2 (And.intro x2 t2))); clear z2 x2 t2
 go_wp2_with fail
 have n1 := Keep.new n0 k2
 refine hK.out _ _ n1 ?_
 clear hK K
 try simp only [Act.put, ly1, ly2, ly3, ly4, ly5, ly6]
 replace n0 := n1
 clear n1
 refine take0 14 n0 ?_
 have k3 := (New.refl w2).alloc (.cells (rstateCells bt2 bs2 s.settled (fun _ => none) fun _ => 0) 113)
 refine hold_step0 (i := 15) (by kernel_rfl) rfl rfl (fun K hK => ?_)
 go_simp
 go_wp2_with fail
 have n1 := Keep.new n0 k3
 refine hK.out _ _ n1 ?_
 clear hK K
 try simp only [Act.put, ly1, ly2, ly3, ly4, ly5, ly6]
 replace n0 := n1
 clear n1
 refine take0 16 n0 ?_
 refine wpAnyH_done (by kernel_rfl) ?_ _
 go_wp2_with fail
 go_ret
 obtain ⟨k1, z1, x1, t1⟩ := H1.out
 obtain ⟨k2, z2, x2, t2⟩ := H2.out
 have kw : New w w2 := ((Keep.drew (New.refl w)).new k1).new k2
 have x3 := heap_alloc_new w2 (.cells (rstateCells bt2 bs2 s.settled (fun _ => none) fun _ => 0) 113)
 have e3 := d2.on_ext w2 fun _ => J.o
 have x1' : Ext w c d1 := x1
 exact ⟨w2.heap.size, d2.on w2.heap.size fun _ => J.o, rfl, kw.new k3, kw.size, (x1'.trans x2 (Nat.le_trans (Nat.le_refl _) k1.size)).trans e3 kw.size, d2.on_new _ (Nat.le_refl _), hJ, bt2, bs2, fun _ => none, fun _ => 0, x3, ((t1.keep k2 x2 trivial fun _ _ _ => trivial).keep k3 e3 trivial fun _ _ _ => trivial), t2.keep k3 e3 trivial fun _ _ _ => trivial, fun k hk => ⟨⟨Nat.le_refl _, Nat.zero_le _⟩, Row.nil _ _ _ _⟩⟩
/-
  PROVED HERE: what the document's snapshots' Save answers; condition: they may be written.
-/
def rsnapBytes (s : RSnapP) : List UInt8 := beI 8 s.id ++ lenBytes s.hash ++ beI 8 (rtreeBytes s.T).length ++ rtreeBytes s.T
def rsnapsBytes (ns : RSnapsP) : List UInt8 := beI 8 ns.next ++ lenBytes ns.last ++ beI 1 ns.list.length ++ (ns.list.map rsnapBytes).flatten
structure RSnapsOk (ns : RSnapsP) : Prop where
 few : ns.list.length ≤ 8
 tree : ∀ s ∈ ns.list, RTreeOk s.T ∧ (rtreeBytes s.T).length ≤ 100000000000
theorem rsnap_le {s : RSnapP} (h : (rtreeBytes s.T).length ≤ 100000000000) : (rsnapBytes s).length ≤ 100000100000 := by
 unfold rsnapBytes
 have := lenBytes_le s.hash
 rw [List.length_append, List.length_append, List.length_append, beI_length, beI_length]
 omega
section
variable {w : World} {c : Col} {i bs : Nat} {ns : RSnapsP}
set_option maxRecDepth 100000 in
set_option maxHeartbeats 8000000 in
theorem rssave_any (h : RSnapsAt w c i bs ns) (hO : RSnapsOk ns) : Calls Tryz.prog 59 #[.pointer (some ⟨bs, 0, none⟩)] w (BytesRet (rsnapsBytes ns) w) := by
 have hlt := h.lt
 obtain ⟨-, L, cl, A, ca, vs, h1, hcl, hca, hL, hA, hV⟩ := h
 have HO := Lib.hid hO
 have hfew := hO.few
 have c0 : ∀ W, New w W → W.cell? ⟨bs, 0, none⟩ = some (.int .i64 ns.next) := fun W hW => hW.cell_some (cellOf h1 (k := 0) rfl) trivial
 have c1 : ∀ W, New w W → W.cell? ⟨bs, 1, none⟩ = some (.slice L ns.last.length cl) := fun W hW => hW.cell_some (cellOf h1 (k := 1) rfl) trivial
 have c2 : ∀ W, New w W → W.cell? ⟨bs, 2, none⟩ = some (.slice A ns.list.length ca) := fun W hW => hW.cell_some (cellOf h1 (k := 2) rfl) trivial
 have HC := Lib.hid (And.intro c0 (And.intro c1 c2))
 have HR := Lib.hid (And.intro hL (And.intro hA hV))
 have hn := wrap_u64_bd ns.next
 have HE := Lib.hid (beI_wrap 8 ns.next (by decide))
 have HCL := Lib.hid hcl
 obtain ⟨ln, hln⟩ : ∃ ln, ln = ns.last.length := ⟨_, rfl⟩
 rw [← hln] at c1
 have HLN := Lib.hid hln
 have hll := lenBytes_le ns.last
 clear h1 hL hA hV hO hcl hca hln
 go_enter Tryz.func59, Tryz.ntmps59
 go_upto_region 1 with fail
 refine hold_begin (by kernel_rfl) ?_
 have n0 : New w w.drew := (New.refl w).drew
 replace c0 := fun W (hW : New w.drew W) => c0 W (Keep.new n0 hW)
 replace c1 := fun W (hW : New w.drew W) => c1 W (Keep.new n0 hW)
 replace c2 := fun W (hW : New w.drew W) => c2 W (Keep.new n0 hW)
 refine take1 0 ?_
 refine take1 1 ?_
 refine take1 2 ?_
 refine take1 3 ?_
 refine take1 4 ?_
 refine take1 6 ?_
 refine take1 7 ?_
 refine take1 8 ?_
 refine take1 9 ?_
 refine take1 11 ?_
 refine take1 12 ?_
 refine take1 13 ?_
 refine take1 14 ?_
 refine take1 15 ?_
 refine hold_step (i := 5) (by kernel_rfl) rfl rfl (fun K hK => ?_)
 go_simp
 refine (long4_any (fun _ => True) none 0 0 [] (IntKind.u64.wrap ns.next) _ (Row.nil _ _ _ _) (by decide) hn.1 hn.2).mono ?_
 rintro e w2 h2; obtain ⟨⟨A2, d2, rfl, o2⟩, k2⟩ := BytesRet.len h2 (m := 8) (by simp [beI_length])
 go_wp2_with fail
 refine hK.out _ _ k2 ?_
 clear hK K
 try simp only [Act.put, ly1, ly2, ly3, ly4, ly5, ly6]
 replace n0 := Keep.new n0 k2
 replace c0 := fun W (hW : New w2 W) => c0 W (Keep.new k2 hW)
 replace c1 := fun W (hW : New w2 W) => c1 W (Keep.new k2 hW)
 replace c2 := fun W (hW : New w2 W) => c2 W (Keep.new k2 hW)
 rw [HE.out, List.nil_append] at o2
 have o2' := Lib.hid o2
 refine hold_step (i := 10) (by kernel_rfl) rfl rfl (fun K hK => ?_)
 go_simp
 refine (bytes4_any _ _ A2 L 8 d2 ln cl _ ns.last _ (Row.of_own o2'.out) (by rw [HLN.out]; exact (HR.out.1.drew).new k2) (by decide) (by have := HCL.out; have := HLN.out; omega) (by have := HCL.out; have := HLN.out; omega)).mono ?_
 rintro e w3 h3; obtain ⟨L3, hL3⟩ : ∃ L, (beI 8 ns.next ++ lenBytes ns.last).length = L := ⟨_, rfl⟩; obtain ⟨⟨A3, d3, rfl, o3⟩, k3⟩ := BytesRet.len h3 hL3; replace hL3 := Lib.hid hL3
 go_wp2_with fail
 refine hK.out _ _ k3 ?_
 clear hK K
 try simp only [Act.put, ly1, ly2, ly3, ly4, ly5, ly6]
 replace n0 := Keep.new n0 k3
 replace c0 := fun W (hW : New w3 W) => c0 W (Keep.new k3 hW)
 replace c1 := fun W (hW : New w3 W) => c1 W (Keep.new k3 hW)
 replace c2 := fun W (hW : New w3 W) => c2 W (Keep.new k3 hW)
 have o3' := Lib.hid o3
 have hb3 : L3 ≤ 65545 := by have := hL3.out; rw [List.length_append, beI_length] at this; omega
 refine hold_step (i := 16) (by kernel_rfl) rfl rfl (fun K hK => ?_)
 go_simp
 refine (byte4_any _ A3 L3 d3 _ (ns.list.length : Int) _ (Row.of_own o3'.out) (by omega)).mono ?_
 rintro e w4 h4; obtain ⟨⟨A4, d4, rfl, o4⟩, k4⟩ := BytesRet.len h4 (m := L3 + 1) (by rw [List.length_append, hL3.out, beI_length])
 go_wp2_with fail
 refine hK.out _ _ k4 ?_
 clear hK K
 try simp only [Act.put, ly1, ly2, ly3, ly4, ly5, ly6]
 replace n0 := Keep.new n0 k4
 replace c0 := fun W (hW : New w4 W) => c0 W (Keep.new k4 hW)
 replace c1 := fun W (hW : New w4 W) => c1 W (Keep.new k4 hW)
 replace c2 := fun W (hW : New w4 W) => c2 W (Keep.new k4 hW)
 refine take1 17 ?_
 refine wpAnyH_done (by kernel_rfl) ?_ _
 have hz4 : w.heap.size ≤ w3.heap.size := by
  have h2 := k2.size
  have h4 := k3.size
  have e0 : w.drew.heap.size = w.heap.size := rfl
  omega
 have HO4 := Lib.hid (own_base (base := w.heap.size) o4 hz4)
 have HK4 := Lib.hid n0
 clear o2 o3 o4 o2' o3' k2 k3 k4 h2 h3 h4 n0 c0 c1 c2 hz4
 obtain ⟨pre0, hpre0⟩ : ∃ x, x = beI 8 ns.next ++ lenBytes ns.last ++ beI 1 ns.list.length := ⟨_, rfl⟩
 rw [← hpre0] at HO4
 have HP0 := Lib.hid hpre0
 have hpl : pre0.length ≤ 70000 := by rw [hpre0, List.length_append, List.length_append, beI_length, beI_length]; omega
 clear hpre0
 go_wp2_with fail
 go_loopw [3, 4] (fun s3 s4 wx => ∃ (n : Nat) (A3 : Option Addr) (L3 d3 : Nat), s4 = .int .i64 (n : Int) ∧ n ≤ ns.list.length ∧ s3 = .slice A3 L3 d3 ∧ New w wx ∧ OwnB wx w.heap.size 5 A3 L3 d3 (pre0 ++ ((ns.list.take n).map rsnapBytes).flatten)) (fun _ s4 _ => ns.list.length - (intOf s4).toNat)
 case atStart => exact ⟨0, A4, L3 + 1, d4, rfl, Nat.zero_le _, rfl, HK4.out, by simpa using HO4.out⟩
 case round =>
  obtain ⟨n, A5, L5, d5, rfl, hn5, rfl, hkw, ho⟩ := hrel
  have y2 := HC.out.2.2 wr hkw
  have hbnd : (pre0 ++ ((ns.list.take n).map rsnapBytes).flatten).length ≤ 800001000000 := by
   have h1 := flatten_le rsnapBytes 100000100000 (ns.list.take n) fun s hs => rsnap_le (HO.out.tree s (List.mem_of_mem_take hs)).2
   rw [List.length_append]
   have : (ns.list.take n).length * 100000100000 ≤ 8 * 100000100000 := Nat.mul_le_mul_right _ (by rw [List.length_take]; omega)
   omega
  obtain ⟨pre, hpre⟩ : ∃ x, x = pre0 ++ ((ns.list.take n).map rsnapBytes).flatten := ⟨_, rfl⟩
  rw [← hpre] at ho hbnd
  have hL5 : pre.length = L5 := by have h := ho.1; rw [List.length_map] at h; omega
  rw [hL5] at hbnd
  have HL5 := Lib.hid hL5
  have HST := Lib.hid (And.intro hkw (And.intro ho hpre))
  clear hkw ho hpre hL5
  by_cases hlt2 : n < ns.list.length
  ·skip
   have hl2 : (n : Int) < (ns.list.length : Int) := by omega
   obtain ⟨Ah, ch, bt, v0, v1, v2, hch, hbh, htr⟩ := HR.out.2.2 n hlt2
   obtain ⟨g, off, hA, _, _, hcell⟩ := (HR.out.2.1.new HST.out.1).2 (by omega)
   have hok := HO.out.tree ns.list[n] (List.getElem_mem hlt2)
   obtain ⟨s, hs⟩ : ∃ s, s = ns.list[n] := ⟨_, rfl⟩
   rw [← hs] at v0 v1 hch hbh htr hok
   have x0 := hcell _ _ v0
   have x1 : wr.cell? ⟨g, off + n * 3 + 1, none⟩ = some (.slice Ah s.hash.length ch) := by rw [Nat.add_assoc]; exact hcell _ _ v1
   have x2 : wr.cell? ⟨g, off + n * 3 + 2, none⟩ = some (.pointer (some ⟨bt, 0, none⟩)) := by rw [Nat.add_assoc]; exact hcell _ _ v2
   have HTS := Lib.hid (rtsave_any (htr.new HST.out.1) hok.1)
   obtain ⟨hl, hhl⟩ : ∃ hl, hl = s.hash.length := ⟨_, rfl⟩
   rw [← hhl] at x1 hch hbh
   have HS := Lib.hid (And.intro hs hhl)
   have HBH := Lib.hid (And.intro (hbh.new HST.out.1) hch)
   have hsn := wrap_u64_bd s.id
   have HSE := Lib.hid (beI_wrap 8 s.id (by decide))
   have hhb := lenBytes_le s.hash
   subst hA
   obtain ⟨tb, htb⟩ : ∃ tb, tb = rtreeBytes s.T := ⟨_, rfl⟩
   rw [← htb] at HTS hok
   obtain ⟨tn, htn⟩ : ∃ tn, tb.length = tn := ⟨_, rfl⟩
   have htl : tn ≤ 100000000000 := by rw [← htn]; exact hok.2
   have HTB := Lib.hid (And.intro htb htn)
   have HX := Lib.hid (And.intro x0 x1)
   clear hs hhl v0 v1 v2 hcell htr hok hch hbh x0 x1 htb
   go_upto_region 5 with fail
   go_wp2_with fail
   refine HTS.out.mono ?_
   rintro e w5 h5
   obtain ⟨⟨At, dt, rfl, ot⟩, k5⟩ := BytesRet.len h5 htn
   have HOT := Lib.hid ot
   have HK5 := Lib.hid k5
   replace htn := Lib.hid htn
   have q2 : ∀ W, New w5 W → W.cell? ⟨bs, 2, none⟩ = some (.slice (some ⟨g, off, none⟩) ns.list.length ca) := fun W hW => HC.out.2.2 W (HST.out.1.new (HK5.out.new hW))
   have q0 : ∀ W, New w5 W → W.cell? ⟨g, off + n * 3, none⟩ = some (.int .i64 s.id) := fun W hW => (HK5.out.new hW).cell_some HX.out.1 trivial
   have q1 : ∀ W, New w5 W → W.cell? ⟨g, off + n * 3 + 1, none⟩ = some (.slice Ah hl ch) := fun W hW => (HK5.out.new hW).cell_some HX.out.2 trivial
   clear ot k5 h5 x2 y2
   go_upto_region 6 with fail
   refine hold_begin (by kernel_rfl) ?_
   have n0 : New w5 w5.drew := (New.refl w5).drew
   replace q2 := fun W (hW : New w5.drew W) => q2 W (Keep.new n0 hW)
   replace q0 := fun W (hW : New w5.drew W) => q0 W (Keep.new n0 hW)
   replace q1 := fun W (hW : New w5.drew W) => q1 W (Keep.new n0 hW)
   refine take1 0 ?_
   refine take1 1 ?_
   refine take1 2 ?_
   refine take1 3 ?_
   refine take1 4 ?_
   refine take1 5 ?_
   refine take1 6 ?_
   refine take1 7 ?_
   refine take1 8 ?_
   refine take1 9 ?_
   refine take1 11 ?_
   refine take1 12 ?_
   refine take1 13 ?_
   refine take1 14 ?_
   refine take1 15 ?_
   refine take1 16 ?_
   refine take1 17 ?_
   refine take1 18 ?_
   refine hold_step (i := 10) (by kernel_rfl) rfl rfl (fun K hK => ?_)
   go_simp
   refine (long4_any _ A5 L5 d5 pre (IntKind.u64.wrap s.id) _ (((Row.of_own HST.out.2.1).new HK5.out).drew) (by omega) hsn.1 hsn.2).mono ?_
   rintro e w6 h6; obtain ⟨⟨A6, d6, rfl, o6⟩, k6⟩ := BytesRet.len h6 (m := L5 + 8) (by rw [List.length_append, HL5.out, beI_length])
   go_wp2_with fail
   refine hK.out _ _ k6 ?_
   clear hK K
   try simp only [Act.put, ly1, ly2, ly3, ly4, ly5, ly6]
   replace n0 := Keep.new n0 k6
   replace q2 := fun W (hW : New w6 W) => q2 W (Keep.new k6 hW)
   replace q0 := fun W (hW : New w6 W) => q0 W (Keep.new k6 hW)
   replace q1 := fun W (hW : New w6 W) => q1 W (Keep.new k6 hW)
   rw [HSE.out] at o6
   have o6' := Lib.hid o6
   refine hold_step (i := 19) (by kernel_rfl) rfl rfl (fun K hK => ?_)
   go_simp
   refine (bytes4_any _ _ A6 Ah (L5 + 8) d6 hl ch _ s.hash _ (Row.of_own o6'.out) (((HBH.out.1.new HK5.out).drew).new k6) (by omega) (by have := HBH.out.2; omega) HBH.out.2.1).mono ?_
   rintro e w7 h7; obtain ⟨L7, hL7⟩ : ∃ L, (pre ++ beI 8 s.id ++ lenBytes s.hash).length = L := ⟨_, rfl⟩; obtain ⟨⟨A7, d7, rfl, o7⟩, k7⟩ := BytesRet.len h7 hL7; replace hL7 := Lib.hid hL7
   go_wp2_with fail
   refine hK.out _ _ k7 ?_
   clear hK K
   try simp only [Act.put, ly1, ly2, ly3, ly4, ly5, ly6]
   replace n0 := Keep.new n0 k7
   replace q2 := fun W (hW : New w7 W) => q2 W (Keep.new k7 hW)
   replace q0 := fun W (hW : New w7 W) => q0 W (Keep.new k7 hW)
   replace q1 := fun W (hW : New w7 W) => q1 W (Keep.new k7 hW)
   refine take1 20 ?_
   refine wpAnyH_done (by kernel_rfl) ?_ _
   have hb7 : L7 ≤ L5 + 8 + 65537 := by have := hL7.out; rw [List.length_append, List.length_append, HL5.out, beI_length] at this; omega
   have HO7 := Lib.hid o7
   have HK7 := Lib.hid n0
   have HZ7 : Hid (w.heap.size ≤ w6.heap.size) := Lib.hid (by
    have h1 := HST.out.1.size
    have h2 := HK5.out.size
    have h4 := k6.size
    have e0 : w5.drew.heap.size = w5.heap.size := rfl
    omega)
   clear o6 o7 o6' k6 k7 h6 h7 n0 q0 q1 q2
   have htr2 : IntKind.u64.wrap (tn : Int) = (tn : Int) := by rw [IntKind.wrap_u64]; omega
   go_wp2_with fail
   refine (long4_any _ A7 L7 d7 _ (tn : Int) w7 (Row.of_own HO7.out) (by omega) (by omega) (by omega)).mono ?_
   rintro e w8 h8
   obtain ⟨⟨A8, d8, rfl, o8⟩, k8⟩ := BytesRet.len h8 (m := L7 + 8) (by rw [List.length_append, hL7.out, beI_length])
   have hbb : L7 + 8 + tn ≤ 140737488355328 := by omega
   have hbp := (((Row.of_own HOT.out).new HK7.out).new k8)
   have hs8 := k8.size
   have HK8 := Lib.hid k8
   clear h8 k8
   go_wp2_with (at_builtin; refine app_bytes _ rfl _ _ rfl w7.heap.size A8 (L7 + 8) d8 _ rfl o8 _ At tn dt tb rfl hbp hbb hs8 ?_; intro A9 d9 w9 o9 hg9 hbk9)
   have hfin := (Keep.of_new (D := fun b => b < w7.heap.size) HK8.out).grown hg9 (fun j hj hd => absurd hd (by have := (own_lt o8 j hj).1; show ¬ j < w7.heap.size; omega))
   have hK7w : New w w7 := HST.out.1.new (HK5.out.new HK7.out)
   have hzz : w.heap.size ≤ w7.heap.size := hK7w.size
   have hK : New w w9 := (Keep.trans2 (D := fun b => b < w.heap.size) (Keep.of_new hK7w) hfin (fun i hi _ => Nat.lt_of_lt_of_le hi hzz)).toNew (fun i hi => hi)
   have HFF := Lib.hid (And.intro hK (own_base (base := w.heap.size) o9 hzz))
   clear o8 o9 hg9 hbk9 hfin hK hbp hs8 hK7w hzz
   go_roundw
   case rel =>
    obtain ⟨f1, f2⟩ := HFF.out
    refine ⟨n + 1, A9, L7 + 8 + tn, d9, by go_num, hlt2, rfl, f1, ?_⟩
    have e1 : ns.list.take (n + 1) = ns.list.take n ++ [s] := by rw [List.take_succ_eq_append_getElem hlt2, HS.out.1]
    have e9 : pre ++ beI 8 s.id ++ lenBytes s.hash ++ beI 8 tn ++ tb = pre ++ (List.map rsnapBytes [s]).flatten := by rw [← HTB.out.2, HTB.out.1]; simp [rsnapBytes]
    rw [e1, List.map_append, List.flatten_append, ← List.append_assoc, ← HST.out.2.2, ← e9]
    exact f2
   case measure => simp [intOf]; omega
  ·skip
   have hl2 : ¬ (n : Int) < (ns.list.length : Int) := by omega
   go_wp2_with fail
   go_ret
   have e1 : ns.list.take n = ns.list := List.take_of_length_le (by omega)
   have hf := HST.out
   rw [e1, HP0.out] at hf
   have ho2 := hf.2.1
   rw [hf.2.2] at ho2
   exact BytesRet.mk' rfl ho2 hf.1
end
/-
  PROVED HERE: what the document's state's Save answers where every file is closed; condition: it may be written.
-/
def rstBytes (s : RStateP) : List UInt8 := beI 8 s.clock ++ beI 8 (rtreeBytes s.T).length ++ rtreeBytes s.T ++ rsnapsBytes s.S
structure RStateOk (s : RStateP) : Prop where
 clock : 0 ≤ s.clock ∧ s.clock ≤ 18446744073709551615
 few : RFew s.T
 tree : RTreeOk s.T
 size : (rtreeBytes s.T).length ≤ 100000000000
 snaps : RSnapsOk s.S
 ssize : (rsnapsBytes s.S).length ≤ 900000000000
set_option maxRecDepth 100000 in
set_option maxHeartbeats 4000000 in
theorem rstsave_shut {w : World} {c : Col} {I : Cols} {b : Nat} {s : RStateP} (h : RStateAt w c I b s) (hO : RStateOk s) (hS : ∀ p ∈ s.T.nodes, p.2.shut = true) : Calls Tryz.prog 19 #[.pointer (some ⟨b, 0, none⟩)] w (BytesRet (rstBytes s) w) := by
 have hlt := h.lt
 have HST := Lib.hid (rsettled_shut (J := ⟨1, 2, 3⟩) h hO.few hS (by have := hO.snaps.few; omega) ⟨⟨by decide, by decide, by decide⟩, by decide, by decide, by decide⟩)
 obtain ⟨-, -, bt, bs, A, ca, h1, h2, h3, -⟩ := h
 have c1 : w.cell? ⟨b, 1, none⟩ = some (.pointer (some ⟨bs, 0, none⟩)) := cellOf h1 (k := 1) rfl
 have c2 : w.cell? ⟨b, 2, none⟩ = some (.int .u64 s.clock) := cellOf h1 (k := 2) rfl
 have HC := Lib.hid (And.intro c1 c2)
 have H3 := Lib.hid h3
 have HO := Lib.hid hO
 have hck := hO.clock
 obtain ⟨tb, htb⟩ : ∃ x, x = rtreeBytes s.T := ⟨_, rfl⟩
 obtain ⟨tn, htn⟩ : ∃ x, tb.length = x := ⟨_, rfl⟩
 have htl : tn ≤ 100000000000 := by rw [← htn, htb]; exact hO.size
 obtain ⟨sb, hsb⟩ : ∃ x, x = rsnapsBytes s.S := ⟨_, rfl⟩
 obtain ⟨sn, hsn⟩ : ∃ x, sb.length = x := ⟨_, rfl⟩
 have hsl : sn ≤ 900000000000 := by rw [← hsn, hsb]; exact hO.ssize
 have HTB := Lib.hid (And.intro htb htn)
 have HSB := Lib.hid (And.intro hsb hsn)
 clear h1 h2 h3 hO hS c1 c2 htb htn hsb hsn
 go_enter Tryz.func19, Tryz.ntmps19
 go_wp2_with fail
 refine HST.out.mono ?_
 rintro e w1 ⟨b1, d1, rfl, k1, z1, x1, st1⟩
 obtain ⟨-, -, bt1, bs1, A1, ca1, g1, g2, -, -⟩ := st1
 have y0 : w1.cell? ⟨b1, 0, none⟩ = some (.pointer (some ⟨bt1, 0, none⟩)) := cellOf g1 (k := 0) rfl
 have HTS := Lib.hid (rtsave_any g2 HO.out.tree)
 have HK1 := Lib.hid k1
 clear k1 z1 x1 g1 g2 HST
 go_wp2_with fail
 refine HTS.out.mono ?_
 rintro e w2 hb2
 rw [show RStateP.settled s = { s with fd := fun _ => ⟨0, 0, []⟩ } from rfl] at hb2
 dsimp only at hb2
 rw [← HTB.out.1] at hb2
 obtain ⟨⟨At, dt, rfl, ot⟩, k2⟩ := BytesRet.len hb2 HTB.out.2
 have HK2 := Lib.hid (HK1.out.new k2)
 have HOT := Lib.hid ot
 have y2 := HK2.out.cell_some HC.out.2 trivial
 clear ot k2 hb2 HTS y0
 go_wp2_with fail
 refine (long4_any (fun _ => True) none 0 0 [] s.clock w2 (Row.nil _ _ _ _) (by decide) hck.1 hck.2).mono ?_
 rintro e w3 hb3
 obtain ⟨⟨A3, d3, rfl, o3⟩, k3⟩ := BytesRet.len hb3 (m := 8) (by simp [beI_length])
 have HK3 := Lib.hid k3
 have HO3 := Lib.hid o3
 have htr2 : IntKind.u64.wrap (tn : Int) = (tn : Int) := by rw [IntKind.wrap_u64]; omega
 clear k3 hb3 y2 o3
 go_wp2_with fail
 refine (long4_any _ A3 8 d3 _ (tn : Int) w3 (Row.of_own HO3.out) (by decide) (by omega) (by omega)).mono ?_
 rintro e w4 hb4
 obtain ⟨⟨A4, d4, rfl, o4⟩, k4⟩ := BytesRet.len hb4 (m := 16) (by simp [beI_length])
 have HKw := Lib.hid ((HK2.out.new HK3.out).new k4)
 have HOT4 := Lib.hid ((Row.of_own HOT.out).new (HK3.out.new k4))
 have hz3 : w.heap.size ≤ w3.heap.size := (HK2.out.new HK3.out).size
 have HO4 := Lib.hid (own_base (base := w.heap.size) o4 hz3)
 clear hb4 o4 k4
 go_upto_region 3 with fail
 obtain ⟨gb, hgb⟩ : ∃ gb, gb = w.heap.size := ⟨_, rfl⟩
 have HGB := Lib.hid hgb
 have o4 : OwnB w4.drew gb 5 A4 16 d4 ([] ++ beI 8 s.clock ++ beI 8 tn) := by rw [hgb]; exact Own.keepNew HO4.out (Keep.drew (New.refl w4))
 have hz4 : gb ≤ w4.drew.heap.size := by rw [hgb]; exact HKw.out.size
 have hK0 : Keep (Lo gb) w w4.drew := (Keep.of_new HKw.out).drew
 have r1 : ∀ W, Keep (Lo gb) w4.drew W → W.cell? ⟨b, 1, none⟩ = some (.pointer (some ⟨bs, 0, none⟩)) := fun W hW => (hK0.trans hW).cell_some HC.out.1 (by show b < gb; omega)
 have HSS : Hid (∀ W, Keep (Lo gb) w4.drew W → Calls Tryz.prog 59 #[.pointer (some ⟨bs, 0, none⟩)] W (BytesRet sb W)) := Lib.hid fun W hW => by
  rw [HSB.out.1]
  exact rssave_any (RSnapsAt.keep H3.out (hK0.trans hW) (Ext.refl _ _) (by have := RSnapsAt.lt H3.out; show bs < gb; omega) fun b hb _ => by show b < gb; omega) HO.out.snaps
 have hfin : ([] ++ beI 8 s.clock ++ beI 8 tn) ++ tb ++ sb = rstBytes s := by rw [← HTB.out.2, HTB.out.1, HSB.out.1]; unfold rstBytes; simp
 have HFIN := Lib.hid hfin
 have hbd1 : 16 + tn ≤ 140737488355328 := by omega
 have hbd2 : 16 + tn + sn ≤ 140737488355328 := by omega
 clear hfin hK0 hgb
 refine hold_beginS (Keep (Lo gb) w4.drew) (by kernel_rfl) ?_
 have n0 : Keep (Lo gb) w4.drew w4.drew := Keep.refl _ _
 refine take0 0 n0 ?_
 refine take0 1 n0 ?_
 refine take0 3 n0 ?_
 refine take0 4 n0 ?_
 refine take0 5 n0 ?_
 refine take0 6 n0 ?_
 refine hold_step0 (i := 2) (by kernel_rfl) rfl rfl (fun K hK => ?_)
 ·refine wp_bytes _ _ _ rfl gb A4 16 d4 _ rfl o4 _ At tn dt tb rfl HOT4.out.drew hbd1 hz4 ?_
  intro A5 d5 w5 o5 hg5 hbk5
  have n1 := n0.grown hg5 (fun k hk hd => absurd hd (by have := (own_lt o4 k hk).1; show ¬ k < gb; omega))
  refine hK.out _ _ n1 ?_
  clear hK K
  try simp only [Act.put, ly1, ly2, ly3, ly4, ly5, ly6]
  refine hold_step0 (i := 7) (by kernel_rfl) rfl rfl (fun K hK => ?_)
  go_simp
  refine (HSS.out _ n1).mono ?_
  rintro e w6 hb6
  obtain ⟨⟨A6, d6, rfl, o6⟩, k6⟩ := BytesRet.len hb6 HSB.out.2
  go_wp2_with fail
  refine hK.out _ _ (n1.new k6) ?_
  clear hK K
  try simp only [Act.put, ly1, ly2, ly3, ly4, ly5, ly6]
  have o5' := Own.keepNew o5 k6
  have hz6 : gb ≤ w6.heap.size := Nat.le_trans hz4 (n1.new k6).size
  refine hold_step0 (i := 8) (by kernel_rfl) rfl rfl (fun K hK => ?_)
  refine wp_bytes _ _ _ rfl gb A5 (16 + tn) d5 _ rfl o5' _ A6 sn d6 sb rfl (Row.of_own o6) hbd2 hz6 ?_
  intro A7 d7 w7 o7 hg7 hbk7
  have n2 := (n1.new k6).grown hg7 (fun k hk hd => absurd hd (by have := (own_lt o5' k hk).1; show ¬ k < gb; omega))
  refine hK.out _ _ n2 ?_
  clear hK K
  try simp only [Act.put, ly1, ly2, ly3, ly4, ly5, ly6]
  refine take0 9 n2 ?_
  refine wpAnyH_done (by kernel_rfl) ?_ _
  rw [HFIN.out] at o7
  have HX := Lib.hid (And.intro n2 o7)
  clear n2 o7 hg7 hbk7 o5 o5' hg5 hbk5 n1 k6 hb6 o6 o4
  go_wp2_with fail
  go_ret
  obtain ⟨n2, o7⟩ := HX.out
  rw [HGB.out] at n2 o7
  exact BytesRet.mk' rfl o7 (((Keep.of_new (D := Lo w.heap.size) HKw.out).drew.trans n2).toNew fun b hb => hb)
/-
  PROVED HERE: a tree and the document's tree that are the same have the same bytes; so have the snapshots; no condition; no program is named.
-/
structure Same (R : RTreeP) (T : TreeP) : Prop where
 nodes : R.nodes = T.map fun p => (p.1, p.2.n)
 data : R.data = T.map fun p => p.2.b
 names : ∀ p ∈ T, rnamesOf R.e p.1 = p.2.names
 dirs : ∀ x ∈ R.e, ∃ it, getK T x.1 = some it ∧ it.n.kind = 2
structure SameSnap (r : RSnapP) (s : SnapP) : Prop where
 id : r.id = s.id
 hash : r.hash = s.hash
 tree : Same r.T s.T
structure SameSnaps (r : RSnapsP) (s : SnapsP) : Prop where
 next : r.next = s.next
 last : r.last = s.last
 len : r.list.length = s.list.length
 each : ∀ k (h1 : k < r.list.length) (h2 : k < s.list.length), SameSnap r.list[k] s.list[k]
theorem Same.bytes {R : RTreeP} {T : TreeP} (h : Same R T) : rtreeBytes R = treeBytes T := by
 unfold rtreeBytes treeBytes
 have h1 : R.nodes.zip R.data = T.map fun p => ((p.1, p.2.n), p.2.b) := by
  rw [h.nodes, h.data, List.zip_map']
 rw [h1, h.nodes, List.length_map, List.map_map]
 congr 2
 apply List.map_congr_left
 intro p hp
 show ritemBytes R ((p.1, p.2.n), p.2.b) = itemBytes p
 unfold ritemBytes itemBytes
 dsimp only
 rw [h.names p hp]
theorem SameSnaps.bytes {r : RSnapsP} {s : SnapsP} (h : SameSnaps r s) : rsnapsBytes r = snapsBytes s := by
 unfold rsnapsBytes snapsBytes
 rw [h.next, h.last, h.len]
 congr 2
 apply List.ext_getElem
 ·rw [List.length_map, List.length_map, h.len]
 ·intro k h1 h2
  rw [List.getElem_map, List.getElem_map]
  rw [List.length_map] at h1 h2
  have hs := h.each k h1 h2
  unfold rsnapBytes snapBytes
  rw [hs.id, hs.hash, hs.tree.bytes]
theorem same_new : Same rtreeNew stateNew.T where
 nodes := rfl
 data := rfl
 names := by
  intro p hp
  simp [stateNew] at hp
  subst hp
  rfl
 dirs := by intro x hx; simp [rtreeNew] at hx
theorem sameSnaps_new : SameSnaps ⟨[], 1, []⟩ noSnaps := ⟨rfl, rfl, rfl, fun k h1 _ => absurd h1 (Nat.not_lt_zero k)⟩
theorem Same.rok {R : RTreeP} {T : TreeP} (h : Same R T) (hT : TreeOk T) (he : R.e.length ≤ 10000) (hs : ∀ p ∈ R.e, p.2.1.length ≤ 9223372036854775807) (hd : ∀ p ∈ T, p.2.b.length ≤ 9223372036854775807) : RTreeOk R where
 few := by rw [h.nodes, List.length_map]; exact hT.few
 same := by rw [h.nodes, h.data, List.length_map, List.length_map]
 names := he
 till := by
  intro p hp
  rw [h.nodes] at hp
  obtain ⟨x, hx, rfl⟩ := List.mem_map.1 hp
  have := (hT.node x hx).till
  exact ⟨this.1, Int.le_trans this.2 (by decide)⟩
 data := by
  intro d hd'
  rw [h.data] at hd'
  obtain ⟨x, hx, rfl⟩ := List.mem_map.1 hd'
  exact hd x hx
 short := hs
/-
  PROVED HERE: the document's state of nothing may be written, and has the program's bytes; no condition.
-/
theorem rtreeNew_bytes : rtreeBytes rtreeNew = treeBytes stateNew.T := same_new.bytes
theorem rstNew_bytes : rstBytes rstateNew = stBytes stateNew := by
 unfold rstBytes stBytes
 rw [committed_new]
 show beI 8 0 ++ beI 8 (rtreeBytes rtreeNew).length ++ rtreeBytes rtreeNew ++ rsnapsBytes ⟨[], 1, []⟩ = _
 rw [rtreeNew_bytes, sameSnaps_new.bytes]
 rfl
theorem rstNew_ok : RStateOk rstateNew where
 clock := by decide
 few := ⟨by decide, by decide, by decide⟩
 tree := same_new.rok (by have := stateNew_ok.tree; rwa [committed_new] at this) (by decide) (by intro p hp; simp [rtreeNew] at hp) (by intro p hp; simp [stateNew] at hp; subst hp; decide)
 size := by
  show (rtreeBytes rtreeNew).length ≤ _
  rw [rtreeNew_bytes]
  have := stateNew_ok.size
  rwa [committed_new] at this
 snaps := ⟨by decide, fun s hs => by simp [rstateNew] at hs⟩
 ssize := by
  show (rsnapsBytes ⟨[], 1, []⟩).length ≤ _
  rw [sameSnaps_new.bytes]
  decide
theorem rstNew_shut : ∀ p ∈ rstateNew.T.nodes, p.2.shut = true := by
 intro p hp
 simp [rstateNew, rtreeNew] at hp
 subst hp
 rfl
theorem rstsave_new {w : World} {c : Col} {I : Cols} {b : Nat} (h : RStateAt w c I b rstateNew) : Calls Tryz.prog 19 #[.pointer (some ⟨b, 0, none⟩)] w (BytesRet (stBytes stateNew) w) := by
 have := rstsave_shut h rstNew_ok rstNew_shut
 rwa [rstNew_bytes] at this
/-
  PROVED HERE: what law22.id and law22.begin answer; condition: 64 to 1000 sectors.
-/
theorem bs_cells22 {w : World} {g : Nat} {t : TypeId} {C : Array Value} (bs : List UInt8) (hC : C.toList = bs.map byteVal) (h : w.heap[g]? = some (.cells C t (0, 0))) : Bs w (fun _ => True) (some ⟨g, 0, none⟩) bs.length bs := by
 refine ⟨by simp, fun _ => ⟨g, 0, rfl, trivial, (Array.getElem?_eq_some_iff.1 h).1, fun k u hu => ?_⟩⟩
 rw [cell_of_row _ _ _ _ _ (0, 0) h]
 rw [← hC] at hu
 simpa using hu
def id22 : List UInt8 := [48, 49, 50, 51, 52, 53, 54, 55, 56, 57, 97, 98, 99, 100, 101, 102]
theorem id22_any (w : World) : Calls Tryz.prog 38 #[] w fun e w' => (∃ A', e = .returned (.slice A' 16 16) ∧ Bs w' (fun b => w.heap.size ≤ b) A' 16 id22) ∧ New w w' := by
 obtain ⟨w0, e0, k0, l0⟩ := conv_mark 16 16 (heap_alloc_new w (.cells #[.int .u8 48, .int .u8 49, .int .u8 50, .int .u8 51, .int .u8 52, .int .u8 53, .int .u8 54, .int .u8 55, .int .u8 56, .int .u8 57, .int .u8 97, .int .u8 98, .int .u8 99, .int .u8 100, .int .u8 101, .int .u8 102] 5))
 have b0 : Bs (w.alloc (.cells #[.int .u8 48, .int .u8 49, .int .u8 50, .int .u8 51, .int .u8 52, .int .u8 53, .int .u8 54, .int .u8 55, .int .u8 56, .int .u8 57, .int .u8 97, .int .u8 98, .int .u8 99, .int .u8 100, .int .u8 101, .int .u8 102] 5)) (fun _ => True) (some ⟨w.heap.size, 0, none⟩) 16 id22 := bs_cells22 id22 (by simp [byteVal, bv, id22]) (heap_alloc_new w (.cells #[.int .u8 48, .int .u8 49, .int .u8 50, .int .u8 51, .int .u8 52, .int .u8 53, .int .u8 54, .int .u8 55, .int .u8 56, .int .u8 57, .int .u8 97, .int .u8 98, .int .u8 99, .int .u8 100, .int .u8 101, .int .u8 102] 5))
 have b1 : Bs w0 (fun b => w.heap.size ≤ b) (some ⟨w.heap.size, 0, none⟩) 16 id22 := by
  obtain ⟨h1, h2⟩ := Row.like b0 l0
  refine ⟨h1, fun hn => ?_⟩
  obtain ⟨b, off, e, _, hl, hc⟩ := h2 hn
  injection e with e
  injection e with e e'
  subst e e'
  exact ⟨_, _, rfl, Nat.le_refl _, hl, hc⟩
 have n00 : New w w0 := (Keep.trans2 (D := fun b => b < w.heap.size) (Keep.of_new ((New.refl w).alloc (.cells #[.int .u8 48, .int .u8 49, .int .u8 50, .int .u8 51, .int .u8 52, .int .u8 53, .int .u8 54, .int .u8 55, .int .u8 56, .int .u8 57, .int .u8 97, .int .u8 98, .int .u8 99, .int .u8 100, .int .u8 101, .int .u8 102] 5))) k0 (fun i _ hi e => by subst e; exact absurd hi (Nat.lt_irrefl _))).toNew (fun i hi => hi)
 clear b0 k0 l0
 go_enter Tryz.func38, Tryz.ntmps38
 go_wp2_with fail
 go_ret
 exact ⟨⟨_, rfl, b1⟩, n00⟩
theorem LogOn.lower {w : World} {D : Nat → Prop} {base base' bl : Nat} {q : DiskB} {v : LogV} {A : Option Addr} {c : Nat} {S : List UInt8} (h : LogOn w D base' bl q v A c S) (hb : base ≤ base') : LogOn w D base bl q v A c S :=
 ⟨⟨h.log.cells, h.log.waits.rebase hb, h.log.next0, h.log.next1, h.log.few, h.log.out, h.log.apart⟩, h.disk, h.size, h.plan, h.apart, h.row, h.data⟩
set_option maxRecDepth 100000 in
set_option maxHeartbeats 2000000 in
theorem begin22_any (k : Nat) (h0 : 64 ≤ k) (h1 : k ≤ 1000) (J K K2 : Cols) (hJ : J.Ok) (hK : K.Ok) (hK2 : K2.Ok) (w : World) :
  Calls Tryz.prog 23 #[.int .i64 (k : Int)] w fun e w' => New w w' ∧ ∃ (bw : Nat) (q : DiskB) (bs : Nat) (B : StateB) (c : Col) (bl br kb br2 : Nat) (I : Option Addr) (ci : Nat) (H : Option Addr) (hc : Nat),
   e = .returned (.pointer (some ⟨bw, 0, none⟩)) ∧ w.heap.size ≤ bw ∧
   w'.heap[bw]? = some (.cells #[.pointer (some ⟨q.bd, 0, none⟩), .pointer (some ⟨bs, 0, none⟩), .pointer (some ⟨bl, 0, none⟩), .int .i64 k, .int .i64 (k / 4 : Nat), .int .i64 ((k - 1 - 2 * (k / 4)) / 8 : Nat), .slice I 16 ci, .int .u64 2, .int .u64 0, .int .i64 0, .int .i64 0, .slice H 32 hc, .pointer (some ⟨br, 0, none⟩), .slice (some ⟨kb, 0, none⟩) 1 1] 62 (0, 0)) ∧
   w'.heap[kb]? = some (.cells #[.pointer (some ⟨br2, 0, none⟩)] 40 (0, 0)) ∧
   StateAt w' c J bs B stateNew.settled ∧ RStateAt w' c K br rstateNew ∧ RStateAt w' c K2 br2 rstateNew.settled ∧
   (∃ D : Nat → Prop, (∀ b, D b → w.heap.size ≤ b ∧ b ≠ bl) ∧ LogOn w' D w.heap.size bl q ⟨k, k / 4, (k - 1 - 2 * (k / 4)) / 8, 0, 1, genesisOf id22, []⟩ none 0 (fmtBytes k id22)) ∧ Bs w' (fun b => w.heap.size ≤ b) I 16 id22 ∧ Bs w' (fun b => w.heap.size ≤ b) H 32 (genesisOf id22) ∧ 16 ≤ ci ∧ 32 ≤ hc := by
 have HDN := Lib.hid (fun W => dnew_any k h0 (by omega) W)
 have HMF := Lib.hid (fun (W : World) (q : DiskB) (hC : Clean W q (fmtBytes k id22)) => mmount_fmt h0 h1 (by decide) hC (fun _ => 0) J hJ)
 generalize (k - 1 - 2 * (k / 4)) / 8 = g at *
 generalize k / 4 = p at *
 have HH := Lib.hid (And.intro h0 h1)
 have HJ := Lib.hid (And.intro hJ (And.intro hK hK2))
 clear hJ hK hK2
 go_enter Tryz.func23, Tryz.ntmps23
 go_wp2_with fail
 refine (HDN.out _).mono ?_
 rintro e w1 ⟨⟨q, rfl, hq, hd1⟩, k1⟩
 have HC1 := Lib.hid (Clean.of hd1)
 have HQ := Lib.hid (And.intro hq k1)
 clear hd1 hq k1 HDN
 go_wp2_with fail
 refine (id22_any _).mono ?_
 rintro e w2 ⟨⟨A2, rfl, hb2⟩, k2⟩
 have HB2 := Lib.hid hb2
 have HC2 := Lib.hid (HC1.out.new k2)
 have HK2 := Lib.hid k2
 clear hb2 k2
 go_wp2_with fail
 obtain ⟨wr2, hd2⟩ := HC2.out
 refine (mformat_ok (k := k) hd2 (by rw [List.length_replicate]) h0 h1 HC2.out.beyond (by decide) (fun i b h => nomatch h) HB2.out (fun b hb => ⟨fun e => by have := HC1.out.lt b (.inl e); omega, fun e => by have := HC1.out.lt b (.inr (.inr e)); omega⟩) (by decide)).mono ?_
 rintro e w3 ⟨rfl, k3, wr3, hd3⟩
 have HC3 := Lib.hid (Clean.of hd3)
 have HK3 : Hid (New w w3) := Lib.hid ((HQ.out.2.new HK2.out).trans2 k3 fun b hb _ => ⟨fun e => by have := HQ.out.1 b (.inl e); omega, fun e => by have := HQ.out.1 b (.inr (.inl e)); omega, fun e => by have := HQ.out.1 b (.inr (.inr e)); omega⟩)
 clear hd2 k3 hd3 HB2 HC2 HC1 HK2
 have HM := Lib.hid (HMF.out _ _ HC3.out)
 clear HMF
 go_wp2_with fail
 refine HM.out.mono ?_
 rintro e w4 ⟨bs, B, c4, bl, I, ci, H, hc, rfl, k4, zb, xc, hst, zl, hlog, hI, hci, hH, hhc⟩
 have HM4 := Lib.hid (And.intro k4 (And.intro hst (And.intro hlog (And.intro hI (And.intro hH (And.intro hci hhc))))))
 clear k4 xc hst hlog hI hci hH hhc zb zl HM
 have xF := heap_alloc_new w4 (.cells #[.int .i64 k, .int .i64 p, .int .i64 g, .slice I 16 ci, .int .u64 2, .int .u64 0, .int .i64 0, .int .i64 0, .slice H 32 hc] 59)
 have kF := (New.refl w4).alloc (.cells #[.int .i64 k, .int .i64 p, .int .i64 g, .slice I 16 ci, .int .u64 2, .int .u64 0, .int .i64 0, .int .i64 0, .slice H 32 hc] 59)
 go_upto_region 7 with fail
 change Code.wp _ _ _ _ (w4.alloc (.cells #[.int .i64 k, .int .i64 p, .int .i64 g, .slice I 16 ci, .int .u64 2, .int .u64 0, .int .i64 0, .int .i64 0, .slice H 32 hc] 59))
 generalize w4.alloc (.cells #[.int .i64 k, .int .i64 p, .int .i64 g, .slice I 16 ci, .int .u64 2, .int .u64 0, .int .i64 0, .int .i64 0, .slice H 32 hc] 59) = w5 at *
 generalize hgF : w4.heap.size = gF at *
 have HK5 := Lib.hid (And.intro xF (And.intro kF hgF))
 clear xF kF hgF
 have HRN := Lib.hid (rstnew_any c4 K HJ.out.2.1 w5)
 go_wp2_with fail
 refine HRN.out.mono ?_
 rintro e w6 ⟨br, c6, rfl, k6, z6, x6, s6⟩
 have H6 := Lib.hid (And.intro k6 (And.intro z6 (And.intro x6 s6)))
 have f0 : ∀ W, New w6.drew W → W.cell? ⟨gF, 0, none⟩ = some (.int .i64 k) := fun W hW => (Keep.new k6 ((Keep.drew (New.refl w6)).new hW)).cell_some (cellOf HK5.out.1 (k := 0) rfl) trivial
 have f1 : ∀ W, New w6.drew W → W.cell? ⟨gF, 1, none⟩ = some (.int .i64 p) := fun W hW => (Keep.new k6 ((Keep.drew (New.refl w6)).new hW)).cell_some (cellOf HK5.out.1 (k := 1) rfl) trivial
 have f2 : ∀ W, New w6.drew W → W.cell? ⟨gF, 2, none⟩ = some (.int .i64 g) := fun W hW => (Keep.new k6 ((Keep.drew (New.refl w6)).new hW)).cell_some (cellOf HK5.out.1 (k := 2) rfl) trivial
 have f3 : ∀ W, New w6.drew W → W.cell? ⟨gF, 3, none⟩ = some (.slice I 16 ci) := fun W hW => (Keep.new k6 ((Keep.drew (New.refl w6)).new hW)).cell_some (cellOf HK5.out.1 (k := 3) rfl) trivial
 have f4 : ∀ W, New w6.drew W → W.cell? ⟨gF, 4, none⟩ = some (.int .u64 2) := fun W hW => (Keep.new k6 ((Keep.drew (New.refl w6)).new hW)).cell_some (cellOf HK5.out.1 (k := 4) rfl) trivial
 have f5 : ∀ W, New w6.drew W → W.cell? ⟨gF, 5, none⟩ = some (.int .u64 0) := fun W hW => (Keep.new k6 ((Keep.drew (New.refl w6)).new hW)).cell_some (cellOf HK5.out.1 (k := 5) rfl) trivial
 have f6 : ∀ W, New w6.drew W → W.cell? ⟨gF, 6, none⟩ = some (.int .i64 0) := fun W hW => (Keep.new k6 ((Keep.drew (New.refl w6)).new hW)).cell_some (cellOf HK5.out.1 (k := 6) rfl) trivial
 have f7 : ∀ W, New w6.drew W → W.cell? ⟨gF, 7, none⟩ = some (.int .i64 0) := fun W hW => (Keep.new k6 ((Keep.drew (New.refl w6)).new hW)).cell_some (cellOf HK5.out.1 (k := 7) rfl) trivial
 have f8 : ∀ W, New w6.drew W → W.cell? ⟨gF, 8, none⟩ = some (.slice H 32 hc) := fun W hW => (Keep.new k6 ((Keep.drew (New.refl w6)).new hW)).cell_some (cellOf HK5.out.1 (k := 8) rfl) trivial
 have HS := Lib.hid (rsettled_shut (J := K2) (RStateAt.new s6 (Keep.drew (New.refl w6))) rstNew_ok.few rstNew_shut (by decide) HJ.out.2.2)
 clear k6 z6 x6 s6 HRN
 go_upto_region 8 with fail
 refine hold_beginS (Keep (fun _ => True) w6.drew) (by kernel_rfl) ?_
 have n0 : Keep (fun _ => True) w6.drew w6.drew := Keep.refl _ _
 refine take0 0 n0 ?_
 refine take0 1 n0 ?_
 refine take0 2 n0 ?_
 refine take0 3 n0 ?_
 refine take0 4 n0 ?_
 refine take0 5 n0 ?_
 refine hold_step0 (i := 6) (by kernel_rfl) rfl rfl (fun K hK => ?_)
 go_simp
 refine HS.out.mono ?_
 rintro e w7 ⟨br2, c7, rfl, k7, z7, x7, s7⟩; have H7 := Lib.hid (And.intro k7 (And.intro z7 (And.intro x7 s7))); clear z7 x7 s7
 go_wp2_with fail
 have n1 := Keep.new n0 k7
 refine hK.out _ _ n1 ?_
 clear hK K
 try simp only [Act.put, ly1, ly2, ly3, ly4, ly5, ly6]
 replace n0 := n1
 clear n1
 have k8 := (New.refl w7).alloc (.cells #[.pointer (some ⟨br2, 0, none⟩)] 40)
 refine hold_step0 (i := 7) (by kernel_rfl) rfl rfl (fun K hK => ?_)
 go_simp
 go_wp2_with fail
 have n1 := Keep.new n0 k8
 refine hK.out _ _ n1 ?_
 clear hK K
 try simp only [Act.put, ly1, ly2, ly3, ly4, ly5, ly6]
 replace n0 := n1
 clear n1
 refine take0 8 n0 ?_
 have k9 := (New.refl (w7.alloc (.cells #[.pointer (some ⟨br2, 0, none⟩)] 40))).alloc (.cells #[.pointer (some ⟨q.bd, 0, none⟩), .pointer (some ⟨bs, 0, none⟩), .pointer (some ⟨bl, 0, none⟩), .int .i64 k, .int .i64 p, .int .i64 g, .slice I 16 ci, .int .u64 2, .int .u64 0, .int .i64 0, .int .i64 0, .slice H 32 hc, .pointer (some ⟨br, 0, none⟩), .slice (some ⟨w7.heap.size, 0, none⟩) 1 1] 62)
 refine hold_step0 (i := 9) (by kernel_rfl) rfl rfl (fun K hK => ?_)
 go_simp
 go_wp2_with fail
 have n1 := Keep.new n0 k9
 refine hK.out _ _ n1 ?_
 clear hK K
 try simp only [Act.put, ly1, ly2, ly3, ly4, ly5, ly6]
 replace n0 := n1
 clear n1
 refine take0 10 n0 ?_
 refine wpAnyH_done (by kernel_rfl) ?_ _
 go_wp2_with fail
 go_ret
 obtain ⟨k4, s4, l4, hI, hH, hci, hhc⟩ := HM4.out
 obtain ⟨xF, kF, eF⟩ := HK5.out
 obtain ⟨k6, z6, x6, s6⟩ := H6.out
 obtain ⟨-, z7, x7, s7⟩ := H7.out
 have x7 : Ext w6 c6 c7 := x7
 have k56 := k6.drew.new k7
 have k67 : New w6 w7 := (Keep.drew (New.refl w6)).new k7
 have h48 := heap_alloc_new w7 (.cells #[.pointer (some ⟨br2, 0, none⟩)] 40)
 have h49 := k9.blockAt h48 trivial
 have hxW := heap_alloc_new (w7.alloc (.cells #[.pointer (some ⟨br2, 0, none⟩)] 40)) (.cells #[.pointer (some ⟨q.bd, 0, none⟩), .pointer (some ⟨bs, 0, none⟩), .pointer (some ⟨bl, 0, none⟩), .int .i64 k, .int .i64 p, .int .i64 g, .slice I 16 ci, .int .u64 2, .int .u64 0, .int .i64 0, .int .i64 0, .slice H 32 hc, .pointer (some ⟨br, 0, none⟩), .slice (some ⟨w7.heap.size, 0, none⟩) 1 1] 62)
 rw [show (w7.alloc (.cells #[.pointer (some ⟨br2, 0, none⟩)] 40)).heap.size = w7.heap.size + 1 from by simp] at hxW
 have k79 := Keep.new k8 k9
 have k49 : New w4 ((w7.alloc (.cells #[.pointer (some ⟨br2, 0, none⟩)] 40)).alloc (.cells #[.pointer (some ⟨q.bd, 0, none⟩), .pointer (some ⟨bs, 0, none⟩), .pointer (some ⟨bl, 0, none⟩), .int .i64 k, .int .i64 p, .int .i64 g, .slice I 16 ci, .int .u64 2, .int .u64 0, .int .i64 0, .int .i64 0, .slice H 32 hc, .pointer (some ⟨br, 0, none⟩), .slice (some ⟨w7.heap.size, 0, none⟩) 1 1] 62)) := ((kF.new k6).new k67).new k79
 have hz3 := HK3.out.size
 have hz4 := k4.size
 have hz7 : w4.heap.size ≤ w7.heap.size := ((kF.new k6).new k67).size
 clear k8 k9 h48
 generalize (w7.alloc (.cells #[.pointer (some ⟨br2, 0, none⟩)] 40)).alloc (.cells #[.pointer (some ⟨q.bd, 0, none⟩), .pointer (some ⟨bs, 0, none⟩), .pointer (some ⟨bl, 0, none⟩), .int .i64 k, .int .i64 p, .int .i64 g, .slice I 16 ci, .int .u64 2, .int .u64 0, .int .i64 0, .int .i64 0, .slice H 32 hc, .pointer (some ⟨br, 0, none⟩), .slice (some ⟨w7.heap.size, 0, none⟩) 1 1] 62) = wE at *
 refine ⟨(HK3.out.new k4).new k49, w7.heap.size + 1, q, bs, B, c7, bl, br, w7.heap.size, br2, I, ci, H, hc, rfl, by omega, hxW, h49, ?_, ?_, ?_, ?_, ?_, ?_, hci, hhc⟩
 ·have e1 : StateAt w6 c6 J bs B stateNew.settled := s4.keep (kF.new k6) (fun b hb => x6 b (Nat.lt_of_lt_of_le hb kF.size)) fun _ _ _ => trivial
  exact e1.keep (k67.new k79) x7 fun _ _ _ => trivial
 ·exact s6.keep (k67.new k79) x7 fun _ _ _ => trivial
 ·exact s7.new k79
 ·exact ⟨_, fun b hb => ⟨by have := hb.1; omega, hb.2⟩, (l4.lower (by omega)).new k49⟩
 ·exact (hI.imp (E := fun b => w.heap.size ≤ b) fun b _ hb => by omega).new k49
 ·exact (hH.imp (E := fun b => w.heap.size ≤ b) fun b _ hb => by omega).new k49
/-
  PROVED HERE: what mount.Mount answers of a disk whose first sector is no super sector; condition: a disk with no lot waiting.
-/
set_option maxRecDepth 100000 in
set_option maxHeartbeats 2000000 in
theorem mmount_bad {w : World} {q : DiskB} {S : List UInt8} {k : Nat} (h : Clean w q S) (hk : S.length = k * 128) (hsup : superOf (S.take 128) = none) :
  Calls Tryz.prog 31 #[.pointer (some ⟨q.bd, 0, none⟩)] w fun e w' => e = .returned (.tuple #[.pointer none, .pointer none, .agg #[.int .i64 0, .int .i64 0, .int .i64 0, .slice none 0 0, .int .u64 0, .int .u64 0, .int .i64 0, .int .i64 0, .slice none 0 0], .int .i64 41]) ∧ New w w' := by
 have HSP := Lib.hid (fun W (hW : New w W) => msuper_any (h.new hW) hk)
 have HSR : Hid (∀ W e w', MSuperRet W k S e w' → e = .returned (.tuple #[.agg #[.int .i64 0, .int .i64 0, .int .i64 0], .slice none 0 0, .int .i64 41]) ∧ New W w') := Lib.hid fun W e w' hh => by
  unfold MSuperRet at hh
  rw [hsup] at hh
  exact hh
 clear h hk hsup
 have kA := (New.refl w).alloc (.cells foundZero 59)
 have xA := heap_alloc_new w (.cells foundZero 59)
 go_enter Tryz.func31, Tryz.ntmps31
 go_upto_region 1 with fail
 obtain ⟨gr, hgr⟩ : ∃ gr, gr = w.heap.size := ⟨_, rfl⟩
 rw [← hgr] at xA ⊢
 generalize w.alloc (.cells foundZero 59) = w1 at *
 have HGR := Lib.hid hgr
 have HX := Lib.hid xA
 have HK := Lib.hid kA
 have HS1 := Lib.hid (HSP.out w1 kA)
 clear xA kA HSP hgr
 go_wp2_with fail
 refine HS1.out.mono ?_
 rintro e w2 hret
 obtain ⟨rfl, k2⟩ := HSR.out _ _ _ hret
 have k3 := k2.alloc (.cells #[.int .i64 0, .int .i64 0, .int .i64 0] 57)
 have X3 := k3.blockAt HX.out trivial
 have N3 := HK.out.new k3
 clear HS1 HSR hret k2 k3 HX HK
 go_upto_region 5 with fail
 generalize w2.alloc (.cells #[.int .i64 0, .int .i64 0, .int .i64 0] 57) = w3 at *
 obtain ⟨d0, d1, d2, d3, d4, d5, d6, d7, d8⟩ := cs9 X3
 obtain ⟨z0, z1, z2, z3, z4, z5, z6, z7, z8⟩ := fz9 X3
 go_wp2_with fail
 clear d0 d1 d2 d3 d4 d5 d6 d7 d8 z0 z1 z2 z3 z4 z5 z6 z7 z8
 obtain ⟨hE, hKE⟩ := nine_cells X3 (.int .i64 0) (.int .i64 0) (.int .i64 0) (.slice none 0 0) (.int .u64 0) (.int .u64 0) (.int .i64 0) (.int .i64 0) (.slice none 0 0)
 generalize hwE : World.setCell _ _ _ = wE at *
 have f0 : wE.cell? ⟨gr, 0, none⟩ = some (.int .i64 0) := cellOf hE rfl
 have f1 : wE.cell? ⟨gr, 1, none⟩ = some (.int .i64 0) := cellOf hE rfl
 have f2 : wE.cell? ⟨gr, 2, none⟩ = some (.int .i64 0) := cellOf hE rfl
 have f3 : wE.cell? ⟨gr, 3, none⟩ = some (.slice none 0 0) := cellOf hE rfl
 have f4 : wE.cell? ⟨gr, 4, none⟩ = some (.int .u64 0) := cellOf hE rfl
 have f5 : wE.cell? ⟨gr, 5, none⟩ = some (.int .u64 0) := cellOf hE rfl
 have f6 : wE.cell? ⟨gr, 6, none⟩ = some (.int .i64 0) := cellOf hE rfl
 have f7 : wE.cell? ⟨gr, 7, none⟩ = some (.int .i64 0) := cellOf hE rfl
 have f8 : wE.cell? ⟨gr, 8, none⟩ = some (.slice none 0 0) := cellOf hE rfl
 try simp only [Exit.inBlock, Exit.then]
 refine bodyPost_ret (v := .tuple #[.pointer none, .pointer none, .agg #[.int .i64 0, .int .i64 0, .int .i64 0, .slice none 0 0, .int .u64 0, .int .u64 0, .int .i64 0, .int .i64 0, .slice none 0 0], .int .i64 41]) (by simp [results, Tryz.results31, go_sem, f0, f1, f2, f3, f4, f5, f6, f7, f8]) rfl ?_
 exact ⟨rfl, N3.trans2 hKE fun b hb _ => by show b ≠ gr; have := HGR.out; omega⟩
end Go.Proofs.YtijjhfkgbmckkaaGreatDoor
