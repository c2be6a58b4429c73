/-
  PROVED HERE: law22.MountFormats answers true; conditions: what a slice of bytes may have.
-/
import Derived.Test.YtijjhfkgbmckkaaGreatDoorPkF39
import Derived.Test.YtijjhfkgbmckkaaGreatDoorPkF49
namespace Go.Proofs.YtijjhfkgbmckkaaGreatDoor
open Go.RowKit
theorem plan_nat22 {n : Nat} (h0 : 64 ≤ n) (h1 : n ≤ 4096) : planOf (n : Int) = ((n : Int), ((n / 4 : Nat) : Int), (((n - 1 - 2 * (n / 4)) / 8 : Nat) : Int), 0) := by
 rw [planOf_mid (by omega) (by omega)]
 have e1 : (n : Int) / 4 = ((n / 4 : Nat) : Int) := by omega
 have e2 : ((n : Int) - 1 - 2 * ((n : Int) / 4)) / 8 = (((n - 1 - 2 * (n / 4)) / 8 : Nat) : Int) := by omega
 rw [e2, e1]
theorem sized_length22 (bs : List UInt8) (m : Nat) : (sized bs m).length = m := by
 unfold sized
 rw [List.length_append, List.length_take, List.length_replicate]
 omega
def fmtSum : Nat → Nat
 | 0 => 0
 | 1 => 2
 | _ => 3
theorem fmtSum_le (j : Nat) : fmtSum j ≤ 3 := by
 unfold fmtSum
 split <;> omega
set_option maxHeartbeats 400000 in
theorem rdecode_fmt {k p g gn n c : Nat} {id : List UInt8} {A : Option Addr} {W : World} {D : Nat → Prop} (hpr : planRight (k : Int) (p : Int) (g : Int) = true) (hg1 : 1 ≤ gn) (hg2 : gn ≤ 2) (hp : 16 ≤ p) (hB : Bs W D A n (pointBytes (p : Int) (fmtMark id gn))) (hn : n = p * 128) (hc : n ≤ c) (hc9 : c ≤ 9223372036854775807) :
  Calls Tryz.prog 20 #[.agg #[.int .i64 (k : Int), .int .i64 (p : Int), .int .i64 (g : Int)], .slice A n c] W fun e w' => (∃ H hcc B dc, e = .returned (.tuple #[.agg #[.int .u64 (gn : Int), .int .u64 0, .int .i64 0, .slice H 32 hcc, .slice B 51 dc], .int .i64 0]) ∧ Bs w' (fun b => W.heap.size ≤ b) H 32 (genesisOf id) ∧ Bs w' (fun b => W.heap.size ≤ b) B 51 (stBytes stateNew)) ∧ New W w' := by
 have hfm := fmtMark_ok (id := id) (p := p) (g := g) (gen := gn) hg1 hg2 hp
 have e51 : (fmtMark id (gn : Int)).data.length = 51 := hfm.2.2
 have h1 := hfm.1
 have hfit : ((fmtMark id (gn : Int)).data.length : Int) ≤ 128 * (p : Int) - 94 := by rw [e51]; omega
 clear hfm
 have hh : (fmtMark id (gn : Int)).head = genesisOf id := rfl
 have hg : (fmtMark id (gn : Int)).gen = (gn : Int) := rfl
 have hs : (fmtMark id (gn : Int)).seq = 0 := rfl
 have hse : (fmtMark id (gn : Int)).segs = 0 := rfl
 have hd : (fmtMark id (gn : Int)).data = stBytes stateNew := rfl
 generalize fmtMark id (gn : Int) = m at *
 refine (rdecode_any hpr h1 hfit hB (by omega) hc hc9).mono ?_
 rintro e w' ⟨⟨v, rfl, hv⟩, kk⟩
 unfold MarkAt at hv
 rw [e51, hh, hg, hs, hse, hd] at hv
 obtain ⟨H, hcc, B, dc, rfl, ⟨bH, -⟩, bB, -⟩ := hv
 exact ⟨⟨H, hcc, B, dc, rfl, bH, bB⟩, kk⟩
set_option maxRecDepth 100000 in
set_option maxHeartbeats 4000000 in
theorem formats22_any (D1 D2 : Nat → Prop) (A1 A2 : Option Addr) (n1 c1 n2 c2 : Nat) (body seed : List UInt8) (z : Int) (w : World) (hz0 : -9223372036854775808 ≤ z) (hz1 : z ≤ 9223372036854775807) (h1 : Bs w D1 A1 n1 body) (h2 : Bs w D2 A2 n2 seed) (hs1 : n1 ≤ 140737488351232) (hn2 : n2 ≤ c2) (hc2 : n2 ≤ 9223372036854775807) :
  Calls Tryz.prog 3 #[.int .i64 z, .slice A1 n1 c1, .slice A2 n2 c2] w fun e w' => e = .returned (.bool true) ∧ New w w' := by
 obtain ⟨j, hj⟩ : ∃ j : Nat, (j : Int) = 0 + z % (100 - 0 + 1) := ⟨(z % 101).toNat, by omega⟩
 obtain ⟨k, hk⟩ : ∃ k, k = 64 + j := ⟨_, rfl⟩
 have hk0 : 64 ≤ k := by omega
 have hk1 : k ≤ 164 := by omega
 have HWI := Lib.hid (within_any z 0 100 w hz0 hz1 (by decide) (by decide) (by decide))
 rw [← hj] at HWI
 have q1 : IntKind.i64.wrap (64 + (j : Int)) = (k : Int) := by rw [IntWalk.i64_in _ (by omega)]; omega
 have HK := Lib.hid (And.intro hk0 hk1)
 have HS := Lib.hid (And.intro h1 hs1)
 have HSZ := Lib.hid (sized_any A2 n2 c2 16 seed D2 w h2 hc2 hn2 (by decide))
 have HDN := Lib.hid (fun W => dnew_any k hk0 (by omega) W)
 clear hj hk hz0 hz1 h1 h2 hs1 hn2 hc2 hk0 hk1
 go_enter Tryz.func3, Tryz.ntmps3
 go_wp2_with fail
 refine HWI.out.mono ?_
 rintro e wq ⟨rfl, rfl⟩
 clear HWI
 go_wp2_with fail
 refine HSZ.out.mono ?_
 rintro e w1 ⟨⟨A3, c3, rfl, o3⟩, k1⟩
 obtain ⟨id, hid⟩ : ∃ id, id = sized seed 16 := ⟨_, rfl⟩
 rw [← hid] at o3
 have hidl : id.length = 16 := by rw [hid]; exact sized_length22 _ _
 have HID := Lib.hid (And.intro (Row.of_own o3) (And.intro (own_cap o3) hidl))
 have HN1 := Lib.hid k1
 clear HSZ o3 k1 hid hidl
 go_wp2_with fail
 refine (HDN.out _).mono ?_
 rintro e w2 ⟨⟨q, rfl, hq, hd2⟩, k2⟩
 have HQ := Lib.hid hq
 have HC2 := Lib.hid (Clean.of hd2)
 have HN2 := Lib.hid (HN1.out.new k2)
 have HID2 := Lib.hid ((HID.out.1.imp (E := fun b => w.heap.size ≤ b ∧ b < w1.heap.size) fun b hb hd => ⟨hd, hb⟩).new k2)
 clear HDN hq hd2 k2
 obtain ⟨wr2, hd2⟩ := HC2.out
 have HD2 := Lib.hid hd2
 clear hd2
 go_wp2_with fail
 go_loopw [10] (fun i wx => ∃ (t : Nat) (M : Dirt) (n : Nat) (x : Int), i = .int .i64 (t : Int) ∧ t ≤ k + 2 ∧ n ≤ t ∧ (∀ (i : Nat) b, M i = some b → i * 128 + 128 ≤ k * 128) ∧ DiskAt wx (DiskOf q) q (List.replicate (k * 128) 0) M n x ∧ Keep (fun b => b ≠ q.bd ∧ b ≠ q.bm) w2 wx) (fun i _ => k + 2 - (intOf i).toNat)
 case atStart => exact ⟨0, Dirt.no, 0, wr2, rfl, by omega, Nat.le_refl _, (fun _ _ h => nomatch h), HD2.out, Keep.refl _ _⟩
 case round =>
  obtain ⟨t, M, n, x, rfl, ht, hnt, hM, hd, hkp⟩ := hrel
  have HKR := HK.out
  have hNr : New w wr := HN2.out.trans2 hkp fun b hb _ => ⟨fun e => by have h1 := HQ.out b (.inl e); have h2 := HN1.out.size; omega, fun e => by have h1 := HQ.out b (.inr (.inr e)); have h2 := HN1.out.size; omega⟩
  have HDD := Lib.hid (And.intro hd (And.intro hM (And.intro hkp hNr)))
  have hnn : Hid (n ≤ k + 2) := Lib.hid (by omega)
  clear hd hM hkp hNr
  by_cases hlt : t < k
  ·obtain ⟨u, hu⟩ : ∃ u : UInt8, u = UInt8.ofNat (t + 1) := ⟨_, rfl⟩
   have qu : IntKind.u8.wrap ((t : Int) + 1) = bv u := by
    rw [hu]
    unfold bv
    rw [UInt8.toNat_ofNat_of_lt' (by show _ < 256; omega), IntKind.wrap_u8]
    omega
   have q2 : IntKind.i64.wrap ((t : Int) + 1) = (t : Int) + 1 := IntWalk.i64_in _ (by omega)
   clear hu
   have kE := (New.refl wr).alloc (.cells #[.int .u8 (bv u)] 5)
   have hown : OwnB (wr.alloc (.cells #[.int .u8 (bv u)] 5)) wr.heap.size 5 (some ⟨wr.heap.size, 0, none⟩) 1 1 [u] := ⟨by simp, .inr ⟨wr.heap.size, 1, #[.int .u8 (bv u)], rfl, Nat.le_refl _, heap_alloc_new wr _, Nat.le_refl _, by decide, rfl, by simp [byteVal]⟩⟩
   have hbody : Bs (wr.alloc (.cells #[.int .u8 (bv u)] 5)) D1 A1 n1 body := HS.out.1.new (HDD.out.2.2.2.new kE)
   have hb1 : 1 + n1 ≤ 140737488355328 := by have := HS.out.2; omega
   have hb2 : wr.heap.size ≤ (wr.alloc (.cells #[.int .u8 (bv u)] 5)).heap.size := kE.size
   go_wp2_with (at_builtin; refine app_bytes _ rfl _ _ rfl wr.heap.size (some ⟨wr.heap.size, 0, none⟩) 1 1 [u] rfl hown D1 A1 n1 c1 body rfl hbody hb1 hb2 ?_; intro A5 c5 w5 o5 hg5 hbk5; have k5 := kE.grown hg5 (fun j hj _ => (Option.some.inj (show some wr.heap.size = some j from hj)) ▸ Nat.le_refl _); have H5 := Lib.hid (And.intro o5 k5); clear hown hbody hb1 hb2 o5 hg5 hbk5 k5 kE)
   have HSZ := Lib.hid (sized_any A5 (1 + n1) c5 128 ([u] ++ body) _ w5 (Row.of_own H5.out.1) (by have := HS.out.2; omega) (own_cap H5.out.1) (by decide))
   refine HSZ.out.mono ?_
   rintro e w6 ⟨⟨A6, c6, rfl, o6⟩, k6⟩
   have hd6 := HDD.out.1.new (H5.out.2.new k6)
   have HWR := Lib.hid (dwrite_any (k := k) hd6 (by rw [List.length_replicate]) (fun b hb => ⟨fun e => by have := hd6.lt b (.inl e); omega, fun e => by have := hd6.lt b (.inr (.inl e)); omega, fun e => by have := hd6.lt b (.inr (.inr e)); omega⟩) (by omega) t hlt A6 c6 _ (Row.of_own o6))
   have H6 := Lib.hid (H5.out.2.new k6)
   clear HSZ hd6 o6 k6 qu q2
   go_wp2_with fail
   refine HWR.out.mono ?_
   rintro e w7 ⟨rfl, k7, x', hd7⟩
   have H7 := Lib.hid (And.intro k7 hd7)
   clear k7 hd7 HWR
   have q3 : IntKind.i64.wrap ((t : Int) + 3) = ((t + 3 : Nat) : Int) := by rw [IntWalk.i64_in _ (by omega)]; omega
   go_wp2_with fail
   go_roundw
   case rel => exact ⟨t + 3, _, n + 1, x', by go_num, by omega, by omega, fun i b h => by
    by_cases hi : (i : Int) = (t : Int)
    ·omega
    ·exact HDD.out.2.1 i b (by unfold Dirt.put at h; rwa [if_neg hi] at h), H7.out.2, (HDD.out.2.2.1.new H6.out).trans H7.out.1⟩
   case measure => simp [intOf]; omega
  ·have hlt' : ¬ t < k := hlt
   clear hnt ht
   obtain ⟨p, hp⟩ : ∃ p, p = k / 4 := ⟨_, rfl⟩
   obtain ⟨g, hg⟩ : ∃ g, g = (k - 1 - 2 * (k / 4)) / 8 := ⟨_, rfl⟩
   have HOF : Hid (∀ W, Calls Tryz.prog 16 #[.int .i64 (k : Int)] W fun e w' => e = .returned (.tuple #[.agg #[.int .i64 (k : Int), .int .i64 (p : Int), .int .i64 (g : Int)], .int .i64 0]) ∧ New W w') := Lib.hid fun W => by
    have := of19_any (k : Int) (by omega) W
    rw [plan_nat22 HK.out.1 (by have := HK.out.2; omega)] at this
    rw [hg, hp]
    exact this
   have HPG := Lib.hid (And.intro hp hg)
   clear hp hg hlt
   have hMs : ∀ (i : Nat) b, M i = some b → i * 128 + 128 ≤ (List.replicate (k * 128) (0 : UInt8)).length := fun i b h => by rw [List.length_replicate]; exact HDD.out.2.1 i b h
   have HIDr : Hid (Bs wr (fun b => w.heap.size ≤ b ∧ b < w1.heap.size) A3 16 id) := Lib.hid (HID2.out.keep HDD.out.2.2.1 fun b _ hb => ⟨fun e => by have := HQ.out b (.inl e); omega, fun e => by have := HQ.out b (.inr (.inr e)); omega⟩)
   have HFM : Hid (Calls Tryz.prog 13 #[.pointer (some ⟨q.bd, 0, none⟩), .slice A3 16 c3] wr fun e w' => e = .returned (.int .i64 0) ∧ Keep (fun j => j ≠ q.bd ∧ j ≠ q.bs ∧ j ≠ q.bm) wr w' ∧ ∃ wr', DiskAt w' (DiskOf q) q (fmtBytes k id) Dirt.no 0 wr') := Lib.hid (mformat_ok (k := k) HDD.out.1 (by rw [List.length_replicate]) HK.out.1 (by have := HK.out.2; omega) (fun b hb => ⟨fun e => by have := HDD.out.1.lt b (.inl e); omega, fun e => by have := HDD.out.1.lt b (.inr (.inl e)); omega, fun e => by have := HDD.out.1.lt b (.inr (.inr e)); omega⟩) (by have := hnn.out; omega) hMs HIDr.out (fun b hb => ⟨fun e => by have := HQ.out b (.inl e); omega, fun e => by have := HQ.out b (.inr (.inr e)); omega⟩) HID.out.2.1)
   clear hMs HKR
   go_wp2_with fail
   refine HFM.out.mono ?_
   rintro e w3 ⟨rfl, k3, x3, hd3⟩
   have HC3 := Lib.hid (Clean.of hd3)
   have HN3 : Hid (New w w3) := Lib.hid (HDD.out.2.2.2.trans2 k3 fun b hb _ => ⟨fun e => by have h1 := HQ.out b (.inl e); have h2 := HN1.out.size; omega, fun e => by have h1 := HQ.out b (.inr (.inl e)); have h2 := HN1.out.size; omega, fun e => by have h1 := HQ.out b (.inr (.inr e)); have h2 := HN1.out.size; omega⟩)
   have HID3 : Hid (Bs w3 (fun b => w.heap.size ≤ b ∧ b < w1.heap.size) A3 16 id) := Lib.hid (HIDr.out.keep k3 fun b _ hb => ⟨fun e => by have := HQ.out b (.inl e); omega, fun e => by have := HQ.out b (.inr (.inl e)); omega, fun e => by have := HQ.out b (.inr (.inr e)); omega⟩)
   clear HFM HIDr HDD k3 hd3 HC2 HD2 HID2 HN2 hnn
   go_wp2_with fail
   refine (dirty_clean HC3.out).mono ?_
   rintro e w4 ⟨rfl, k4⟩
   have H4 := Lib.hid k4
   clear k4
   go_wp2_with fail
   refine (super19_any (n := (k : Int)) (by have := HK.out.1; omega) (by have := HK.out.2; omega) (HID3.out.new H4.out)).mono ?_
   rintro e w5 ⟨⟨A5, c5, rfl, o5⟩, k5⟩
   have H5 := Lib.hid (And.intro (Row.of_own o5) (And.intro (own_cap o5) (H4.out.new k5)))
   clear o5 k5
   go_wp2_with fail
   refine (HOF.out _).mono ?_
   rintro e w6 ⟨rfl, k6⟩
   have kP := k6.alloc (.cells #[.int .i64 (k : Int), .int .i64 (p : Int), .int .i64 (g : Int)] 36)
   have xP := heap_alloc_new w6 (.cells #[.int .i64 (k : Int), .int .i64 (p : Int), .int .i64 (g : Int)] 36)
   have HN7 := Lib.hid (H5.out.2.2.new kP)
   have HS7 := Lib.hid (H5.out.1.new kP)
   clear HOF k6 kP
   go_upto_region 14 with fail
   generalize w6.alloc (.cells #[.int .i64 (k : Int), .int .i64 (p : Int), .int .i64 (g : Int)] 36) = w7 at *
   generalize w6.heap.size = gp at *
   have HX7 := Lib.hid xP
   clear xP
   go_wp2_with fail
   refine (image_any (HC3.out.new HN7.out)).mono ?_
   rintro e w8 ⟨⟨A8, c8, rfl, b8, hc8, hm8⟩, k8⟩
   rw [fmtBytes_length HK.out.1 HID.out.2.2] at b8 hc8 ⊢
   obtain ⟨L, hL⟩ : ∃ L, L = k * 128 := ⟨_, rfl⟩
   rw [← hL] at b8 hc8 ⊢
   have HL := Lib.hid hL
   clear hL
   have H8 := Lib.hid (And.intro b8 (And.intro hc8 (And.intro hm8 k8)))
   clear b8 hc8 hm8 k8
   go_wp2_with fail
   refine (rstnew_any (fun _ => 0) ⟨1, 2, 3⟩ ⟨⟨by decide, by decide, by decide⟩, by decide, by decide, by decide⟩ _).mono ?_
   rintro e w9 ⟨b9, d9, rfl, k9, z9, x9, s9⟩
   have HSV := Lib.hid (rstsave_new s9)
   unfold BytesRet at HSV
   rw [stNew_length] at HSV
   have H9 := Lib.hid k9
   clear k9 z9 x9 s9
   go_wp2_with fail
   refine HSV.out.mono ?_
   rintro e w10 ⟨⟨A10, c10, rfl, o10⟩, k10⟩
   have H10 := Lib.hid (And.intro (Row.of_own o10) (And.intro (own_cap o10) (H9.out.new k10)))
   clear HSV o10 k10
   have HN10 := Lib.hid (HN7.out.new (H8.out.2.2.2.new H10.out.2.2))
   have HC10 := Lib.hid (And.intro ((H8.out.2.2.2.new H10.out.2.2).blockAt HX7.out trivial) (And.intro (H8.out.1.new H10.out.2.2) (And.intro (HID3.out.new (HN7.out.new (H8.out.2.2.2.new H10.out.2.2))) (HS7.out.new (H8.out.2.2.2.new H10.out.2.2)))))
   go_wp2_with fail
   go_loopw [6, 17, 18, 19] (fun s6 s17 s18 s19 wx => ∃ j : Nat, j ≤ 2 ∧ s6 = .bool false ∧ s17 = .int .i64 ((128 + j * (p * 128) : Nat) : Int) ∧ s18 = .int .i64 ((fmtSum j : Nat) : Int) ∧ s19 = .int .i64 (j : Int) ∧ New w10 wx) (fun _ _ _ i _ => 2 - (intOf i).toNat)
   case atStart => exact ⟨0, by decide, rfl, by simp, rfl, rfl, New.refl _⟩
   case round =>
    obtain ⟨j, hj, rfl, rfl, rfl, rfl, hK⟩ := hrel
    have HR := Lib.hid hK
    clear hK
    by_cases hlt : j < 2
    ·obtain ⟨gn, hgn⟩ : ∃ gn, gn = 2 - j := ⟨_, rfl⟩
     obtain ⟨a, ha⟩ : ∃ a, a = 128 + j * (p * 128) := ⟨_, rfl⟩
     obtain ⟨P, hP⟩ : ∃ P, P = p * 128 := ⟨_, rfl⟩
     obtain ⟨ae, hae⟩ : ∃ ae, ae = a + P := ⟨_, rfl⟩
     obtain ⟨sm, hsm⟩ : ∃ sm, sm = fmtSum j := ⟨_, rfl⟩
     obtain ⟨sm', hsm'⟩ : ∃ sm', sm' = fmtSum (j + 1) := ⟨_, rfl⟩
     rw [← ha, ← hsm]
     have hpk := HPG.out.1
     have hk4 := HK.out
     have hLk := HL.out
     have hsum : sm + gn = sm' := by
      rw [hsm, hsm', hgn]
      rcases j with _ | _ | j
      ·rfl
      ·rfl
      ·omega
     have hsl : sm ≤ 3 := by rw [hsm]; exact fmtSum_le j
     have haj : a = (1 + j * p) * 128 := by rw [ha, Nat.add_mul, Nat.mul_assoc]
     have haL : ae + P * (1 - j) ≤ L := by
      rcases j with _ | _ | j
      ·simp at ha; omega
      ·simp at ha; omega
      ·omega
     have hnext : 128 + (j + 1) * (p * 128) = ae := by rw [hae, ha, hP, Nat.add_mul, Nat.one_mul, Nat.add_assoc]
     have haL' : ae ≤ L := by omega
     have hLc : L ≤ c8 := H8.out.2.1
     have hP1 : 0 < P := by omega
     have q5 : IntKind.i64.wrap ((p : Int) * 128) = (P : Int) := by rw [IntWalk.i64_in _ (by omega)]; omega
     have q6 : IntKind.i64.wrap ((a : Int) + (P : Int)) = (ae : Int) := by rw [IntWalk.i64_in _ (by omega)]; omega
     have q7 : IntKind.i64.wrap ((sm : Int) + (gn : Int)) = (sm' : Int) := by rw [IntWalk.i64_in _ (by omega)]; omega
     have q8 : IntKind.i64.wrap (gn : Int) = (gn : Int) := IntWalk.i64_in _ (by omega)
     have r1 : Int.tmod (gn : Int) 2 = (j : Int) := by
      rcases j with _ | _ | j
      ·rw [hgn]; rfl
      ·rw [hgn]; rfl
      ·omega
     have d5 : decide ((L : Int) < (ae : Int)) = false := decide_eq_false (by omega)
     have i1 : (a : Int) ≤ (ae : Int) := by omega
     have i2 : (ae : Int) ≤ (c8 : Int) := by omega
     have i3 : ¬ c8 = a := by omega
     have i4 : a ≤ ae := by omega
     have i5 : ae ≤ c8 := by omega
     have d6 : ¬ L < ae := by omega
     have q9 : IntKind.i64.wrap (j : Int) = (j : Int) := IntWalk.i64_in _ (by omega)
     have d9 : ((j : Int) != (j : Int)) = false := by simp
     have d7 : decide ((j : Int) < 2) = true := decide_eq_true (by omega)
     have HDE : Hid (∀ W, New wr W → Calls Tryz.prog 20 #[.agg #[.int .i64 (k : Int), .int .i64 (p : Int), .int .i64 (g : Int)], .slice (Option.map (fun x => x.add a) A8) (ae - a) (c8 - a)] W fun e w' => (∃ H hcc B dc, e = .returned (.tuple #[.agg #[.int .u64 (gn : Int), .int .u64 0, .int .i64 0, .slice H 32 hcc, .slice B 51 dc], .int .i64 0]) ∧ Bs w' (fun b => W.heap.size ≤ b) H 32 (genesisOf id) ∧ Bs w' (fun b => W.heap.size ≤ b) B 51 (stBytes stateNew)) ∧ New W w') := Lib.hid fun W hW => by
      have hpr : planRight (k : Int) (p : Int) (g : Int) = true := planRight_iff.2 (by have := HPG.out.2; omega)
      have hgn1 : 1 ≤ gn := by omega
      have hgn2 : gn ≤ 2 := by omega
      have hrow : Bs W (fun b => w7.heap.size ≤ b) (Option.map (fun x => x.add a) A8) (ae - a) (pointBytes (p : Int) (fmtMark id gn)) := by
       have h1 := (Bs.from_ (HC10.out.2.1.new (HR.out.new hW)) (l := a) (by omega)).cutTo (hi := ae - a) (by omega)
       have e1 : ((fmtBytes k id).drop a).take (ae - a) = pointBytes (p : Int) (fmtMark id gn) := by
        have e2 : pointOf (fmtBytes k id) (k / 4) j = fmtPoint k id gn := by
         rcases j with _ | _ | j
         ·rw [hgn]; exact fmt_point0 HK.out.1 HID.out.2.2
         ·rw [hgn]; exact fmt_point1 HK.out.1 HID.out.2.2
         ·omega
        unfold pointOf fmtPoint at e2
        rw [← hpk] at e2
        rw [← e2, ← haj, show ae - a = p * 128 from by omega]
       rw [e1] at h1
       exact h1
      exact rdecode_fmt hpr hgn1 hgn2 (by omega) hrow (by omega) (by omega) (by have := H8.out.2.2.1; omega)
     have p0 : wr.cell? ⟨gp, 0, none⟩ = some (.int .i64 (k : Int)) := HR.out.cell_some (cellOf HC10.out.1 (k := 0) rfl) trivial
     have p1 : wr.cell? ⟨gp, 1, none⟩ = some (.int .i64 (p : Int)) := HR.out.cell_some (cellOf HC10.out.1 (k := 1) rfl) trivial
     have HAR := Lib.hid (And.intro hgn (And.intro hnext (And.intro hsum hsl)))
     have HSM := Lib.hid (And.intro hsm' hP)
     clear hgn ha hP hae hsm hsm' hpk hk4 hLk hsum hsl haj haL hnext haL' hLc hP1
     go_upto_region 23 with fail
     clear p0 p1
     go_cut [20, 21] from 90 to 102 (fun s20 s21 wx => ∃ (gf : Nat) (H : Option Addr) (hcc : Nat) (B : Option Addr) (dc : Nat), s20 = .pointer (some ⟨gf, 0, none⟩) ∧ s21 = .int .i64 0 ∧ wx.heap[gf]? = some (.cells #[.int .u64 (gn : Int), .int .u64 0, .int .i64 0, .slice H 32 hcc, .slice B 51 dc] 44 (0, 0)) ∧ Bs wx (fun b => b ≠ gf) H 32 (genesisOf id) ∧ Bs wx (fun b => b ≠ gf) B 51 (stBytes stateNew) ∧ New wr wx)
     case first =>
      have hdr : New wr wr.drew := Keep.drew (New.refl wr)
      have p0 : ∀ W, Keep (fun _ => True) wr.drew W → W.cell? ⟨gp, 0, none⟩ = some (.int .i64 (k : Int)) := fun W hW => hW.cell_some (cellOf (w := wr.drew) (HR.out.blockAt HC10.out.1 trivial) (k := 0) rfl) trivial
      have p1 : ∀ W, Keep (fun _ => True) wr.drew W → W.cell? ⟨gp, 1, none⟩ = some (.int .i64 (p : Int)) := fun W hW => hW.cell_some (cellOf (w := wr.drew) (HR.out.blockAt HC10.out.1 trivial) (k := 1) rfl) trivial
      have p2 : ∀ W, Keep (fun _ => True) wr.drew W → W.cell? ⟨gp, 2, none⟩ = some (.int .i64 (g : Int)) := fun W hW => hW.cell_some (cellOf (w := wr.drew) (HR.out.blockAt HC10.out.1 trivial) (k := 2) rfl) trivial
      refine hold_beginS (Keep (fun _ => True) wr.drew) (by kernel_rfl) ?_
      have n0 : Keep (fun _ => True) wr.drew wr.drew := Keep.refl _ _
      generalize wr.drew = wd at *
      refine take0 0 n0 ?_
      refine take0 1 n0 ?_
      refine take0 2 n0 ?_
      refine take0 3 n0 ?_
      refine take0 4 n0 ?_
      refine take0 5 n0 ?_
      refine take0 6 n0 ?_
      refine take0 7 n0 ?_
      refine take0 8 n0 ?_
      clear p0 p1 p2
      refine hold_fork0 (i := 9) (j := 13) (by kernel_rfl) rfl rfl rfl rfl (fun K hK => ?_) (fun K hK => ?_)
      ·skip
       go_simp
       refine (HDE.out _ (hdr.new n0)).mono ?_
       rintro e wa ⟨⟨H, hcc, B, dc, rfl, bH, bB⟩, k_wa⟩
       go_wp2_with fail
       have n_wa := Keep.new n0 k_wa
       refine hK.out _ _ n_wa ?_
       clear hK K
       try simp only [Act.put, ly1, ly2, ly3, ly4, ly5, ly6]
       refine take0 10 n_wa ?_
       refine take0 11 n_wa ?_
       refine take0 12 n_wa ?_
       refine hold_step0 (i := 13) (by kernel_rfl) rfl rfl (fun K hK => ?_)
       go_simp
       try go_wp2_with fail
       have k_wb := (New.refl wa).alloc (.cells #[.int .u64 0, .int .u64 0, .int .i64 0, .slice none 0 0, .slice none 0 0] 44)
       have xF := heap_alloc_new wa (.cells #[.int .u64 0, .int .u64 0, .int .i64 0, .slice none 0 0, .slice none 0 0] 44)
       have n_wb := Keep.new n_wa k_wb
       refine hK.out _ _ n_wb ?_
       clear hK K
       try simp only [Act.put, ly1, ly2, ly3, ly4, ly5, ly6]
       generalize hnx : wa.alloc (.cells #[.int .u64 0, .int .u64 0, .int .i64 0, .slice none 0 0, .slice none 0 0] 44) = wb at *
       generalize hgf : wa.heap.size = gf at *
       have hgfl : wd.heap.size ≤ gf := by rw [← hgf]; exact n_wa.size
       have bHs : Bs wb (fun b => b ≠ gf) H 32 (genesisOf id) := (bH.imp (E := fun b => b ≠ gf) fun b hb _ => by omega).new k_wb
       have bBs : Bs wb (fun b => b ≠ gf) B 51 (stBytes stateNew) := (bB.imp (E := fun b => b ≠ gf) fun b hb _ => by omega).new k_wb
       obtain ⟨f0, f1, f2, f3, f4⟩ := cs5 xF
       obtain ⟨z0, z1, z2, z3, z4⟩ := fz5 xF
       obtain ⟨hE, hKE⟩ := five_cells xF (.int .u64 (gn : Int)) (.int .u64 0) (.int .i64 0) (.slice H 32 hcc) (.slice B 51 dc)
       have nE : Keep (fun _ => True) wd _ := Keep.trans2 n_wb hKE fun b hb _ => by have := hgfl; show b ≠ gf; omega
       refine hold_step0 (i := 14) (by kernel_rfl) rfl rfl (fun K hK => ?_)
       go_simp
       try go_wp2_with fail
       clear f0 f1 f2 f3 f4 z0 z1 z2 z3 z4
       refine hK.out _ _ nE ?_
       clear hK K
       try simp only [Act.put, ly1, ly2, ly3, ly4, ly5, ly6]
       refine take0 15 nE ?_
       refine wpAnyH_done (by kernel_rfl) ?_ _
       generalize hwE : World.setCell _ _ _ = wE at *
       go_wp2_with fail
       go_meet
       exact ⟨gf, H, hcc, B, dc, rfl, rfl, hE, bHs.keep hKE fun b _ hb => hb, bBs.keep hKE fun b _ hb => hb, hdr.new nE⟩
      ·skip
       go_simp
       try go_wp2_with fail
       have k_wa := (New.refl wd).alloc (.cells #[.int .u64 0, .int .u64 0, .int .i64 0, .slice none 0 0, .slice none 0 0] 44)
       have xF := heap_alloc_new wd (.cells #[.int .u64 0, .int .u64 0, .int .i64 0, .slice none 0 0, .slice none 0 0] 44)
       have n_wa := Keep.new n0 k_wa
       refine hK.out _ _ n_wa ?_
       clear hK K
       try simp only [Act.put, ly1, ly2, ly3, ly4, ly5, ly6]
       generalize hnx : wd.alloc (.cells #[.int .u64 0, .int .u64 0, .int .i64 0, .slice none 0 0, .slice none 0 0] 44) = wa at *
       generalize hgf : wd.heap.size = gf at *
       have hgfl : wd.heap.size ≤ gf := by rw [← hgf]; exact Nat.le_refl _
       have hgfa : gf < wa.heap.size := (Array.getElem?_eq_some_iff.1 xF).1
       refine hold_step0 (i := 9) (by kernel_rfl) rfl rfl (fun K hK => ?_)
       go_simp
       refine (HDE.out _ (hdr.new n_wa)).mono ?_
       rintro e wb ⟨⟨H, hcc, B, dc, rfl, bH, bB⟩, k_wb⟩
       go_wp2_with fail
       have n_wb := Keep.new n_wa k_wb
       refine hK.out _ _ n_wb ?_
       clear hK K
       try simp only [Act.put, ly1, ly2, ly3, ly4, ly5, ly6]
       refine take0 10 n_wb ?_
       refine take0 11 n_wb ?_
       refine take0 12 n_wb ?_
       have xF := k_wb.blockAt xF trivial
       have bHs : Bs wb (fun b => b ≠ gf) H 32 (genesisOf id) := bH.imp (E := fun b => b ≠ gf) fun b _ hb => by omega
       have bBs : Bs wb (fun b => b ≠ gf) B 51 (stBytes stateNew) := bB.imp (E := fun b => b ≠ gf) fun b _ hb => by omega
       obtain ⟨f0, f1, f2, f3, f4⟩ := cs5 xF
       obtain ⟨z0, z1, z2, z3, z4⟩ := fz5 xF
       obtain ⟨hE, hKE⟩ := five_cells xF (.int .u64 (gn : Int)) (.int .u64 0) (.int .i64 0) (.slice H 32 hcc) (.slice B 51 dc)
       have nE : Keep (fun _ => True) wd _ := Keep.trans2 n_wb hKE fun b hb _ => by have := hgfl; show b ≠ gf; omega
       refine hold_step0 (i := 14) (by kernel_rfl) rfl rfl (fun K hK => ?_)
       go_simp
       try go_wp2_with fail
       clear f0 f1 f2 f3 f4 z0 z1 z2 z3 z4
       refine hK.out _ _ nE ?_
       clear hK K
       try simp only [Act.put, ly1, ly2, ly3, ly4, ly5, ly6]
       refine take0 15 nE ?_
       refine wpAnyH_done (by kernel_rfl) ?_ _
       generalize hwE : World.setCell _ _ _ = wE at *
       go_wp2_with fail
       go_meet
       exact ⟨gf, H, hcc, B, dc, rfl, rfl, hE, bHs.keep hKE fun b _ hb => hb, bBs.keep hKE fun b _ hb => hb, hdr.new nE⟩
     case rest =>
      obtain ⟨gf, H, hcc, B, dc, rfl, rfl, hF, bH, bB, kF⟩ := hcut
      have HGF := Lib.hid (And.intro hF (And.intro bH (And.intro bB kF)))
      obtain ⟨gh, hgh⟩ : ∃ gh, gh = genesisOf id := ⟨_, rfl⟩
      obtain ⟨sb, hsb⟩ : ∃ sb, sb = stBytes stateNew := ⟨_, rfl⟩
      have y0 : ∀ W, New wc W → W.cell? ⟨gf, 0, none⟩ = some (.int .u64 (gn : Int)) := fun W h => h.cell_some (cellOf hF (k := 0) rfl) trivial
      have y1 : ∀ W, New wc W → W.cell? ⟨gf, 1, none⟩ = some (.int .u64 0) := fun W h => h.cell_some (cellOf hF (k := 1) rfl) trivial
      have y2 : ∀ W, New wc W → W.cell? ⟨gf, 2, none⟩ = some (.int .i64 0) := fun W h => h.cell_some (cellOf hF (k := 2) rfl) trivial
      have y3 : ∀ W, New wc W → W.cell? ⟨gf, 3, none⟩ = some (.slice H 32 hcc) := fun W h => h.cell_some (cellOf hF (k := 3) rfl) trivial
      have y4 : ∀ W, New wc W → W.cell? ⟨gf, 4, none⟩ = some (.slice B 51 dc) := fun W h => h.cell_some (cellOf hF (k := 4) rfl) trivial
      have v1 : ∀ W, New wc W → (convert 22 9 (.slice H 32 hcc)).run Tryz.prog W = .ok (.string (strOf gh)) W := fun W h => run_str (by rw [hgh]; exact Row.new bH h)
      have v2 : ∀ W, New wc W → (convert 22 9 (.slice B 51 dc)).run Tryz.prog W = .ok (.string (strOf sb)) W := fun W h => run_str (by rw [hsb]; exact Row.new bB h)
      have v3 : ∀ W, New wc W → (convert 22 9 (.slice A10 51 c10)).run Tryz.prog W = .ok (.string (strOf sb)) W := fun W h => run_str (by rw [hsb]; exact Row.new H10.out.1 ((HR.out.new kF).new h))
      have HGN : Hid (∀ W, New wc W → Calls Tryz.prog 21 #[.slice A3 16 c3] W fun e w' => (∃ A' c', e = .returned (.slice A' 32 c') ∧ OwnB w' W.heap.size 5 A' 32 c' gh) ∧ New W w') := Lib.hid fun W h => by
       rw [hgh]
       exact genesis18_any _ A3 16 c3 id W (HC10.out.2.2.1.new ((HR.out.new kF).new h)) (by decide)
      have HV : Hid (∀ W b A9 c9, OwnB W b 5 A9 32 c9 gh → ∀ W', New W W' → (convert 22 9 (.slice A9 32 c9)).run Tryz.prog W' = .ok (.string (strOf gh)) W') :=
       Lib.hid fun W b A9 c9 ho W' h => run_str (Row.of_own (Own.keepNew ho h))
      have hss : (gh == gh) = true := by simp
      have hst : (sb == sb) = true := by simp
      clear hF bH bB kF hgh hsb HDE
      go_upto_region 24 with fail
      refine hold_begin (by kernel_rfl) ?_
      have n0 : New wc wc.drew := (New.refl wc).drew
      replace y0 := fun W (hW : New wc.drew W) => y0 W (Keep.new n0 hW)
      replace y1 := fun W (hW : New wc.drew W) => y1 W (Keep.new n0 hW)
      replace y2 := fun W (hW : New wc.drew W) => y2 W (Keep.new n0 hW)
      replace y3 := fun W (hW : New wc.drew W) => y3 W (Keep.new n0 hW)
      replace y4 := fun W (hW : New wc.drew W) => y4 W (Keep.new n0 hW)
      replace v1 := fun W (hW : New wc.drew W) => v1 W (Keep.new n0 hW)
      replace v2 := fun W (hW : New wc.drew W) => v2 W (Keep.new n0 hW)
      replace v3 := fun W (hW : New wc.drew W) => v3 W (Keep.new n0 hW)
      refine take1 0 ?_
      refine take1 1 ?_
      refine take1 2 ?_
      refine take1 3 ?_
      refine take1 4 ?_
      refine take1 5 ?_
      refine take1 6 ?_
      refine take1 7 ?_
      refine take1 8 ?_
      refine take1 9 ?_
      refine take1 10 ?_
      refine take1 11 ?_
      refine take1 12 ?_
      refine take1 13 ?_
      refine take1 14 ?_
      refine take1 15 ?_
      refine take1 16 ?_
      refine take1 17 ?_
      refine take1 18 ?_
      refine take1 19 ?_
      refine take1 20 ?_
      refine take1 21 ?_
      refine take1 22 ?_
      refine take1 23 ?_
      refine take1 24 ?_
      refine hold_step (i := 25) (by kernel_rfl) rfl rfl (fun K hK => ?_)
      go_simp
      refine (HGN.out _ n0).mono ?_
      rintro e wd ⟨⟨Ag, cg, rfl, og⟩, kg⟩; have v4 := HV.out wd _ Ag cg og; clear og
      go_wp2_with fail
      refine hK.out _ _ kg ?_
      clear hK K
      try simp only [Act.put, ly1, ly2, ly3, ly4, ly5, ly6]
      replace n0 := Keep.new n0 kg
      replace y0 := fun W (hW : New wd W) => y0 W (Keep.new kg hW)
      replace y1 := fun W (hW : New wd W) => y1 W (Keep.new kg hW)
      replace y2 := fun W (hW : New wd W) => y2 W (Keep.new kg hW)
      replace y3 := fun W (hW : New wd W) => y3 W (Keep.new kg hW)
      replace y4 := fun W (hW : New wd W) => y4 W (Keep.new kg hW)
      replace v1 := fun W (hW : New wd W) => v1 W (Keep.new kg hW)
      replace v2 := fun W (hW : New wd W) => v2 W (Keep.new kg hW)
      replace v3 := fun W (hW : New wd W) => v3 W (Keep.new kg hW)
      refine take1 26 ?_
      refine take1 27 ?_
      refine take1 28 ?_
      refine take1 29 ?_
      refine take1 30 ?_
      refine take1 31 ?_
      refine take1 32 ?_
      refine take1 33 ?_
      refine take1 34 ?_
      refine take1 35 ?_
      refine take1 36 ?_
      refine wpAnyH_done (by kernel_rfl) ?_ _
      have HWD := Lib.hid (HGF.out.2.2.2.new n0)
      have HY0 := Lib.hid (y0 wd (New.refl _))
      clear y0 y1 y2 y3 y4 v1 v2 v3 v4 HGN HV hss hst kg n0
      have y0 := HY0.out
      have p1 : wd.cell? ⟨gp, 1, none⟩ = some (.int .i64 (p : Int)) := (HR.out.new HWD.out).cell_some (cellOf HC10.out.1 (k := 1) rfl) trivial
      go_wp2_with fail
      go_roundw
      case rel => exact ⟨j + 1, by omega, rfl, by rw [HAR.out.2.1], by rw [← HSM.out.1], by go_num, HR.out.new HWD.out⟩
      case measure => simp [intOf]; omega
    ·obtain rfl : j = 2 := by omega
     obtain ⟨a, ha⟩ : ∃ a, a = 128 + 2 * (p * 128) := ⟨_, rfl⟩
     rw [← ha, show fmtSum 2 = 3 from rfl]
     have hpk := HPG.out.1
     have hk4 := HK.out
     have hLk := HL.out
     have hLc : L ≤ c8 := H8.out.2.1
     have q5 : IntKind.i64.wrap ((k : Int) * 128) = (L : Int) := by rw [IntWalk.i64_in _ (by omega)]; omega
     have q6 : IntKind.i64.wrap ((L : Int) - (a : Int)) = ((L - a : Nat) : Int) := by rw [IntWalk.i64_in _ (by omega)]; omega
     have i1 : 128 ≤ c8 := by omega
     have i2 : (128 : Int) ≤ (c8 : Int) := by omega
     have i3 : a ≤ L := by omega
     have i4 : ¬ c8 = a := by omega
     have i5 : (a : Int) ≤ (L : Int) := by omega
     have hbs : (fmtBytes k id).take 128 = superBytes (k : Int) id := by
      unfold fmtBytes
      exact seg_left (superBytes_length HID.out.2.2)
     have htl : (fmtBytes k id).drop a = List.replicate (L - a) 0 := by
      have e1 : a = (1 + 2 * (k / 4)) * 128 := by omega
      have hs : (superBytes (k : Int) id).length = 128 := superBytes_length HID.out.2.2
      have h2 := fmtPoint_length (id := id) (gen := 2) HK.out.1 (by decide) (by decide)
      have h1 := fmtPoint_length (id := id) (gen := 1) HK.out.1 (by decide) (by decide)
      unfold fmtBytes
      rw [seg_right hs (by omega), seg_right h2 (by omega), seg_right' h1 (by omega)]
      congr 1
      omega
     obtain ⟨su, hsu⟩ : ∃ su, su = superBytes (k : Int) id := ⟨_, rfl⟩
     obtain ⟨ze, hze⟩ : ∃ ze : List UInt8, ze = List.replicate (L - a) 0 := ⟨_, rfl⟩
     have hB := HC10.out.2.1.new HR.out
     have v1 : ∀ W, New wr W → (convert 22 9 (.slice A8 128 c8)).run Tryz.prog W = .ok (.string (strOf su)) W := fun W h => run_str (by rw [hsu, ← hbs]; exact (Bs.cutTo hB (hi := 128) (by omega)).new h)
     have v2 : ∀ W, New wr W → (convert 22 9 (.slice A5 128 c5)).run Tryz.prog W = .ok (.string (strOf su)) W := fun W h => run_str (by rw [hsu]; exact Row.new HC10.out.2.2.2 (HR.out.new h))
     have v3 : ∀ W, New wr W → (convert 22 9 (.slice (Option.map (fun x => x.add a) A8) (L - a) (c8 - a))).run Tryz.prog W = .ok (.string (strOf ze)) W := fun W h => run_str (by rw [hze, ← htl]; exact (Bs.from_ hB (l := a) (by omega)).new h)
     have hss : (su == su) = true := by simp
     have hsz : (ze == ze) = true := by simp
     have HLA : Hid (L - a ≤ 1000000) := Lib.hid (by omega)
     have HZE := Lib.hid hze
     clear hpk hk4 hLk hbs htl hsu hB ha hj hlt hze
     go_upto_region 28 with fail
     refine hold_begin (by kernel_rfl) ?_
     have n0 : New wr wr.drew := (New.refl wr).drew
     replace v1 := fun W (hW : New wr.drew W) => v1 W (Keep.new n0 hW)
     replace v2 := fun W (hW : New wr.drew W) => v2 W (Keep.new n0 hW)
     replace v3 := fun W (hW : New wr.drew W) => v3 W (Keep.new n0 hW)
     refine take1 0 ?_
     refine take1 1 ?_
     refine take1 2 ?_
     refine take1 3 ?_
     refine take1 4 ?_
     refine take1 5 ?_
     refine take1 6 ?_
     refine take1 7 ?_
     refine take1 8 ?_
     refine take1 9 ?_
     refine take1 10 ?_
     refine take1 11 ?_
     refine take1 12 ?_
     refine take1 13 ?_
     refine take1 14 ?_
     refine take1 15 ?_
     refine take1 16 ?_
     refine take1 17 ?_
     refine take1 18 ?_
     refine take1 19 ?_
     refine take1 20 ?_
     refine take1 21 ?_
     refine take1 22 ?_
     refine take1 23 ?_
     refine take1 24 ?_
     refine take1 25 ?_
     have hmk := fun W => make_noughts (L - a) HLA.out W
     refine hold_step (i := 26) (by kernel_rfl) rfl rfl (fun K hK => ?_)
     go_simp
     go_wp2_with fail
     have k5 : New wr.drew ((wr.alloc (.cells (Array.replicate (L - a) (byteVal 0)) 5)).drew) := (New.refl wr.drew).alloc _
     have b5 : Bs ((wr.alloc (.cells (Array.replicate (L - a) (byteVal 0)) 5)).drew) (fun _ => True) (some ⟨wr.heap.size, 0, none⟩) (L - a) ze := by have h := bs_cells22 (w := ((wr.alloc (.cells (Array.replicate (L - a) (byteVal 0)) 5)).drew)) (g := wr.heap.size) (C := Array.replicate (L - a) (byteVal 0)) (t := 5) (List.replicate (L - a) 0) (by simp) (heap_alloc_new wr _); rw [List.length_replicate, ← HZE.out] at h; exact h
     have v5 : ∀ W, New ((wr.alloc (.cells (Array.replicate (L - a) (byteVal 0)) 5)).drew) W → (convert 22 9 (.slice (some ⟨wr.heap.size, 0, none⟩) (L - a) (L - a))).run Tryz.prog W = .ok (.string (strOf ze)) W := fun W h => run_str (b5.new h)
     refine hK.out _ _ k5 ?_
     clear hK K b5 hmk v1 v2 v3
     try simp only [Act.put, ly1, ly2, ly3, ly4, ly5, ly6]
     replace n0 := Keep.new n0 k5
     generalize ((wr.alloc (.cells (Array.replicate (L - a) (byteVal 0)) 5)).drew) = w5 at *
     refine take1 27 ?_
     refine take1 28 ?_
     refine take1 29 ?_
     refine take1 30 ?_
     replace v1 := v5
     replace v2 := v5
     replace v3 := v5
     refine hold_step (i := 31) (by kernel_rfl) rfl rfl (fun K hK => ?_)
     go_simp
     refine (known22_any _).mono ?_
     rintro e w6 ⟨rfl, k6⟩
     go_wp2_with fail
     refine hK.out _ _ k6 ?_
     clear hK K
     try simp only [Act.put, ly1, ly2, ly3, ly4, ly5, ly6]
     replace n0 := Keep.new n0 k6
     replace v1 := fun W (hW : New w6 W) => v1 W (Keep.new k6 hW)
     replace v2 := fun W (hW : New w6 W) => v2 W (Keep.new k6 hW)
     replace v3 := fun W (hW : New w6 W) => v3 W (Keep.new k6 hW)
     refine take1 32 ?_
     refine take1 33 ?_
     refine wpAnyH_done (by kernel_rfl) ?_ _
     go_wp2_with fail
     go_ret
     exact ⟨rfl, (HN3.out.new HN10.out).new (HR.out.new n0)⟩
end Go.Proofs.YtijjhfkgbmckkaaGreatDoor
