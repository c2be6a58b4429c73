/-
  PROVED HERE: what permafrostlaw24.chain answers; conditions: lengths that a slice may have.
-/
import Derived.Test.YtfegdgaanmcecaaGreatDoorPkN30
namespace Go.Proofs.YtfegdgaanmcecaaGreatDoor
open Go.RowKit
theorem ownHeadsR_sl {w : World} {base : Nat} {D : Nat → Prop} {A : Option Addr} {n c : Nat} {hs : List HeadP} : OwnHeadsR w base D A n c hs ↔ OwnSl 40 headElt w base D A n c hs := Iff.rfl
theorem ownImgs_sl {w : World} {base : Nat} {D : Nat → Prop} {A : Option Addr} {n c : Nat} {ls : List (List UInt8)} : OwnImgs w base D A n c ls ↔ OwnSl 31 imgElt w base D A n c ls := by
 constructor
 ·rintro ⟨vs, h1, h2, h3⟩
  exact ⟨vs, h1, h2, fun k hk => by rw [show k * imgElt.size = k from Nat.mul_one k]; exact h3 k hk⟩
 ·rintro ⟨vs, h1, h2, h3⟩
  exact ⟨vs, h1, h2, fun k hk => by have := h3 k hk; rwa [show k * imgElt.size = k from Nat.mul_one k] at this⟩
structure Tri (w : World) (base : Nat) (O : Option Addr) (k oc : Nat) (im : List (List UInt8)) (H : Option Addr) (n hc : Nat) (hs : List HeadP) (R : Option Addr) (m rc : Nat) (rs : List RecP) : Prop where
 imgs : OwnImgs w base (fun b => (base ≤ b ∧ some b ≠ blk R) ∧ some b ≠ blk H) O k oc im
 heads : OwnHeadsR w base (fun b => (base ≤ b ∧ some b ≠ blk R) ∧ some b ≠ blk O) H n hc hs
 refs : OwnRefs w base (fun b => b < base) R m rc rs
section
variable {w w' : World} {base : Nat} {O H R A3 : Option Addr} {k oc n hc m rc n3 c3 : Nat} {im : List (List UInt8)} {hs : List HeadP} {rs : List RecP}
theorem Tri.nil (w : World) (base : Nat) : Tri w base none 0 0 [] none 0 0 [] none 0 0 [] := ⟨OwnImgs.nil _ _ _, OwnHeadsR.nil _ _ _, OwnRefs.nil _ _ _⟩
theorem Tri.new (h : Tri w base O k oc im H n hc hs R m rc rs) (hk : New w w') : Tri w' base O k oc im H n hc hs R m rc rs := ⟨h.imgs.new hk, h.heads.new hk, h.refs.new hk⟩
theorem Tri.image (h : Tri w base O k oc im H n hc hs R m rc rs) {ls3 : List (List UInt8)} (h3 : OwnImgs w' base (fun b => (base ≤ b ∧ some b ≠ blk R) ∧ some b ≠ blk H) A3 n3 c3 ls3) (hg : w.grownBy w' (blk O)) (hbk : blk A3 = blk O ∨ blk A3 = some w.heap.size) : Tri w' base A3 n3 c3 ls3 H n hc hs R m rc rs := by
 obtain ⟨_, h1⟩ := (ownImgs_sl.1 h.imgs).own
 obtain ⟨_, r1, _⟩ := h.refs
 exact ⟨h3, ownHeadsR_sl.2 ((ownHeadsR_sl.1 h.heads).beside h1 (by decide) hg hbk), h.refs.keepE (keep_blk hg) (own_apart6 h1 r1 (by decide)) (fun b hb e => by have := (h.imgs.lt b e.symm).1; omega)⟩
theorem Tri.head (h : Tri w base O k oc im H n hc hs R m rc rs) {ls3 : List HeadP} (h3 : OwnHeadsR w' base (fun b => (base ≤ b ∧ some b ≠ blk R) ∧ some b ≠ blk O) A3 n3 c3 ls3) (hg : w.grownBy w' (blk H)) (hbk : blk A3 = blk H ∨ blk A3 = some w.heap.size) : Tri w' base O k oc im A3 n3 c3 ls3 R m rc rs := by
 obtain ⟨_, h1⟩ := (ownHeadsR_sl.1 h.heads).own
 obtain ⟨_, r1, _⟩ := h.refs
 exact ⟨ownImgs_sl.2 ((ownImgs_sl.1 h.imgs).beside h1 (by decide) hg hbk), h3, h.refs.keepE (keep_blk hg) (own_apart6 h1 r1 (by decide)) (fun b hb e => by have := (h.heads.lt b e.symm).1; omega)⟩
theorem Tri.more (h : Tri w base O k oc im H n hc hs R m rc rs) {rs3 : List RecP} (h3 : OwnRefs w' base (fun b => b < base) A3 n3 c3 rs3) (hg : w.grownBy w' (blk R)) (hbk : blk A3 = blk R ∨ blk A3 = some w.heap.size) : Tri w' base O k oc im H n hc hs A3 n3 c3 rs3 := by
 obtain ⟨_, h1, _⟩ := h.refs
 have hi := (ownImgs_sl.1 h.imgs).imp (F := fun b => (base ≤ b ∧ some b ≠ blk H) ∧ some b ≠ blk R) fun b _ hd => ⟨⟨hd.1.1, hd.2⟩, hd.1.2⟩
 have hh := (ownHeadsR_sl.1 h.heads).imp (F := fun b => (base ≤ b ∧ some b ≠ blk O) ∧ some b ≠ blk R) fun b _ hd => ⟨⟨hd.1.1, hd.2⟩, hd.1.2⟩
 exact ⟨ownImgs_sl.2 ((hi.beside h1 (by decide) hg hbk).imp fun b _ hd => ⟨⟨hd.1.1, hd.2⟩, hd.1.2⟩), ownHeadsR_sl.2 ((hh.beside h1 (by decide) hg hbk).imp fun b _ hd => ⟨⟨hd.1.1, hd.2⟩, hd.1.2⟩), h3⟩
end
def ChainRet24 (d : ChainS) (w : World) (e : Ending) (w' : World) : Prop :=
 (∃ O oc H hc R rc, e = .returned (.tuple #[.slice O d.images.length oc, .slice H d.heads.length hc, .slice R d.recs.length rc]) ∧ Tri w' w.heap.size O d.images.length oc d.images H d.heads.length hc d.heads R d.recs.length rc d.recs) ∧ New w w'
theorem chainRecs_many {next : Int} {raw : List (List UInt8)} (h : raw.length ≠ 0) : (chainRecs next raw).length = min raw.length 6 := by rw [chainRecs_some h]; simp
theorem chainRecs_at {next : Int} {raw : List (List UInt8)} (h0 : 0 ≤ next) (h1 : next ≤ 1000000) {j : Nat} (hj : j < raw.length) (h6 : j < 6) : (chainRecs next raw).take (j + 1) = (chainRecs next raw).take j ++ [⟨1, next + j, raw[j].take 60⟩] := by
 have hl := chainRecs_many (next := next) (raw := raw) (by omega)
 have hjl : j < (chainRecs next raw).length := by omega
 have hw : IntKind.u64.wrap (next + IntKind.u64.wrap (j : Nat)) = next + j := by rw [IntKind.wrap_u64, IntKind.wrap_u64]; omega
 have e : (chainRecs next raw)[j] = ⟨1, next + j, raw[j].take 60⟩ := by
  simp only [chainRecs_some (show raw.length ≠ 0 by omega), List.getElem_map, List.getElem_range]
  rw [hw, List.getD_eq_getElem?_getD, List.getElem?_eq_getElem hj]
  rfl
 rw [List.take_add_one, List.getElem?_eq_getElem hjl, e]
 rfl
set_option maxRecDepth 100000 in
set_option maxHeartbeats 4000000 in
theorem chain24_any (D2 : Nat → Prop) (A2 : Option Addr) (n2 c2 : Nat) (l : List (List (List UInt8))) (w : World) (hR : Raws8 w D2 A2 n2 l) (hn2 : n2 ≤ 9223372036854775807) :
  Calls Tryz.prog 9 #[.slice A2 n2 c2] w (ChainRet24 (chainTo id24 l (min n2 6)) w) := by
 have HL := Lib.hid hR.len
 have HR := Lib.hid (hR.imp (E := fun b => b < w.heap.size) fun b hb _ => hb)
 have HID := Lib.hid id24_any
 generalize id24 = id at *
 have HOK := Lib.hid (fun k hk => chain_ok id l k hk)
 clear hR
 obtain ⟨fin, hfin⟩ : ∃ f, f = chainTo id l (min n2 6) := ⟨_, rfl⟩
 rw [← hfin]
 have HFIN := Lib.hid hfin
 clear hfin
 go_enter Tryz.func9, Tryz.ntmps9
 go_wp2_with fail
 have h00 : chainTo id l 0 = ⟨[], [], [], genesisOf id, 1⟩ := rfl
 go_loopw [5, 6, 7, 8, 9] (fun s5 s6 s7 s8 i wx => ∃ (k m : Nat) (O H R : Option Addr) (oc hc rc : Nat) (s : ChainS), (k ≤ n2 ∧ k ≤ 6) ∧ i = .int .i64 (k : Int) ∧ s5 = .slice O k oc ∧ s6 = .slice H k hc ∧ s7 = .slice R m rc ∧ s8 = .int .u64 s.next ∧ s = chainTo id l k ∧ m = s.recs.length ∧ Tri wx w.heap.size O k oc s.images H k hc s.heads R m rc s.recs ∧ New w wx) (fun _ _ _ _ i _ => 6 - (intOf i).toNat)
 case atStart => exact ⟨0, 0, none, none, none, 0, 0, 0, _, ⟨Nat.zero_le _, Nat.zero_le _⟩, rfl, rfl, rfl, rfl, rfl, rfl, rfl, Tri.nil _ _, New.refl _⟩
 case round =>
  clear h00
  obtain ⟨k, m, O, H, R, oc, hc, rc, s, hk, rfl, rfl, rfl, rfl, rfl, hs, hm, hC, hK⟩ := hrel
  have HK := Lib.hid hK
  have HC := Lib.hid hC
  have hgw : w.heap.size ≤ wr.heap.size := hK.size
  have HLO := Lib.hid (fun j hj => (hC.imgs.lt j hj).2)
  have HLR := Lib.hid (fun j hj => (hC.refs.lt j hj).2)
  have HLH := Lib.hid (fun j hj => (hC.heads.lt j hj).2)
  have hok := HOK.out k (by omega)
  rw [← hs] at hok
  have hn0 : 0 ≤ s.next := by have := hok.next0; omega
  have hn1 : s.next ≤ 1000000 := by have := hok.next1; omega
  have hm48 : m ≤ 48 := by have h1 := hok.recs; have h2 := hok.next1; omega
  have HPV := Lib.hid hok.prev
  have HLAST := Lib.hid hok.last.symm
  clear hC hK hok
  by_cases hlt : k < n2 ∧ k < 6
  ·have hkl : k < l.length := by have := HL.out; omega
   have hlt1 : k < n2 := hlt.1
   have hlt2 : (k : Int) < 6 := by omega
   obtain ⟨b, off, I, ci, rfl, u0, hci, hci9, hI⟩ := (HR.out.new HK.out).at_ hkl
   have HSUC : Hid (chainTo id l (k + 1) = ⟨s.images ++ [segBytes k s.next s.prev (chainRecs s.next l[k])], s.heads ++ [chainHead k s.next s.prev (chainRecs s.next l[k])], s.recs ++ chainRecs s.next l[k], sealOf (chainHead k s.next s.prev (chainRecs s.next l[k])), s.next + ((chainRecs s.next l[k]).length : Nat)⟩) := Lib.hid (by
    rw [chainTo, ← hs, List.getD_eq_getElem?_getD, List.getElem?_eq_getElem hkl]
    rfl)
   have hfine := chain_fine (i := k) (next := s.next) (prev := s.prev) (raw := l[k]) (by omega) hn0 hn1 HPV.out
   have HBUILD := Lib.hid (chain_build (i := k) (next := s.next) (prev := s.prev) (raw := l[k]) (by omega) hn0 hn1 HPV.out)
   have HREAD : Hid (segRead (segBytes k s.next s.prev (chainRecs s.next l[k])) = (chainHead k s.next s.prev (chainRecs s.next l[k]), chainRecs s.next l[k], 0)) := Lib.hid hfine.read
   have HSEGL := Lib.hid (segBytes_length (k : Int) s.next s.prev (chainRecs s.next l[k]) HPV.out hfine.room)
   have HBODY : Hid (∀ r ∈ chainRecs s.next l[k], r.body.length ≤ 9223372036854770000) := Lib.hid fun r hr => by
    have h := (hfine.right r hr).1
    rw [recRight_def, decide_eq_true_eq] at h
    omega
   have HF0 : Hid (0 ≤ (chainHead k s.next s.prev (chainRecs s.next l[k])).first ∧ (chainHead k s.next s.prev (chainRecs s.next l[k])).first ≤ 18446744073709551615) := Lib.hid ⟨hn0, by show s.next ≤ _; omega⟩
   have hq := chainRecs_length s.next l[k]
   have HMANY := Lib.hid (chainRecs_many (next := s.next) (raw := l[k]))
   have HNONE := Lib.hid (chainRecs_none (next := s.next) (raw := l[k]))
   have HAT := Lib.hid (fun j (hj : j < l[k].length) (h6 : j < 6) => chainRecs_at hn0 hn1 hj h6)
   have HI := Lib.hid hI
   have HII := Lib.hid (fun j (hj : j < l[k].length) W (hW : New wr W) => (hI.new hW).at_ hj)
   have HM := Lib.hid hm
   clear hfine hI hs hm
   generalize segBytes k s.next s.prev (chainRecs s.next l[k]) = seg at *
   generalize chainHead k s.next s.prev (chainRecs s.next l[k]) = hd at *
   obtain ⟨im, he, al, pv, nx⟩ := s
   dsimp only at *
   generalize chainRecs nx l[k] = rs at *
   generalize l[k] = raw at *
   generalize wr = w0 at *
   go_wp2_with fail
   go_loopw [10, 11] (fun s11 j wx => ∃ (i : Nat) (S : Option Addr) (sc : Nat), (i ≤ raw.length ∧ i ≤ 6) ∧ j = .int .i64 (i : Int) ∧ s11 = .slice S i sc ∧ OwnRefs wx w0.heap.size (fun b => b < w.heap.size) S i sc (rs.take i) ∧ New w0 wx) (fun _ j _ => 6 - (intOf j).toNat)
   case atStart => exact ⟨0, none, 0, ⟨Nat.zero_le _, Nat.zero_le _⟩, rfl, rfl, OwnRefs.nil _ _ _, New.refl _⟩
   case round =>
    obtain ⟨j, S, sc, hj, rfl, rfl, hS, hKS⟩ := hrel
    have v0 := hKS.cell_some u0 trivial
    by_cases hjlt : j < raw.length ∧ j < 6
    ·have hj1 : j < raw.length := hjlt.1
     have hj2 : (j : Int) < 6 := by omega
     obtain ⟨b2, off2, B, cb, rfl, _, x0, hcb, hcb9, hbs⟩ := HII.out j hj1 wr hKS
     have HAJ := Lib.hid (HAT.out j hj1 hjlt.2)
     have hw1 : IntKind.u64.wrap (j : Int) = (j : Int) := by rw [IntKind.wrap_u64]; omega
     have hw2 : IntKind.u64.wrap (nx + (j : Int)) = nx + (j : Int) := by rw [IntKind.wrap_u64]; omega
     have hyl : (raw[j].take 60).length = min raw[j].length 60 := by rw [List.length_take, Nat.min_comm]
     have hcut := Lib.hid (cut_any B raw[j].length cb 60 raw[j] _ wr hbs (by omega) hcb (by decide))
     have hbc := hbs.cutMin 60
     have HS := Lib.hid hS
     have HKS := Lib.hid hKS
     clear hS hKS hbs
     generalize raw[j].take 60 = y at *
     generalize hmin : min raw[j].length 60 = mn at *
     have hmc : mn ≤ cb := by omega
     clear hmin
     generalize raw[j].length = ilj at *
     subst hyl
     go_wp2_with fail
     refine hcut.out.mono ?_
     rintro e w' ⟨rfl, rfl⟩
     have hrow := Row.made wr 53 #[.int .i64 1, .int .u64 (nx + (j : Int)), .slice B y.length cb] 1 3 rfl
     have hN : New wr (wr.alloc (.cells #[.int .i64 1, .int .u64 (nx + (j : Int)), .slice B y.length cb] 53)) := (New.refl wr).alloc _
     have HSA := Lib.hid (HS.out.new hN)
     have hby : Bs (wr.alloc (.cells #[.int .i64 1, .int .u64 (nx + (j : Int)), .slice B y.length cb] 53)) (fun b => b < w.heap.size ∧ some b ≠ blk S) B y.length y := (hbc.new hN).imp fun b _ hb => ⟨hb, fun e => by have := (HS.out.lt b e.symm).1; omega⟩
     have hs0 : 0 ≤ nx + (j : Int) := by omega
     have hs1 : nx + (j : Int) ≤ 18446744073709551615 := by omega
     have hbd : j + 1 ≤ 1099511627776 := by omega
     have hsz : w0.heap.size ≤ (wr.alloc (.cells #[.int .i64 1, .int .u64 (nx + (j : Int)), .slice B y.length cb] 53)).heap.size := Nat.le_trans HKS.out.size hN.size
     go_wp2_with (at_builtin; refine app_refs _ rfl _ _ rfl w0.heap.size (fun b => b < w.heap.size) S j sc (rs.take j) rfl HSA.out _ _ 1 B cb ⟨1, nx + (j : Int), y⟩ rfl hrow hby hmc hcb9 hs0 hs1 hbd hsz ?_; intro A3 c3 w3 hown3 hg3 hbk3)
     go_roundw
     case rel => exact ⟨j + 1, A3, c3, ⟨by omega, by omega⟩, by go_num, rfl, by rw [HAJ.out]; exact hown3, (HKS.out.new hN).grown hg3 (fun i hi _ => (HSA.out.lt i hi).1)⟩
     case measure => simp [intOf]; omega
    ·by_cases hraw : raw.length = 0
     ·have hj0 : j = 0 := by omega
      subst hj0
      have HRS := Lib.hid (HNONE.out hraw)
      have HRQ : Hid (rs.length = 1) := Lib.hid (by rw [HRS.out]; rfl)
      have HW0 := Lib.hid hKS
      have hraw' : ¬ 0 < raw.length := by omega
      clear hS hKS hjlt HMANY HAT HII HI
      go_wp2_with fail
      have hown := own_base (base := w0.heap.size) (own_new wr 53 3 1 #[.int .i64 2, .int .u64 nx, .slice none 0 0] rfl (by decide)) HW0.out.size
      have hSS : OwnRefs (wr.alloc (.cells #[.int .i64 2, .int .u64 nx, .slice none 0 0] 53)) w0.heap.size (fun b => b < w.heap.size) (some ⟨wr.heap.size, 0, none⟩) 1 1 rs := by
       rw [HRS.out]
       refine ⟨_, hown, rfl, fun j hj => ?_⟩
       obtain rfl : j = 0 := by simpa using hj
       exact ⟨none, 0, rfl, rfl, rfl, Nat.le_refl _, Row.nil _ _ _ _, hn0, by show nx ≤ _; omega, by decide⟩
      have hKS := HW0.out.alloc (.cells #[.int .i64 2, .int .u64 nx, .slice none 0 0] 53)
      clear hown HRS
      generalize wr.alloc _ = wS at *
      obtain ⟨S, hSe⟩ : ∃ S, S = some (Addr.mk wr.heap.size 0 none) := ⟨_, rfl⟩
      rw [← hSe] at hSS ⊢
      clear hSe
      -- here: hSS : OwnRefs wS w0.heap.size (fun b => b < w.heap.size) S 1 1 rs, hKS : New w0 wS
      have HSS := Lib.hid hSS
      have HKS := Lib.hid hKS
      clear hSS hKS
      refine (HID.out wS).mono ?_
      rintro e wI ⟨⟨AI, rfl, bI⟩, kI⟩
      have HHD := head18_any _ _ AI H 16 16 k hc id he wI bI (by omega) (HC.out.heads.new (HKS.out.new kI)).heads (by omega)
      rw [HLAST.out] at HHD
      have HHD := Lib.hid HHD
      clear bI
      go_wp2_with fail
      refine HHD.out.mono ?_
      rintro e wJ ⟨⟨P, pc, rfl, oP⟩, kJ⟩
      have HKS := Lib.hid (HKS.out.new (kI.new kJ))
      have HSS := Lib.hid (HSS.out.new (kI.new kJ))
      have HB17 := build17_any _ _ (k : Int) nx P S pc 1 1 pv rs wJ (by rw [HPV.out]; exact Row.of_own oP) (by rw [HPV.out]; exact own_cap oP) (HSS.out.recs HBODY.out) (by omega) hn0
      rw [HPV.out, HBUILD.out] at HB17
      have HB17 := Lib.hid HB17
      clear HHD oP kI kJ
      go_wp2_with fail
      refine HB17.out.mono ?_
      rintro e w2 ⟨⟨B, bc, rfl, ob⟩, hK2⟩
      dsimp only at ob ⊢
      rw [HSEGL.out] at ob ⊢
      have HR17 := read17_any _ B 1024 bc seg w2 (Row.of_own ob) (own_cap ob) (own_capMax ob)
      rw [HREAD.out] at HR17
      have HR17 := Lib.hid HR17
      have OB := Lib.hid (own_base (base := w0.heap.size) ob HKS.out.size)
      have HBC := Lib.hid (And.intro (own_cap ob) (own_capMax ob))
      have HS2 := Lib.hid (HSS.out.new hK2)
      have HK2 := Lib.hid (HKS.out.new hK2)
      clear ob hK2 HB17
      go_wp2_with fail
      refine HR17.out.mono ?_
      rintro e w3 ⟨⟨P1, p1, P2, p2, A3, c3, rfl, hp1, hp2, hb1, hb2, -⟩, hK3⟩
      dsimp only at hp1 hp2 hb1 hb2 ⊢
      have hN : New w3 ((w3.alloc (.cells #[.int .i64 hd.index, .int .u64 hd.first, .int .i64 hd.count, .int .i64 hd.bytes, .slice P1 hd.prev.length p1, .slice P2 hd.root.length p2] 40)).alloc (.cells #[.slice B 1024 bc] 31)) := ((New.refl w3).alloc _).alloc _
      have HX := Lib.hid (((New.refl (w3.alloc (.cells #[.int .i64 hd.index, .int .u64 hd.first, .int .i64 hd.count, .int .i64 hd.bytes, .slice P1 hd.prev.length p1, .slice P2 hd.root.length p2] 40))).alloc (.cells #[.slice B 1024 bc] 31)).blockAt (heap_alloc_new w3 (.cells #[.int .i64 hd.index, .int .u64 hd.first, .int .i64 hd.count, .int .i64 hd.bytes, .slice P1 hd.prev.length p1, .slice P2 hd.root.length p2] 40)) trivial)
      have hrow := Row.made (w3.alloc (.cells #[.int .i64 hd.index, .int .u64 hd.first, .int .i64 hd.count, .int .i64 hd.bytes, .slice P1 hd.prev.length p1, .slice P2 hd.root.length p2] 40)) 31 #[.slice B 1024 bc] 1 1 rfl
      rw [show (w3.alloc (.cells #[.int .i64 hd.index, .int .u64 hd.first, .int .i64 hd.count, .int .i64 hd.bytes, .slice P1 hd.prev.length p1, .slice P2 hd.root.length p2] 40)).heap.size = w3.heap.size + 1 from by simp] at hrow
      have HKA := Lib.hid ((HK2.out.new hK3).new hN)
      have HCA := Lib.hid (HC.out.new HKA.out)
      have OBA := Lib.hid (Own.keepNew (Own.keepNew OB.out hK3) hN)
      have HSA := Lib.hid ((HS2.out.new hK3).new hN)
      have hge3 : w0.heap.size ≤ w3.heap.size := (HK2.out.new hK3).size
      have hb1 := Lib.hid ((hb1.new hN).imp (E := fun b => w0.heap.size ≤ b) (fun b _ hb => Nat.le_trans HK2.out.size hb))
      have hb2 := Lib.hid ((hb2.new hN).imp (E := fun b => w0.heap.size ≤ b) (fun b _ hb => Nat.le_trans HK2.out.size hb))
      have hbi : Bs ((w3.alloc (.cells #[.int .i64 hd.index, .int .u64 hd.first, .int .i64 hd.count, .int .i64 hd.bytes, .slice P1 hd.prev.length p1, .slice P2 hd.root.length p2] 40)).alloc (.cells #[.slice B 1024 bc] 31)) (fun b => ((w.heap.size ≤ b ∧ some b ≠ blk R) ∧ some b ≠ blk H) ∧ some b ≠ blk O) B 1024 seg := (Row.of_own OBA.out).imp (fun b _ hb => ⟨⟨⟨Nat.le_trans hgw hb, fun e => by have := HLR.out b e.symm; omega⟩, fun e => by have := HLH.out b e.symm; omega⟩, fun e => by have := HLO.out b e.symm; omega⟩)
      have hcA : 1024 ≤ bc := HBC.out.1
      have hcB : bc ≤ 9223372036854775807 := HBC.out.2
      have hsA : w.heap.size ≤ ((w3.alloc (.cells #[.int .i64 hd.index, .int .u64 hd.first, .int .i64 hd.count, .int .i64 hd.bytes, .slice P1 hd.prev.length p1, .slice P2 hd.root.length p2] 40)).alloc (.cells #[.slice B 1024 bc] 31)).heap.size := Nat.le_trans hgw HKA.out.size
      have hbd1 : k + 1 ≤ 1099511627776 := by omega
      have hbd2 : m + 1 ≤ 1099511627776 := by omega
      have hw3 : IntKind.u64.wrap 1 = 1 := by rw [IntKind.wrap_u64]; omega
      have hw4 : IntKind.u64.wrap (nx + 1) = nx + 1 := by rw [IntKind.wrap_u64]; omega
      have hf0 := HF0.out.1
      have hf1 := HF0.out.2
      clear hN hK3 HR17
      go_wp2_with (first
       | (at_builtin; refine app_imgs _ rfl _ _ rfl w.heap.size (fun b => (w.heap.size ≤ b ∧ some b ≠ blk R) ∧ some b ≠ blk H) O k oc im rfl HCA.out.imgs _ _ 1 B 1024 bc seg rfl hrow hbi hcA hcB hbd1 hsA ?_; intro A5 c5 w5 hown5 hg5 hbk5; have HC5 := Lib.hid ((HCA.out.image hown5 hg5 hbk5).new ((New.refl w5).alloc (.cells #[.int .i64 hd.index, .int .u64 hd.first, .int .i64 hd.count, .int .i64 hd.bytes, .slice P1 hd.prev.length p1, .slice P2 hd.root.length p2] 40))); have HE5 := Lib.hid (Keep.grown (D := fun b => some b ≠ blk O) (Keep.refl _ _) hg5 (fun j hj hd => absurd hj.symm hd)); have HX5 := Lib.hid (HE5.out.blockAt HX.out (show some w3.heap.size ≠ blk O from fun e => by have := HLO.out _ e.symm; omega)); have HN5 := Lib.hid (((HK.out.new HKA.out).grown hg5 (fun j hj _ => (HCA.out.imgs.lt j hj).1)).new ((New.refl w5).alloc (.cells #[.int .i64 hd.index, .int .u64 hd.first, .int .i64 hd.count, .int .i64 hd.bytes, .slice P1 hd.prev.length p1, .slice P2 hd.root.length p2] 40))); have hs5 := HN5.out.size; have HS5 := Lib.hid ((HSA.out.keepE HE5.out (fun j hj e => by have h1 := HLO.out j e.symm; have h2 := (HSA.out.lt j hj).1; omega) (fun b hb e => by have h1 := (HCA.out.imgs.lt b e.symm).1; omega)).new ((New.refl w5).alloc (.cells #[.int .i64 hd.index, .int .u64 hd.first, .int .i64 hd.count, .int .i64 hd.bytes, .slice P1 hd.prev.length p1, .slice P2 hd.root.length p2] 40))); have hy1 : Bs w5 (fun b => (((w.heap.size ≤ b ∧ some b ≠ blk R) ∧ some b ≠ blk A5) ∧ some b ≠ blk H)) P1 hd.prev.length hd.prev := Row.imp ((hb1.out.imp (E := fun b => w0.heap.size ≤ b ∧ b < ((w3.alloc (.cells #[.int .i64 hd.index, .int .u64 hd.first, .int .i64 hd.count, .int .i64 hd.bytes, .slice P1 hd.prev.length p1, .slice P2 hd.root.length p2] 40)).alloc (.cells #[.slice B 1024 bc] 31)).heap.size) (fun b hlt hb => ⟨hb, hlt⟩)).keep HE5.out (fun b _ hb e => by have := HLO.out b e.symm; omega)) (fun b _ hb => ⟨⟨⟨Nat.le_trans hgw hb.1, fun e => by have := HLR.out b e.symm; have := hb.1; omega⟩, fun e => by have h6 := hb.1; have h7 := hb.2; rcases hbk5 with e5 | e5 <;> rw [e5] at e <;> first | (have := HLO.out b e.symm; omega) | (injection e with e; omega)⟩, fun e => by have := HLH.out b e.symm; have := hb.1; omega⟩); have hz1 := Row.new hy1 ((New.refl w5).alloc (.cells #[.int .i64 hd.index, .int .u64 hd.first, .int .i64 hd.count, .int .i64 hd.bytes, .slice P1 hd.prev.length p1, .slice P2 hd.root.length p2] 40)); have hy2 : Bs w5 (fun b => (((w.heap.size ≤ b ∧ some b ≠ blk R) ∧ some b ≠ blk A5) ∧ some b ≠ blk H)) P2 hd.root.length hd.root := Row.imp ((hb2.out.imp (E := fun b => w0.heap.size ≤ b ∧ b < ((w3.alloc (.cells #[.int .i64 hd.index, .int .u64 hd.first, .int .i64 hd.count, .int .i64 hd.bytes, .slice P1 hd.prev.length p1, .slice P2 hd.root.length p2] 40)).alloc (.cells #[.slice B 1024 bc] 31)).heap.size) (fun b hlt hb => ⟨hb, hlt⟩)).keep HE5.out (fun b _ hb e => by have := HLO.out b e.symm; omega)) (fun b _ hb => ⟨⟨⟨Nat.le_trans hgw hb.1, fun e => by have := HLR.out b e.symm; have := hb.1; omega⟩, fun e => by have h6 := hb.1; have h7 := hb.2; rcases hbk5 with e5 | e5 <;> rw [e5] at e <;> first | (have := HLO.out b e.symm; omega) | (injection e with e; omega)⟩, fun e => by have := HLH.out b e.symm; have := hb.1; omega⟩); have hz2 := Row.new hy2 ((New.refl w5).alloc (.cells #[.int .i64 hd.index, .int .u64 hd.first, .int .i64 hd.count, .int .i64 hd.bytes, .slice P1 hd.prev.length p1, .slice P2 hd.root.length p2] 40)); have hrow5 := Row.made w5 40 #[.int .i64 hd.index, .int .u64 hd.first, .int .i64 hd.count, .int .i64 hd.bytes, .slice P1 hd.prev.length p1, .slice P2 hd.root.length p2] 1 6 rfl; have u0 : w5.cell? ⟨w3.heap.size, 0, none⟩ = some (.int .i64 hd.index) := cellOf HX5.out rfl; have u1 : w5.cell? ⟨w3.heap.size, 1, none⟩ = some (.int .u64 hd.first) := cellOf HX5.out rfl; have u2 : w5.cell? ⟨w3.heap.size, 2, none⟩ = some (.int .i64 hd.count) := cellOf HX5.out rfl; have u3 : w5.cell? ⟨w3.heap.size, 3, none⟩ = some (.int .i64 hd.bytes) := cellOf HX5.out rfl; have u4 : w5.cell? ⟨w3.heap.size, 4, none⟩ = some (.slice P1 hd.prev.length p1) := cellOf HX5.out rfl; have u5 : w5.cell? ⟨w3.heap.size, 5, none⟩ = some (.slice P2 hd.root.length p2) := cellOf HX5.out rfl; clear hown5 hg5 hbk5)
       | (at_builtin; refine app_headsR _ rfl _ _ rfl w.heap.size (fun b => (w.heap.size ≤ b ∧ some b ≠ blk R) ∧ some b ≠ blk A5) H k hc he rfl HC5.out.heads _ _ 1 P1 P2 p1 p2 hd rfl hrow5 hz1 hz2 hp1 hp2 hf0 hf1 hbd1 hs5 ?_; intro A6 c6 w6 hown6 hg6 hbk6; have HC6 := Lib.hid (HC5.out.head hown6 hg6 hbk6); have HE6 := Lib.hid (Keep.grown (D := fun b => some b ≠ blk H) (Keep.refl _ _) hg6 (fun j hj hd => absurd hj.symm hd)); have HN6 := Lib.hid (HN5.out.grown hg6 (fun j hj _ => (HC5.out.heads.lt j hj).1)); have hs6 := HN6.out.size; have HS6 := Lib.hid (HS5.out.keepE HE6.out (fun j hj e => by have h1 := HLH.out j e.symm; have h2 := (HS5.out.lt j hj).1; omega) (fun b hb e => by have h1 := (HC5.out.heads.lt b e.symm).1; omega)); clear hown6 hg6 hbk6)
       | (at_builtin; refine app_recsMR _ rfl _ _ rfl w.heap.size (fun b => b < w.heap.size) R m rc al rfl HC6.out.refs w0.heap.size (fun b => b < w.heap.size) S 1 1 rs rfl HS6.out (fun b hb => ⟨hb, fun e => by have := (HC6.out.refs.lt b e.symm).1; omega⟩) hbd2 hs6 ?_; intro A7 c7 w7 hown7 hg7 hbk7; have HC7 := Lib.hid (HC6.out.more hown7 hg7 hbk7); have HN7 := Lib.hid (HN6.out.grown hg7 (fun j hj _ => (HC6.out.refs.lt j hj).1)); clear hown7 hg7 hbk7))
      go_roundw
      case rel => exact ⟨k + 1, m + 1, A5, A6, A7, c5, c6, c7, ⟨im ++ [seg], he ++ [hd], al ++ rs, sealOf hd, nx + 1⟩, ⟨by omega, by omega⟩, by go_num, rfl, rfl, rfl, rfl, by have h := HSUC.out; rw [HRQ.out] at h; exact h.symm, by rw [List.length_append, HM.out, HRQ.out], HC7.out, HN7.out⟩
      case measure => simp [intOf]; omega
     ·have hj6 : j = rs.length := by rw [HMANY.out hraw]; omega
      subst hj6
      obtain ⟨q, hq'⟩ : ∃ q, q = rs.length := ⟨_, rfl⟩
      have hSS : OwnRefs wr w0.heap.size (fun b => b < w.heap.size) S rs.length sc rs := by rwa [List.take_length] at hS
      rw [← hq'] at hSS hj hjlt hq ⊢
      have HRQ := Lib.hid hq'.symm
      have hqz : ((q : Int) == 0) = false := by simp; omega
      clear hS HMANY HAT HII HI HNONE hraw hq'
      go_wp2_with fail
      all_goals
       generalize wr = wS at *
       -- here: hSS : OwnRefs wS w0.heap.size (fun b => b < w.heap.size) S q sc rs, hKS : New w0 wS
       have HSS := Lib.hid hSS
       have HKS := Lib.hid hKS
       clear hSS hKS
       refine (HID.out wS).mono ?_
       rintro e wI ⟨⟨AI, rfl, bI⟩, kI⟩
       have HHD := head18_any _ _ AI H 16 16 k hc id he wI bI (by omega) (HC.out.heads.new (HKS.out.new kI)).heads (by omega)
       rw [HLAST.out] at HHD
       have HHD := Lib.hid HHD
       clear bI
       go_wp2_with fail
       refine HHD.out.mono ?_
       rintro e wJ ⟨⟨P, pc, rfl, oP⟩, kJ⟩
       have HKS := Lib.hid (HKS.out.new (kI.new kJ))
       have HSS := Lib.hid (HSS.out.new (kI.new kJ))
       have HB17 := build17_any _ _ (k : Int) nx P S pc q sc pv rs wJ (by rw [HPV.out]; exact Row.of_own oP) (by rw [HPV.out]; exact own_cap oP) (HSS.out.recs HBODY.out) (by omega) hn0
       rw [HPV.out, HBUILD.out] at HB17
       have HB17 := Lib.hid HB17
       clear HHD oP kI kJ
       go_wp2_with fail
       refine HB17.out.mono ?_
       rintro e w2 ⟨⟨B, bc, rfl, ob⟩, hK2⟩
       dsimp only at ob ⊢
       rw [HSEGL.out] at ob ⊢
       have HR17 := read17_any _ B 1024 bc seg w2 (Row.of_own ob) (own_cap ob) (own_capMax ob)
       rw [HREAD.out] at HR17
       have HR17 := Lib.hid HR17
       have OB := Lib.hid (own_base (base := w0.heap.size) ob HKS.out.size)
       have HBC := Lib.hid (And.intro (own_cap ob) (own_capMax ob))
       have HS2 := Lib.hid (HSS.out.new hK2)
       have HK2 := Lib.hid (HKS.out.new hK2)
       clear ob hK2 HB17
       go_wp2_with fail
       refine HR17.out.mono ?_
       rintro e w3 ⟨⟨P1, p1, P2, p2, A3, c3, rfl, hp1, hp2, hb1, hb2, -⟩, hK3⟩
       dsimp only at hp1 hp2 hb1 hb2 ⊢
       have hN : New w3 ((w3.alloc (.cells #[.int .i64 hd.index, .int .u64 hd.first, .int .i64 hd.count, .int .i64 hd.bytes, .slice P1 hd.prev.length p1, .slice P2 hd.root.length p2] 40)).alloc (.cells #[.slice B 1024 bc] 31)) := ((New.refl w3).alloc _).alloc _
       have HX := Lib.hid (((New.refl (w3.alloc (.cells #[.int .i64 hd.index, .int .u64 hd.first, .int .i64 hd.count, .int .i64 hd.bytes, .slice P1 hd.prev.length p1, .slice P2 hd.root.length p2] 40))).alloc (.cells #[.slice B 1024 bc] 31)).blockAt (heap_alloc_new w3 (.cells #[.int .i64 hd.index, .int .u64 hd.first, .int .i64 hd.count, .int .i64 hd.bytes, .slice P1 hd.prev.length p1, .slice P2 hd.root.length p2] 40)) trivial)
       have hrow := Row.made (w3.alloc (.cells #[.int .i64 hd.index, .int .u64 hd.first, .int .i64 hd.count, .int .i64 hd.bytes, .slice P1 hd.prev.length p1, .slice P2 hd.root.length p2] 40)) 31 #[.slice B 1024 bc] 1 1 rfl
       rw [show (w3.alloc (.cells #[.int .i64 hd.index, .int .u64 hd.first, .int .i64 hd.count, .int .i64 hd.bytes, .slice P1 hd.prev.length p1, .slice P2 hd.root.length p2] 40)).heap.size = w3.heap.size + 1 from by simp] at hrow
       have HKA := Lib.hid ((HK2.out.new hK3).new hN)
       have HCA := Lib.hid (HC.out.new HKA.out)
       have OBA := Lib.hid (Own.keepNew (Own.keepNew OB.out hK3) hN)
       have HSA := Lib.hid ((HS2.out.new hK3).new hN)
       have hge3 : w0.heap.size ≤ w3.heap.size := (HK2.out.new hK3).size
       have hb1 := Lib.hid ((hb1.new hN).imp (E := fun b => w0.heap.size ≤ b) (fun b _ hb => Nat.le_trans HK2.out.size hb))
       have hb2 := Lib.hid ((hb2.new hN).imp (E := fun b => w0.heap.size ≤ b) (fun b _ hb => Nat.le_trans HK2.out.size hb))
       have hbi : Bs ((w3.alloc (.cells #[.int .i64 hd.index, .int .u64 hd.first, .int .i64 hd.count, .int .i64 hd.bytes, .slice P1 hd.prev.length p1, .slice P2 hd.root.length p2] 40)).alloc (.cells #[.slice B 1024 bc] 31)) (fun b => ((w.heap.size ≤ b ∧ some b ≠ blk R) ∧ some b ≠ blk H) ∧ some b ≠ blk O) B 1024 seg := (Row.of_own OBA.out).imp (fun b _ hb => ⟨⟨⟨Nat.le_trans hgw hb, fun e => by have := HLR.out b e.symm; omega⟩, fun e => by have := HLH.out b e.symm; omega⟩, fun e => by have := HLO.out b e.symm; omega⟩)
       have hcA : 1024 ≤ bc := HBC.out.1
       have hcB : bc ≤ 9223372036854775807 := HBC.out.2
       have hsA : w.heap.size ≤ ((w3.alloc (.cells #[.int .i64 hd.index, .int .u64 hd.first, .int .i64 hd.count, .int .i64 hd.bytes, .slice P1 hd.prev.length p1, .slice P2 hd.root.length p2] 40)).alloc (.cells #[.slice B 1024 bc] 31)).heap.size := Nat.le_trans hgw HKA.out.size
       have hbd1 : k + 1 ≤ 1099511627776 := by omega
       have hbd2 : m + q ≤ 1099511627776 := by omega
       have hw3 : IntKind.u64.wrap (q : Int) = (q : Int) := by rw [IntKind.wrap_u64]; omega
       have hw4 : IntKind.u64.wrap (nx + (q : Int)) = nx + (q : Int) := by rw [IntKind.wrap_u64]; omega
       have hf0 := HF0.out.1
       have hf1 := HF0.out.2
       clear hN hK3 HR17
       go_wp2_with (first
        | (at_builtin; refine app_imgs _ rfl _ _ rfl w.heap.size (fun b => (w.heap.size ≤ b ∧ some b ≠ blk R) ∧ some b ≠ blk H) O k oc im rfl HCA.out.imgs _ _ 1 B 1024 bc seg rfl hrow hbi hcA hcB hbd1 hsA ?_; intro A5 c5 w5 hown5 hg5 hbk5; have HC5 := Lib.hid ((HCA.out.image hown5 hg5 hbk5).new ((New.refl w5).alloc (.cells #[.int .i64 hd.index, .int .u64 hd.first, .int .i64 hd.count, .int .i64 hd.bytes, .slice P1 hd.prev.length p1, .slice P2 hd.root.length p2] 40))); have HE5 := Lib.hid (Keep.grown (D := fun b => some b ≠ blk O) (Keep.refl _ _) hg5 (fun j hj hd => absurd hj.symm hd)); have HX5 := Lib.hid (HE5.out.blockAt HX.out (show some w3.heap.size ≠ blk O from fun e => by have := HLO.out _ e.symm; omega)); have HN5 := Lib.hid (((HK.out.new HKA.out).grown hg5 (fun j hj _ => (HCA.out.imgs.lt j hj).1)).new ((New.refl w5).alloc (.cells #[.int .i64 hd.index, .int .u64 hd.first, .int .i64 hd.count, .int .i64 hd.bytes, .slice P1 hd.prev.length p1, .slice P2 hd.root.length p2] 40))); have hs5 := HN5.out.size; have HS5 := Lib.hid ((HSA.out.keepE HE5.out (fun j hj e => by have h1 := HLO.out j e.symm; have h2 := (HSA.out.lt j hj).1; omega) (fun b hb e => by have h1 := (HCA.out.imgs.lt b e.symm).1; omega)).new ((New.refl w5).alloc (.cells #[.int .i64 hd.index, .int .u64 hd.first, .int .i64 hd.count, .int .i64 hd.bytes, .slice P1 hd.prev.length p1, .slice P2 hd.root.length p2] 40))); have hy1 : Bs w5 (fun b => (((w.heap.size ≤ b ∧ some b ≠ blk R) ∧ some b ≠ blk A5) ∧ some b ≠ blk H)) P1 hd.prev.length hd.prev := Row.imp ((hb1.out.imp (E := fun b => w0.heap.size ≤ b ∧ b < ((w3.alloc (.cells #[.int .i64 hd.index, .int .u64 hd.first, .int .i64 hd.count, .int .i64 hd.bytes, .slice P1 hd.prev.length p1, .slice P2 hd.root.length p2] 40)).alloc (.cells #[.slice B 1024 bc] 31)).heap.size) (fun b hlt hb => ⟨hb, hlt⟩)).keep HE5.out (fun b _ hb e => by have := HLO.out b e.symm; omega)) (fun b _ hb => ⟨⟨⟨Nat.le_trans hgw hb.1, fun e => by have := HLR.out b e.symm; have := hb.1; omega⟩, fun e => by have h6 := hb.1; have h7 := hb.2; rcases hbk5 with e5 | e5 <;> rw [e5] at e <;> first | (have := HLO.out b e.symm; omega) | (injection e with e; omega)⟩, fun e => by have := HLH.out b e.symm; have := hb.1; omega⟩); have hz1 := Row.new hy1 ((New.refl w5).alloc (.cells #[.int .i64 hd.index, .int .u64 hd.first, .int .i64 hd.count, .int .i64 hd.bytes, .slice P1 hd.prev.length p1, .slice P2 hd.root.length p2] 40)); have hy2 : Bs w5 (fun b => (((w.heap.size ≤ b ∧ some b ≠ blk R) ∧ some b ≠ blk A5) ∧ some b ≠ blk H)) P2 hd.root.length hd.root := Row.imp ((hb2.out.imp (E := fun b => w0.heap.size ≤ b ∧ b < ((w3.alloc (.cells #[.int .i64 hd.index, .int .u64 hd.first, .int .i64 hd.count, .int .i64 hd.bytes, .slice P1 hd.prev.length p1, .slice P2 hd.root.length p2] 40)).alloc (.cells #[.slice B 1024 bc] 31)).heap.size) (fun b hlt hb => ⟨hb, hlt⟩)).keep HE5.out (fun b _ hb e => by have := HLO.out b e.symm; omega)) (fun b _ hb => ⟨⟨⟨Nat.le_trans hgw hb.1, fun e => by have := HLR.out b e.symm; have := hb.1; omega⟩, fun e => by have h6 := hb.1; have h7 := hb.2; rcases hbk5 with e5 | e5 <;> rw [e5] at e <;> first | (have := HLO.out b e.symm; omega) | (injection e with e; omega)⟩, fun e => by have := HLH.out b e.symm; have := hb.1; omega⟩); have hz2 := Row.new hy2 ((New.refl w5).alloc (.cells #[.int .i64 hd.index, .int .u64 hd.first, .int .i64 hd.count, .int .i64 hd.bytes, .slice P1 hd.prev.length p1, .slice P2 hd.root.length p2] 40)); have hrow5 := Row.made w5 40 #[.int .i64 hd.index, .int .u64 hd.first, .int .i64 hd.count, .int .i64 hd.bytes, .slice P1 hd.prev.length p1, .slice P2 hd.root.length p2] 1 6 rfl; have u0 : w5.cell? ⟨w3.heap.size, 0, none⟩ = some (.int .i64 hd.index) := cellOf HX5.out rfl; have u1 : w5.cell? ⟨w3.heap.size, 1, none⟩ = some (.int .u64 hd.first) := cellOf HX5.out rfl; have u2 : w5.cell? ⟨w3.heap.size, 2, none⟩ = some (.int .i64 hd.count) := cellOf HX5.out rfl; have u3 : w5.cell? ⟨w3.heap.size, 3, none⟩ = some (.int .i64 hd.bytes) := cellOf HX5.out rfl; have u4 : w5.cell? ⟨w3.heap.size, 4, none⟩ = some (.slice P1 hd.prev.length p1) := cellOf HX5.out rfl; have u5 : w5.cell? ⟨w3.heap.size, 5, none⟩ = some (.slice P2 hd.root.length p2) := cellOf HX5.out rfl; clear hown5 hg5 hbk5)
        | (at_builtin; refine app_headsR _ rfl _ _ rfl w.heap.size (fun b => (w.heap.size ≤ b ∧ some b ≠ blk R) ∧ some b ≠ blk A5) H k hc he rfl HC5.out.heads _ _ 1 P1 P2 p1 p2 hd rfl hrow5 hz1 hz2 hp1 hp2 hf0 hf1 hbd1 hs5 ?_; intro A6 c6 w6 hown6 hg6 hbk6; have HC6 := Lib.hid (HC5.out.head hown6 hg6 hbk6); have HE6 := Lib.hid (Keep.grown (D := fun b => some b ≠ blk H) (Keep.refl _ _) hg6 (fun j hj hd => absurd hj.symm hd)); have HN6 := Lib.hid (HN5.out.grown hg6 (fun j hj _ => (HC5.out.heads.lt j hj).1)); have hs6 := HN6.out.size; have HS6 := Lib.hid (HS5.out.keepE HE6.out (fun j hj e => by have h1 := HLH.out j e.symm; have h2 := (HS5.out.lt j hj).1; omega) (fun b hb e => by have h1 := (HC5.out.heads.lt b e.symm).1; omega)); clear hown6 hg6 hbk6)
        | (at_builtin; refine app_recsMR _ rfl _ _ rfl w.heap.size (fun b => b < w.heap.size) R m rc al rfl HC6.out.refs w0.heap.size (fun b => b < w.heap.size) S q sc rs rfl HS6.out (fun b hb => ⟨hb, fun e => by have := (HC6.out.refs.lt b e.symm).1; omega⟩) hbd2 hs6 ?_; intro A7 c7 w7 hown7 hg7 hbk7; have HC7 := Lib.hid (HC6.out.more hown7 hg7 hbk7); have HN7 := Lib.hid (HN6.out.grown hg7 (fun j hj _ => (HC6.out.refs.lt j hj).1)); clear hown7 hg7 hbk7))
       go_roundw
       case rel => exact ⟨k + 1, m + q, A5, A6, A7, c5, c6, c7, ⟨im ++ [seg], he ++ [hd], al ++ rs, sealOf hd, nx + (q : Int)⟩, ⟨by omega, by omega⟩, by go_num, rfl, rfl, rfl, rfl, by have h := HSUC.out; rw [HRQ.out] at h; exact h.symm, by rw [List.length_append, HM.out, HRQ.out], HC7.out, HN7.out⟩
       case measure => simp [intOf]; omega
  ·have hke : k = min n2 6 := by omega
   have hfe : s = fin := by rw [HFIN.out, ← hke]; exact hs
   subst hfe
   have HM := Lib.hid hm
   have h2 : k < n2 → ¬ (k : Int) < 6 := by omega
   clear hke hs hm
   by_cases h1 : k < n2
   ·have h2 := h2 h1
    go_wp2_with fail
    refine bodyPost_ret (v := .tuple #[.slice O k oc, .slice H k hc, .slice R m rc]) (by simp [results, Tryz.results9, go_sem]) rfl ?_
    have hil := HC.out.imgs.len
    have hhl := HC.out.heads.len
    refine ⟨⟨O, oc, H, hc, R, rc, ?_, ?_⟩, HK.out⟩
    ·rw [hil, hhl, ← HM.out]
    ·rw [hil, hhl, ← HM.out]; exact HC.out
   ·go_wp2_with fail
    refine bodyPost_ret (v := .tuple #[.slice O k oc, .slice H k hc, .slice R m rc]) (by simp [results, Tryz.results9, go_sem]) rfl ?_
    have hil := HC.out.imgs.len
    have hhl := HC.out.heads.len
    refine ⟨⟨O, oc, H, hc, R, rc, ?_, ?_⟩, HK.out⟩
    ·rw [hil, hhl, ← HM.out]
    ·rw [hil, hhl, ← HM.out]; exact HC.out
end Go.Proofs.YtfegdgaanmcecaaGreatDoor