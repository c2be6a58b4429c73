/-
  PROVED HERE: the message schedule of a block in the reference's SHA-256; condition: a length below 2^41.
-/
import Derived.Test.YtijjhfkgbmckkaaGreatDoorPkF16
namespace Go.Proofs.YtijjhfkgbmckkaaGreatDoor
open Go.RowKit
set_option maxRecDepth 100000 in
set_option maxHeartbeats 4000000 in
theorem refL4 {u0 u1 u2 u4 u5 u6 u7 u11 u12 u13 u14 u15 u16 u17 u18 u19 u20 u21 u22 u23 u24 u25 u26 u27 u28 u29 u30 u31 u32 u33 u34 u35 u36 u37 u38 u39 u40 u41 u42 u43 u44 u45 u46 u47 u48 u49 u50 u51 u52 u53 u54 u55 u56 u57 u58 u59 u60 u61 u62 u63 u64 u65 u66 u67 u68 u69 u70 u71 u72 u73 u74 u75 u76 u77 u78 u79 u80 u81 u82 u83 u84 u85 u86 u87 u88 u89 u90 u91 u92 u93 u94 u95 u96 u97 u98 u99 u100 u101 u102 u103 u104 u105 u106 u107 u108 u109 u110 u111 u112 u113 u114 u115 u116 u117 u118 u119 u120 u121 u122 u123 u124 u125 u126 u127 u128 u129 u130 u131 u132 u133 u134 u135 u136 u137 u138 u139 u140 u141 u142 u143 u144 u145 u146 u147 u148 u149 u150 u151 u152 u153 u154 u155 u156 u157 u158 u159 u160 u161 u162 u163 u164 u165 u166 u167 u168 u169 u170 u171 u172 u173 u174 u175 u176 u177 u178 u179 u180 u181 u182 u183 u184 u185 u186 u187 u188 u189 u190 u191 u192 u193 u194 u195 u196 u197 u198 u199 u200 u201 u202 u203 u204 u205 u206 u207 u208 u209 u210 u211 u212 u213 u214 u215 u216 u217 u218 u219 u220 u221 u222 u223 u224 u225 u226 u227 u228 u229 u230 u231 u232 u233 u234 u235 u236 u237 u238 u239 u240 u241 u242 u243 u244 u245 u246 u247 u248 u249 u250 u251 u252 u253 u254 u255 u256 u257 u258 u259 u260 u261 u262 u263 u264 u265 u266 : Value} {Q : Exit → Act → World → Prop} {w : World} {hw t mm cA : Nat} {A : Option Addr} {L : List UInt8} {f0 : Nat → BitVec 32}
  (hB : Bs w (fun b => b ≠ hw) A mm L) (ht' : 64 * t + 64 ≤ mm) (hmm9 : mm < 1099511629000) (hw0 : W32s w hw 0 64 f0)
  (hexit : ∀ (v10 v11 v12 v58 v59 v60 v61 v62 v63 v64 v65 v66 v67 v68 v69 v70 v71 v72 v73 v74 v75 v76 v77 v78 v79 v80 v81 v82 v83 v84 v85 v86 v87 v88 v89 v90 v91 v92 v93 v94 v95 v96 v97 v98 v99 v100 v101 v102 v103 v104 v105 v106 v107 v108 v109 v110 v111 v112 v113 v114 v115 v116 v117 v118 v119 v120 v121 v122 v123 v124 v125 v126 v127 v128 v129 v130 v131 v132 v133 v134 v135 v136 v137 v138 v139 v140 v141 v142 v143 : Value) (w' : World), Keep (fun b => b ≠ hw) w w' → W32s w' hw 0 64 (sched ((L.drop (64 * t)).take 64)) → Q (.exit 6) ⟨List.toArray (u0 :: u1 :: u2 :: .slice A mm cA :: u4 :: u5 :: u6 :: u7 :: .int .i64 (64 * (t : Int)) :: .pointer (some ⟨hw, 0, none⟩) :: v10 :: v11 :: v12 :: u13 :: u14 :: u15 :: u16 :: u17 :: u18 :: u19 :: u20 :: u21 :: u22 :: u23 :: u24 :: u25 :: u26 :: u27 :: u28 :: u29 :: u30 :: u31 :: u32 :: u33 :: u34 :: u35 :: u36 :: u37 :: u38 :: u39 :: u40 :: u41 :: u42 :: u43 :: u44 :: u45 :: u46 :: u47 :: u48 :: u49 :: u50 :: u51 :: u52 :: u53 :: u54 :: u55 :: u56 :: u57 :: v58 :: v59 :: v60 :: v61 :: v62 :: v63 :: v64 :: v65 :: v66 :: v67 :: v68 :: v69 :: v70 :: v71 :: v72 :: v73 :: v74 :: v75 :: v76 :: v77 :: v78 :: v79 :: v80 :: v81 :: v82 :: v83 :: v84 :: v85 :: v86 :: v87 :: v88 :: v89 :: v90 :: v91 :: v92 :: v93 :: v94 :: v95 :: v96 :: v97 :: v98 :: v99 :: v100 :: v101 :: v102 :: v103 :: v104 :: v105 :: v106 :: v107 :: v108 :: v109 :: v110 :: v111 :: v112 :: v113 :: v114 :: v115 :: v116 :: v117 :: v118 :: v119 :: v120 :: v121 :: v122 :: v123 :: v124 :: v125 :: v126 :: v127 :: v128 :: v129 :: v130 :: v131 :: v132 :: v133 :: v134 :: v135 :: v136 :: v137 :: v138 :: v139 :: v140 :: v141 :: v142 :: v143 :: u144 :: u145 :: u146 :: u147 :: u148 :: u149 :: u150 :: u151 :: u152 :: u153 :: u154 :: u155 :: u156 :: u157 :: u158 :: u159 :: u160 :: u161 :: u162 :: u163 :: u164 :: u165 :: u166 :: u167 :: u168 :: u169 :: u170 :: u171 :: u172 :: u173 :: u174 :: u175 :: u176 :: u177 :: u178 :: u179 :: u180 :: u181 :: u182 :: u183 :: u184 :: u185 :: u186 :: u187 :: u188 :: u189 :: u190 :: u191 :: u192 :: u193 :: u194 :: u195 :: u196 :: u197 :: u198 :: u199 :: u200 :: u201 :: u202 :: u203 :: u204 :: u205 :: u206 :: u207 :: u208 :: u209 :: u210 :: u211 :: u212 :: u213 :: u214 :: u215 :: u216 :: u217 :: u218 :: u219 :: u220 :: u221 :: u222 :: u223 :: u224 :: u225 :: u226 :: u227 :: u228 :: u229 :: u230 :: u231 :: u232 :: u233 :: u234 :: u235 :: u236 :: u237 :: u238 :: u239 :: u240 :: u241 :: u242 :: u243 :: u244 :: u245 :: u246 :: u247 :: u248 :: u249 :: u250 :: u251 :: u252 :: u253 :: u254 :: u255 :: u256 :: u257 :: u258 :: u259 :: u260 :: u261 :: u262 :: u263 :: u264 :: u265 :: u266 :: []), []⟩ w') :
  Code.wp Tryz.prog (Code.loop refLoop4) Q ⟨List.toArray (u0 :: u1 :: u2 :: .slice A mm cA :: u4 :: u5 :: u6 :: u7 :: .int .i64 (64 * (t : Int)) :: .pointer (some ⟨hw, 0, none⟩) :: .int .i64 0 :: u11 :: u12 :: u13 :: u14 :: u15 :: u16 :: u17 :: u18 :: u19 :: u20 :: u21 :: u22 :: u23 :: u24 :: u25 :: u26 :: u27 :: u28 :: u29 :: u30 :: u31 :: u32 :: u33 :: u34 :: u35 :: u36 :: u37 :: u38 :: u39 :: u40 :: u41 :: u42 :: u43 :: u44 :: u45 :: u46 :: u47 :: u48 :: u49 :: u50 :: u51 :: u52 :: u53 :: u54 :: u55 :: u56 :: u57 :: u58 :: u59 :: u60 :: u61 :: u62 :: u63 :: u64 :: u65 :: u66 :: u67 :: u68 :: u69 :: u70 :: u71 :: u72 :: u73 :: u74 :: u75 :: u76 :: u77 :: u78 :: u79 :: u80 :: u81 :: u82 :: u83 :: u84 :: u85 :: u86 :: u87 :: u88 :: u89 :: u90 :: u91 :: u92 :: u93 :: u94 :: u95 :: u96 :: u97 :: u98 :: u99 :: u100 :: u101 :: u102 :: u103 :: u104 :: u105 :: u106 :: u107 :: u108 :: u109 :: u110 :: u111 :: u112 :: u113 :: u114 :: u115 :: u116 :: u117 :: u118 :: u119 :: u120 :: u121 :: u122 :: u123 :: u124 :: u125 :: u126 :: u127 :: u128 :: u129 :: u130 :: u131 :: u132 :: u133 :: u134 :: u135 :: u136 :: u137 :: u138 :: u139 :: u140 :: u141 :: u142 :: u143 :: u144 :: u145 :: u146 :: u147 :: u148 :: u149 :: u150 :: u151 :: u152 :: u153 :: u154 :: u155 :: u156 :: u157 :: u158 :: u159 :: u160 :: u161 :: u162 :: u163 :: u164 :: u165 :: u166 :: u167 :: u168 :: u169 :: u170 :: u171 :: u172 :: u173 :: u174 :: u175 :: u176 :: u177 :: u178 :: u179 :: u180 :: u181 :: u182 :: u183 :: u184 :: u185 :: u186 :: u187 :: u188 :: u189 :: u190 :: u191 :: u192 :: u193 :: u194 :: u195 :: u196 :: u197 :: u198 :: u199 :: u200 :: u201 :: u202 :: u203 :: u204 :: u205 :: u206 :: u207 :: u208 :: u209 :: u210 :: u211 :: u212 :: u213 :: u214 :: u215 :: u216 :: u217 :: u218 :: u219 :: u220 :: u221 :: u222 :: u223 :: u224 :: u225 :: u226 :: u227 :: u228 :: u229 :: u230 :: u231 :: u232 :: u233 :: u234 :: u235 :: u236 :: u237 :: u238 :: u239 :: u240 :: u241 :: u242 :: u243 :: u244 :: u245 :: u246 :: u247 :: u248 :: u249 :: u250 :: u251 :: u252 :: u253 :: u254 :: u255 :: u256 :: u257 :: u258 :: u259 :: u260 :: u261 :: u262 :: u263 :: u264 :: u265 :: u266 :: []), []⟩ w := by
 have HX := Lib.hid hexit
 clear hexit
 conv => arg 2; arg 1; whnf
 go_loopw [10] (fun i wx => ∃ k : Nat, k ≤ 64 ∧ i = .int .i64 (k : Int) ∧ (∃ f, W32s wx hw 0 64 f ∧ ∀ j, j < k → f j = sched ((L.drop (64 * t)).take 64) j) ∧ Keep (fun b => b ≠ hw) w wx) (fun i _ => 64 - (intOf i).toNat)
 case atStart => exact ⟨0, by omega, rfl, ⟨_, hw0, fun j hj => absurd hj (by omega)⟩, Keep.refl _ _⟩
 case round =>
  clear hw0
  obtain ⟨k, hk, rfl, ⟨f, hw0, hf⟩, hK⟩ := hrel
  have HF := Lib.hid hf
  clear hf
  by_cases hlt : k < 64
  ·have ck := hw0.cell0 (j := k) hlt
   have fk := hw0.free0 (j := k) hlt
   by_cases h16 : k < 16
   ·obtain ⟨b, off, rfl, hbne, _, hcell⟩ := Bs.cellAt (hB.keep hK (fun b _ h => h)) (by omega)
    have hpl := hB.len
    have i0 : 0 ≤ 64 * (t : Int) + 4 * (k : Int) := by omega
    have i3 : 64 * (t : Int) + 4 * (k : Int) + 3 < mm := by omega
    have m0 := hcell (64 * t + 4 * k) (by omega)
    have m1 := hcell (64 * t + 4 * k + 1) (by omega)
    have m2 := hcell (64 * t + 4 * k + 2) (by omega)
    have m3 := hcell (64 * t + 4 * k + 3) (by omega)
    have HW := Lib.hid (wordAt_block L t k h16 (by omega))
    clear hcell
    generalize L[64 * t + 4 * k]'_ = x0 at *
    generalize L[64 * t + 4 * k + 1]'_ = x1 at *
    generalize L[64 * t + 4 * k + 2]'_ = x2 at *
    generalize L[64 * t + 4 * k + 3]'_ = x3 at *
    clear hpl
    go_wp2_with fail
    have w1 : IntKind.i64.wrap (4 * (k : Int)) = 4 * (k : Int) := IntWalk.i64_in _ (by omega)
    have w2 : IntKind.i64.wrap (64 * (t : Int) + 4 * (k : Int)) = 64 * (t : Int) + 4 * (k : Int) := IntWalk.i64_in _ (by omega)
    have w3 : IntKind.i64.wrap (64 * (t : Int) + 4 * (k : Int) + 1) = 64 * (t : Int) + 4 * (k : Int) + 1 := IntWalk.i64_in _ (by omega)
    have w4 : IntKind.i64.wrap (64 * (t : Int) + 4 * (k : Int) + 2) = 64 * (t : Int) + 4 * (k : Int) + 2 := IntWalk.i64_in _ (by omega)
    have w5 : IntKind.i64.wrap (64 * (t : Int) + 4 * (k : Int) + 3) = 64 * (t : Int) + 4 * (k : Int) + 3 := IntWalk.i64_in _ (by omega)
    have n2 : (64 * (t : Int) + 4 * (k : Int)).toNat = 64 * t + 4 * k := by omega
    have n3 : (64 * (t : Int) + 4 * (k : Int) + 1).toNat = 64 * t + 4 * k + 1 := by omega
    have n4 : (64 * (t : Int) + 4 * (k : Int) + 2).toNat = 64 * t + 4 * k + 2 := by omega
    have n5 : (64 * (t : Int) + 4 * (k : Int) + 3).toNat = 64 * t + 4 * k + 3 := by omega
    have i1 : 64 * (t : Int) + 4 * (k : Int) < mm := by omega
    have i2 : 64 * (t : Int) + 4 * (k : Int) + 1 < mm := by omega
    have i4 : 64 * (t : Int) + 4 * (k : Int) + 2 < mm := by omega
    have j1 : 0 ≤ 64 * (t : Int) + 4 * (k : Int) + 1 := by omega
    have j2 : 0 ≤ 64 * (t : Int) + 4 * (k : Int) + 2 := by omega
    have j3 : 0 ≤ 64 * (t : Int) + 4 * (k : Int) + 3 := by omega
    go_still_tail 43, (by kernel_rfl)
    change wpList _ _ _ _ _ wr.drew
    clear w1 w2 w3 w4 w5 n2 n3 n4 n5 i1 i2 i4 j1 j2 j3 i0 i3
    have hset := (hw0.drewN 1).set0 (k := k) hlt (word4 x0 x1 x2 x3)
    have hK2 := hK.drew.setCell (p := ⟨hw, k, none⟩) (fun h => absurd rfl h) (.int .u32 (wv (word4 x0 x1 x2 x3)))
    clear m0 m1 m2 m3 hw0 hB hK
    go_wp2_with fail
    go_roundw
    case rel =>
     refine ⟨k + 1, by omega, by go_num, ⟨_, hset, fun j hj => ?_⟩, hK2⟩
     by_cases h1 : j = k
     ·subst h1; rw [if_pos rfl, sched_lt _ h16, HW.out]
     ·rw [if_neg h1]; exact HF.out j (by omega)
    case measure => simp [intOf]; omega
   ·have c15 := hw0.cell0 (j := k - 15) (by omega)
    have c2 := hw0.cell0 (j := k - 2) (by omega)
    have c16 := hw0.cell0 (j := k - 16) (by omega)
    have c7 := hw0.cell0 (j := k - 7) (by omega)
    clear hB ht' hmm9
    go_wp2_with fail
    go_quiet (fail)
    go_wp2_with fail
    have j1 : (0 : Int) ≤ (k : Int) - 16 := by omega
    have j2 : (k : Int) - 16 < 64 := by omega
    have j4 : (0 : Int) ≤ (k : Int) - 7 := by omega
    have j5 : (k : Int) - 7 < 64 := by omega
    have j9 : (7 : Int) ≤ k := by omega
    have j10 : (16 : Int) ≤ k := by omega
    have q16 : Hid (∀ u, ((wr.drewN (nq + 1)).setCell ⟨hw, k, none⟩ u).cell? ⟨hw, k - 16, none⟩ = some (Value.int IntKind.u32 (wv (f (k - 16))))) := Lib.hid (fun u => (World.cell?_setCell_other _ _ _ _ (by intro hh; injection hh; omega)).trans c16)
    have q7 : Hid (∀ u, ((wr.drewN (nq + 1)).setCell ⟨hw, k, none⟩ u).cell? ⟨hw, k - 7, none⟩ = some (Value.int IntKind.u32 (wv (f (k - 7))))) := Lib.hid (fun u => (World.cell?_setCell_other _ _ _ _ (by intro hh; injection hh; omega)).trans c7)
    have j3 : ((k : Int) - 16).toNat = k - 16 := by omega
    have j6 : ((k : Int) - 7).toNat = k - 7 := by omega
    have j7 : IntKind.i64.wrap ((k : Int) - 16) = (k : Int) - 16 := IntWalk.i64_in _ (by omega)
    have j8 : IntKind.i64.wrap ((k : Int) - 7) = (k : Int) - 7 := IntWalk.i64_in _ (by omega)
    go_region_held3 (fun w' => w'.cell? ⟨hw, k - 16, none⟩ = some (Value.int IntKind.u32 (wv (f (k - 16)))) ∧ w'.cell? ⟨hw, k - 7, none⟩ = some (Value.int IntKind.u32 (wv (f (k - 7))))) (first | exact ⟨c16, c7⟩ | exact ⟨q16.out _, q7.out _⟩)
     ((go_at_call 135; (first | (with_reducible refine (rrot7 _ _).mono ?_) | (with_reducible refine (rrot18 _ _).mono ?_) | (with_reducible refine (rrot17 _ _).mono ?_) | (with_reducible refine (rrot19 _ _).mono ?_)); rintro e w' ⟨rfl, rfl⟩))
    have hset := (hw0.drewN (nq + 1)).set0 (k := k) hlt (f (k - 16) + (rotr (f (k - 15)) 7 ^^^ rotr (f (k - 15)) 18 ^^^ f (k - 15) >>> 3) + f (k - 7) + (rotr (f (k - 2)) 17 ^^^ rotr (f (k - 2)) 19 ^^^ f (k - 2) >>> 10))
    have hK2 := (hK.drewN (nq + 1)).setCell (p := ⟨hw, k, none⟩) (fun h => absurd rfl h) (.int .u32 (wv (f (k - 16) + (rotr (f (k - 15)) 7 ^^^ rotr (f (k - 15)) 18 ^^^ f (k - 15) >>> 3) + f (k - 7) + (rotr (f (k - 2)) 17 ^^^ rotr (f (k - 2)) 19 ^^^ f (k - 2) >>> 10))))
    clear j1 j2 j3 j4 j5 j6 j7 j8 j9 j10 q16 q7 c15 c2 c16 c7 ck fk hw0 hK
    go_wp2_with fail
    go_roundw
    case rel =>
     refine ⟨k + 1, by omega, by go_num, ⟨_, hset, fun j hj => ?_⟩, hK2⟩
     by_cases h1 : j = k
     ·subst h1
      rw [if_pos rfl, sched_ge _ (by omega), HF.out _ (by omega), HF.out _ (by omega), HF.out _ (by omega), HF.out _ (by omega)]; rfl
     ·rw [if_neg h1]; exact HF.out j (by omega)
    case measure => simp [intOf]; omega
  ·obtain rfl : k = 64 := by omega
   rw [show ((64 : Nat) : Int) = 64 from rfl]
   have hsc := hw0.congr HF.out
   clear hw0 HF hlt hB
   go_wp2_with fail
   exact HX.out _ _ _ _ _ _ _ _ _ _ _ _ _ _ _ _ _ _ _ _ _ _ _ _ _ _ _ _ _ _ _ _ _ _ _ _ _ _ _ _ _ _ _ _ _ _ _ _ _ _ _ _ _ _ _ _ _ _ _ _ _ _ _ _ _ _ _ _ _ _ _ _ _ _ _ _ _ _ _ _ _ _ _ _ _ _ _ _ _ _ hK hsc
end Go.Proofs.YtijjhfkgbmckkaaGreatDoor
