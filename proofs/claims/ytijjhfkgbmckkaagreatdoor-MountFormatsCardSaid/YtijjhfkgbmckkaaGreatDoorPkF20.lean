/-
  PROVED HERE: the state is added to in the reference's SHA-256; no condition.
-/
import Derived.Test.YtijjhfkgbmckkaaGreatDoorPkF16
namespace Go.Proofs.YtijjhfkgbmckkaaGreatDoor
open Go.RowKit
set_option maxRecDepth 100000 in
set_option maxHeartbeats 4000000 in
theorem refL6 {u0 u1 u2 u3 u4 u5 u7 u8 u9 u10 u11 u12 u14 u15 u16 u17 u18 u20 u21 u22 u23 u24 u25 u26 u27 u28 u29 u30 u31 u32 u33 u34 u35 u36 u37 u38 u39 u40 u41 u42 u43 u44 u45 u46 u47 u48 u49 u50 u51 u52 u53 u54 u55 u56 u57 u58 u59 u60 u61 u62 u63 u64 u65 u66 u67 u68 u69 u70 u71 u72 u73 u74 u75 u76 u77 u78 u79 u80 u81 u82 u83 u84 u85 u86 u87 u88 u89 u90 u91 u92 u93 u94 u95 u96 u97 u98 u99 u100 u101 u102 u103 u104 u105 u106 u107 u108 u109 u110 u111 u112 u113 u114 u115 u116 u117 u118 u119 u120 u121 u122 u123 u124 u125 u126 u127 u128 u129 u130 u131 u132 u133 u134 u135 u136 u137 u138 u139 u140 u141 u142 u143 u144 u145 u146 u147 u148 u149 u150 u151 u152 u153 u154 u155 u156 u157 u158 u159 u160 u161 u162 u163 u164 u165 u166 u167 u168 u169 u170 u171 u172 u173 u174 u175 u176 u177 u178 u179 u180 u181 u182 u183 u184 u185 u186 u187 u188 u189 u190 u191 u192 u193 u194 u195 u196 u197 u198 u199 u200 u201 u202 u203 u204 u205 u206 u207 u208 u209 u210 u211 u212 u213 u214 u215 u216 u217 u218 u219 u220 u221 u222 u223 u224 u225 u226 u227 u228 u229 u230 u231 u232 u233 u234 u235 u236 u237 u238 u239 u240 u241 u242 u243 u244 u245 u246 u247 u248 u249 u250 u251 u252 u253 u254 u255 u256 u257 u258 u259 u260 u261 u262 u263 u264 u265 u266 : Value} {Q : Exit → Act → World → Prop} {w : World} {h6 hs : Nat} {g : Nat → BitVec 32} {S : S8}
  (hst : W32s w h6 0 8 g) (hsv : W32s w hs 0 8 S.get) (hne : hs ≠ h6)
  (hexit : ∀ (v19 v227 v228 v229 v230 v231 v232 v233 v234 v235 v236 v237 v238 v239 : Value) (w' : World), Keep (fun b => b ≠ h6) w w' → W32s w' h6 0 8 (fun j => g j + S.get j) → Q (.exit 10) ⟨List.toArray (u0 :: u1 :: u2 :: u3 :: u4 :: u5 :: .pointer (some ⟨h6, 0, none⟩) :: u7 :: u8 :: u9 :: u10 :: u11 :: u12 :: .pointer (some ⟨hs, 0, none⟩) :: u14 :: u15 :: u16 :: u17 :: u18 :: v19 :: u20 :: u21 :: u22 :: u23 :: u24 :: u25 :: u26 :: u27 :: u28 :: u29 :: u30 :: u31 :: u32 :: u33 :: u34 :: u35 :: u36 :: u37 :: u38 :: u39 :: u40 :: u41 :: u42 :: u43 :: u44 :: u45 :: u46 :: u47 :: u48 :: u49 :: u50 :: u51 :: u52 :: u53 :: u54 :: u55 :: u56 :: u57 :: u58 :: u59 :: u60 :: u61 :: u62 :: u63 :: u64 :: u65 :: u66 :: u67 :: u68 :: u69 :: u70 :: u71 :: u72 :: u73 :: u74 :: u75 :: u76 :: u77 :: u78 :: u79 :: u80 :: u81 :: u82 :: u83 :: u84 :: u85 :: u86 :: u87 :: u88 :: u89 :: u90 :: u91 :: u92 :: u93 :: u94 :: u95 :: u96 :: u97 :: u98 :: u99 :: u100 :: u101 :: u102 :: u103 :: u104 :: u105 :: u106 :: u107 :: u108 :: u109 :: u110 :: u111 :: u112 :: u113 :: u114 :: u115 :: u116 :: u117 :: u118 :: u119 :: u120 :: u121 :: u122 :: u123 :: u124 :: u125 :: u126 :: u127 :: u128 :: u129 :: u130 :: u131 :: u132 :: u133 :: u134 :: u135 :: u136 :: u137 :: u138 :: u139 :: u140 :: u141 :: u142 :: u143 :: u144 :: u145 :: u146 :: u147 :: u148 :: u149 :: u150 :: u151 :: u152 :: u153 :: u154 :: u155 :: u156 :: u157 :: u158 :: u159 :: u160 :: u161 :: u162 :: u163 :: u164 :: u165 :: u166 :: u167 :: u168 :: u169 :: u170 :: u171 :: u172 :: u173 :: u174 :: u175 :: u176 :: u177 :: u178 :: u179 :: u180 :: u181 :: u182 :: u183 :: u184 :: u185 :: u186 :: u187 :: u188 :: u189 :: u190 :: u191 :: u192 :: u193 :: u194 :: u195 :: u196 :: u197 :: u198 :: u199 :: u200 :: u201 :: u202 :: u203 :: u204 :: u205 :: u206 :: u207 :: u208 :: u209 :: u210 :: u211 :: u212 :: u213 :: u214 :: u215 :: u216 :: u217 :: u218 :: u219 :: u220 :: u221 :: u222 :: u223 :: u224 :: u225 :: u226 :: v227 :: v228 :: v229 :: v230 :: v231 :: v232 :: v233 :: v234 :: v235 :: v236 :: v237 :: v238 :: v239 :: u240 :: u241 :: u242 :: u243 :: u244 :: u245 :: u246 :: u247 :: u248 :: u249 :: u250 :: u251 :: u252 :: u253 :: u254 :: u255 :: u256 :: u257 :: u258 :: u259 :: u260 :: u261 :: u262 :: u263 :: u264 :: u265 :: u266 :: []), []⟩ w') :
  Code.wp Tryz.prog (Code.loop refLoop6) Q ⟨List.toArray (u0 :: u1 :: u2 :: u3 :: u4 :: u5 :: .pointer (some ⟨h6, 0, none⟩) :: u7 :: u8 :: u9 :: u10 :: u11 :: u12 :: .pointer (some ⟨hs, 0, none⟩) :: u14 :: u15 :: u16 :: u17 :: u18 :: .int .i64 0 :: u20 :: u21 :: u22 :: u23 :: u24 :: u25 :: u26 :: u27 :: u28 :: u29 :: u30 :: u31 :: u32 :: u33 :: u34 :: u35 :: u36 :: u37 :: u38 :: u39 :: u40 :: u41 :: u42 :: u43 :: u44 :: u45 :: u46 :: u47 :: u48 :: u49 :: u50 :: u51 :: u52 :: u53 :: u54 :: u55 :: u56 :: u57 :: u58 :: u59 :: u60 :: u61 :: u62 :: u63 :: u64 :: u65 :: u66 :: u67 :: u68 :: u69 :: u70 :: u71 :: u72 :: u73 :: u74 :: u75 :: u76 :: u77 :: u78 :: u79 :: u80 :: u81 :: u82 :: u83 :: u84 :: u85 :: u86 :: u87 :: u88 :: u89 :: u90 :: u91 :: u92 :: u93 :: u94 :: u95 :: u96 :: u97 :: u98 :: u99 :: u100 :: u101 :: u102 :: u103 :: u104 :: u105 :: u106 :: u107 :: u108 :: u109 :: u110 :: u111 :: u112 :: u113 :: u114 :: u115 :: u116 :: u117 :: u118 :: u119 :: u120 :: u121 :: u122 :: u123 :: u124 :: u125 :: u126 :: u127 :: u128 :: u129 :: u130 :: u131 :: u132 :: u133 :: u134 :: u135 :: u136 :: u137 :: u138 :: u139 :: u140 :: u141 :: u142 :: u143 :: u144 :: u145 :: u146 :: u147 :: u148 :: u149 :: u150 :: u151 :: u152 :: u153 :: u154 :: u155 :: u156 :: u157 :: u158 :: u159 :: u160 :: u161 :: u162 :: u163 :: u164 :: u165 :: u166 :: u167 :: u168 :: u169 :: u170 :: u171 :: u172 :: u173 :: u174 :: u175 :: u176 :: u177 :: u178 :: u179 :: u180 :: u181 :: u182 :: u183 :: u184 :: u185 :: u186 :: u187 :: u188 :: u189 :: u190 :: u191 :: u192 :: u193 :: u194 :: u195 :: u196 :: u197 :: u198 :: u199 :: u200 :: u201 :: u202 :: u203 :: u204 :: u205 :: u206 :: u207 :: u208 :: u209 :: u210 :: u211 :: u212 :: u213 :: u214 :: u215 :: u216 :: u217 :: u218 :: u219 :: u220 :: u221 :: u222 :: u223 :: u224 :: u225 :: u226 :: u227 :: u228 :: u229 :: u230 :: u231 :: u232 :: u233 :: u234 :: u235 :: u236 :: u237 :: u238 :: u239 :: u240 :: u241 :: u242 :: u243 :: u244 :: u245 :: u246 :: u247 :: u248 :: u249 :: u250 :: u251 :: u252 :: u253 :: u254 :: u255 :: u256 :: u257 :: u258 :: u259 :: u260 :: u261 :: u262 :: u263 :: u264 :: u265 :: u266 :: []), []⟩ w := by
 have HX := Lib.hid hexit
 clear hexit
 conv => arg 2; arg 1; whnf
 go_loopw [19] (fun i wx => ∃ k : Nat, k ≤ 8 ∧ i = .int .i64 (k : Int) ∧ Keep (fun b => b ≠ h6) w wx ∧ W32s wx h6 0 8 (fun j => if j < k then g j + S.get j else g j)) (fun i _ => 8 - (intOf i).toNat)
 case atStart => exact ⟨0, by omega, rfl, Keep.refl _ _, hst.congr (fun j _ => by simp)⟩
 case round =>
  clear hst
  obtain ⟨k, hk, rfl, hK, hst⟩ := hrel
  by_cases hlt : k < 8
  ·have cn := (hsv.keep hK hne).cell0 (j := k) (by omega)
   have cs := hst.cell0 (j := k) (by omega)
   have fs := hst.free0 (j := k) (by omega)
   have hset := (hst.drewN 1).set0 (k := k) hlt (g k + S.get k)
   have hK2 := (hK.drewN 1).setCell (p := ⟨h6, k, none⟩) (fun h => absurd rfl h) (.int .u32 (wv (g k + S.get k)))
   rw [if_neg (Nat.lt_irrefl k)] at cs
   go_wp2_with fail
   clear hst hK hsv
   go_region
   clear cn cs fs
   go_wp2_with fail
   go_roundw
   case rel =>
    refine ⟨k + 1, by omega, by go_num, hK2, hset.congr fun j hj => ?_⟩
    by_cases h1 : j = k
    ·subst h1; rw [if_pos rfl, if_pos (by omega)]
    ·rw [if_neg h1]; by_cases h2 : j < k
     ·rw [if_pos h2, if_pos (by omega)]
     ·rw [if_neg h2, if_neg (by omega)]
   case measure => simp [intOf]; omega
  ·obtain rfl : k = 8 := by omega
   rw [show ((8 : Nat) : Int) = 8 from rfl]
   have hst' : W32s wr h6 0 8 (fun j => g j + S.get j) := hst.congr (fun j hj => by rw [if_pos hj])
   clear hst hsv
   go_wp2_with fail
   exact HX.out _ _ _ _ _ _ _ _ _ _ _ _ _ _ _ hK hst'
end Go.Proofs.YtijjhfkgbmckkaaGreatDoor
