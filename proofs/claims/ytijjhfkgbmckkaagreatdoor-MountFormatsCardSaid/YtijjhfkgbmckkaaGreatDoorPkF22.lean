/-
  PROVED HERE: all blocks are hashed by the reference's SHA-256; condition: a length below 2^41.
-/
import Derived.Test.YtijjhfkgbmckkaaGreatDoorPkF18
import Derived.Test.YtijjhfkgbmckkaaGreatDoorPkF19
import Derived.Test.YtijjhfkgbmckkaaGreatDoorPkF20
namespace Go.Proofs.YtijjhfkgbmckkaaGreatDoor
open Go.RowKit
set_option maxRecDepth 100000 in
set_option maxHeartbeats 4000000 in
theorem refL3 {u0 u1 u2 u4 u5 u9 u10 u11 u12 u13 u14 u15 u16 u17 u18 u19 u20 u21 u22 u23 u24 u25 u26 u27 u28 u29 u30 u31 u32 u33 u34 u35 u36 u37 u38 u39 u40 u41 u42 u43 u44 u45 u46 u47 u48 u49 u50 u51 u52 u53 u54 u55 u56 u57 u58 u59 u60 u61 u62 u63 u64 u65 u66 u67 u68 u69 u70 u71 u72 u73 u74 u75 u76 u77 u78 u79 u80 u81 u82 u83 u84 u85 u86 u87 u88 u89 u90 u91 u92 u93 u94 u95 u96 u97 u98 u99 u100 u101 u102 u103 u104 u105 u106 u107 u108 u109 u110 u111 u112 u113 u114 u115 u116 u117 u118 u119 u120 u121 u122 u123 u124 u125 u126 u127 u128 u129 u130 u131 u132 u133 u134 u135 u136 u137 u138 u139 u140 u141 u142 u143 u144 u145 u146 u147 u148 u149 u150 u151 u152 u153 u154 u155 u156 u157 u158 u159 u160 u161 u162 u163 u164 u165 u166 u167 u168 u169 u170 u171 u172 u173 u174 u175 u176 u177 u178 u179 u180 u181 u182 u183 u184 u185 u186 u187 u188 u189 u190 u191 u192 u193 u194 u195 u196 u197 u198 u199 u200 u201 u202 u203 u204 u205 u206 u207 u208 u209 u210 u211 u212 u213 u214 u215 u216 u217 u218 u219 u220 u221 u222 u223 u224 u225 u226 u227 u228 u229 u230 u231 u232 u233 u234 u235 u236 u237 u238 u239 u240 u241 u242 u243 u244 u245 u246 u247 u248 u249 u250 u251 u252 u253 u254 u255 u256 u257 u258 u259 u260 u261 u262 u263 u264 u265 u266 : Value} {Q : Exit → Act → World → Prop} {w : World} {h6 h7 mm cA : Nat} {A : Option Addr} {L : List UInt8} {s0 : Nat → BitVec 32}
  (hB : Bs w (fun b => b ≠ h6) A mm L) (h64 : mm % 64 = 0) (hmm9 : mm < 1099511629000) (hst : W32s w h6 0 8 s0) (hks : W32s w h7 0 64 kAt) (h76 : h7 ≠ h6)
  (hexit : ∀ (v8 v9 v10 v11 v12 v13 v14 v15 v16 v17 v18 v19 v52 v53 v54 v55 v56 v57 v58 v59 v60 v61 v62 v63 v64 v65 v66 v67 v68 v69 v70 v71 v72 v73 v74 v75 v76 v77 v78 v79 v80 v81 v82 v83 v84 v85 v86 v87 v88 v89 v90 v91 v92 v93 v94 v95 v96 v97 v98 v99 v100 v101 v102 v103 v104 v105 v106 v107 v108 v109 v110 v111 v112 v113 v114 v115 v116 v117 v118 v119 v120 v121 v122 v123 v124 v125 v126 v127 v128 v129 v130 v131 v132 v133 v134 v135 v136 v137 v138 v139 v140 v141 v142 v143 v144 v145 v146 v147 v148 v149 v150 v151 v152 v153 v154 v155 v156 v157 v158 v159 v160 v161 v162 v163 v164 v165 v166 v167 v168 v169 v170 v171 v172 v173 v174 v175 v176 v177 v178 v179 v180 v181 v182 v183 v184 v185 v186 v187 v188 v189 v190 v191 v192 v193 v194 v195 v196 v197 v198 v199 v200 v201 v202 v203 v204 v205 v206 v207 v208 v209 v210 v211 v212 v213 v214 v215 v216 v217 v218 v219 v220 v221 v222 v223 v224 v225 v226 v227 v228 v229 v230 v231 v232 v233 v234 v235 v236 v237 v238 v239 : Value) (w' : World), Keep (fun b => b ≠ h6) w w' → W32s w' h6 0 8 (blocks s0 L (mm / 64)) → Q (.exit 4) ⟨List.toArray (u0 :: u1 :: u2 :: .slice A mm cA :: u4 :: u5 :: .pointer (some ⟨h6, 0, none⟩) :: .pointer (some ⟨h7, 0, none⟩) :: v8 :: v9 :: v10 :: v11 :: v12 :: v13 :: v14 :: v15 :: v16 :: v17 :: v18 :: v19 :: u20 :: u21 :: u22 :: u23 :: u24 :: u25 :: u26 :: u27 :: u28 :: u29 :: u30 :: u31 :: u32 :: u33 :: u34 :: u35 :: u36 :: u37 :: u38 :: u39 :: u40 :: u41 :: u42 :: u43 :: u44 :: u45 :: u46 :: u47 :: u48 :: u49 :: u50 :: u51 :: v52 :: v53 :: v54 :: v55 :: v56 :: v57 :: v58 :: v59 :: v60 :: v61 :: v62 :: v63 :: v64 :: v65 :: v66 :: v67 :: v68 :: v69 :: v70 :: v71 :: v72 :: v73 :: v74 :: v75 :: v76 :: v77 :: v78 :: v79 :: v80 :: v81 :: v82 :: v83 :: v84 :: v85 :: v86 :: v87 :: v88 :: v89 :: v90 :: v91 :: v92 :: v93 :: v94 :: v95 :: v96 :: v97 :: v98 :: v99 :: v100 :: v101 :: v102 :: v103 :: v104 :: v105 :: v106 :: v107 :: v108 :: v109 :: v110 :: v111 :: v112 :: v113 :: v114 :: v115 :: v116 :: v117 :: v118 :: v119 :: v120 :: v121 :: v122 :: v123 :: v124 :: v125 :: v126 :: v127 :: v128 :: v129 :: v130 :: v131 :: v132 :: v133 :: v134 :: v135 :: v136 :: v137 :: v138 :: v139 :: v140 :: v141 :: v142 :: v143 :: v144 :: v145 :: v146 :: v147 :: v148 :: v149 :: v150 :: v151 :: v152 :: v153 :: v154 :: v155 :: v156 :: v157 :: v158 :: v159 :: v160 :: v161 :: v162 :: v163 :: v164 :: v165 :: v166 :: v167 :: v168 :: v169 :: v170 :: v171 :: v172 :: v173 :: v174 :: v175 :: v176 :: v177 :: v178 :: v179 :: v180 :: v181 :: v182 :: v183 :: v184 :: v185 :: v186 :: v187 :: v188 :: v189 :: v190 :: v191 :: v192 :: v193 :: v194 :: v195 :: v196 :: v197 :: v198 :: v199 :: v200 :: v201 :: v202 :: v203 :: v204 :: v205 :: v206 :: v207 :: v208 :: v209 :: v210 :: v211 :: v212 :: v213 :: v214 :: v215 :: v216 :: v217 :: v218 :: v219 :: v220 :: v221 :: v222 :: v223 :: v224 :: v225 :: v226 :: v227 :: v228 :: v229 :: v230 :: v231 :: v232 :: v233 :: v234 :: v235 :: v236 :: v237 :: v238 :: v239 :: u240 :: u241 :: u242 :: u243 :: u244 :: u245 :: u246 :: u247 :: u248 :: u249 :: u250 :: u251 :: u252 :: u253 :: u254 :: u255 :: u256 :: u257 :: u258 :: u259 :: u260 :: u261 :: u262 :: u263 :: u264 :: u265 :: u266 :: []), []⟩ w') :
  Code.wp Tryz.prog (Code.loop refLoop3) Q ⟨List.toArray (u0 :: u1 :: u2 :: .slice A mm cA :: u4 :: u5 :: .pointer (some ⟨h6, 0, none⟩) :: .pointer (some ⟨h7, 0, none⟩) :: .int .i64 0 :: u9 :: u10 :: u11 :: u12 :: u13 :: u14 :: u15 :: u16 :: u17 :: u18 :: u19 :: u20 :: u21 :: u22 :: u23 :: u24 :: u25 :: u26 :: u27 :: u28 :: u29 :: u30 :: u31 :: u32 :: u33 :: u34 :: u35 :: u36 :: u37 :: u38 :: u39 :: u40 :: u41 :: u42 :: u43 :: u44 :: u45 :: u46 :: u47 :: u48 :: u49 :: u50 :: u51 :: u52 :: u53 :: u54 :: u55 :: u56 :: u57 :: u58 :: u59 :: u60 :: u61 :: u62 :: u63 :: u64 :: u65 :: u66 :: u67 :: u68 :: u69 :: u70 :: u71 :: u72 :: u73 :: u74 :: u75 :: u76 :: u77 :: u78 :: u79 :: u80 :: u81 :: u82 :: u83 :: u84 :: u85 :: u86 :: u87 :: u88 :: u89 :: u90 :: u91 :: u92 :: u93 :: u94 :: u95 :: u96 :: u97 :: u98 :: u99 :: u100 :: u101 :: u102 :: u103 :: u104 :: u105 :: u106 :: u107 :: u108 :: u109 :: u110 :: u111 :: u112 :: u113 :: u114 :: u115 :: u116 :: u117 :: u118 :: u119 :: u120 :: u121 :: u122 :: u123 :: u124 :: u125 :: u126 :: u127 :: u128 :: u129 :: u130 :: u131 :: u132 :: u133 :: u134 :: u135 :: u136 :: u137 :: u138 :: u139 :: u140 :: u141 :: u142 :: u143 :: u144 :: u145 :: u146 :: u147 :: u148 :: u149 :: u150 :: u151 :: u152 :: u153 :: u154 :: u155 :: u156 :: u157 :: u158 :: u159 :: u160 :: u161 :: u162 :: u163 :: u164 :: u165 :: u166 :: u167 :: u168 :: u169 :: u170 :: u171 :: u172 :: u173 :: u174 :: u175 :: u176 :: u177 :: u178 :: u179 :: u180 :: u181 :: u182 :: u183 :: u184 :: u185 :: u186 :: u187 :: u188 :: u189 :: u190 :: u191 :: u192 :: u193 :: u194 :: u195 :: u196 :: u197 :: u198 :: u199 :: u200 :: u201 :: u202 :: u203 :: u204 :: u205 :: u206 :: u207 :: u208 :: u209 :: u210 :: u211 :: u212 :: u213 :: u214 :: u215 :: u216 :: u217 :: u218 :: u219 :: u220 :: u221 :: u222 :: u223 :: u224 :: u225 :: u226 :: u227 :: u228 :: u229 :: u230 :: u231 :: u232 :: u233 :: u234 :: u235 :: u236 :: u237 :: u238 :: u239 :: u240 :: u241 :: u242 :: u243 :: u244 :: u245 :: u246 :: u247 :: u248 :: u249 :: u250 :: u251 :: u252 :: u253 :: u254 :: u255 :: u256 :: u257 :: u258 :: u259 :: u260 :: u261 :: u262 :: u263 :: u264 :: u265 :: u266 :: []), []⟩ w := by
 have HX := Lib.hid hexit
 clear hexit
 conv => arg 2; arg 1; whnf
 go_loopw [8] (fun at' wx => ∃ t : Nat, 64 * t ≤ mm ∧ at' = .int .i64 (64 * (t : Int)) ∧ W32s wx h6 0 8 (blocks s0 L t) ∧ Keep (fun b => b ≠ h6) w wx) (fun at' _ => mm - (intOf at').toNat)
 case atStart => exact ⟨0, by omega, rfl, hst, Keep.refl _ _⟩
 case round =>
  clear hst
  obtain ⟨t, ht, rfl, hst, hK⟩ := hrel
  by_cases hlt : 64 * t < mm
  ·have ht' : 64 * t + 64 ≤ mm := by omega
   have hi0 : 64 * (t : Int) < mm := by omega
   have hB0 := hB.keep hK (fun b _ h => h)
   have hk0 := hks.keep hK h76
   have h6lt := hst.lt (by decide)
   have h7lt := hk0.lt (by decide)
   have HH := Lib.hid h64
   clear hB hks h64
   go_wp2_with fail
   generalize hW : wr.alloc _ = W0
   have hw0 : W32s W0 wr.heap.size 0 64 (fun _ => 0#32) := by rw [← hW]; exact W32s.zero wr _ 64
   have hN : New wr W0 := by rw [← hW]; exact (New.refl wr).alloc _
   have hB1 : Bs W0 (fun b => b ≠ wr.heap.size) A mm L := (Row.imp hB0 (E := fun b => b ≠ wr.heap.size) (fun b hb _ => Nat.ne_of_lt hb)).new hN
   have hge : w.heap.size ≤ wr.heap.size := hK.size
   have hwn : wr.heap.size < W0.heap.size := by rw [← hW]; simp
   clear hW
   obtain ⟨hw, hwe⟩ : ∃ hw, hw = wr.heap.size := ⟨_, rfl⟩
   rw [← hwe] at hw0 hB1 hwn ⊢
   have HWE := Lib.hid hwe
   clear hwe
   refine refL4 hB1 ht' hmm9 hw0 ?_
   iterate 89 (intro _)
   intro w1 hK1 hsc
   clear hw0 hB1
   have hst1 : W32s w1 h6 0 8 (blocks s0 L t) := (hst.keep hN trivial).keep hK1 (by have := HWE.out; omega)
   have hks1 : W32s w1 h7 0 64 kAt := (hk0.keep hN trivial).keep hK1 (by have := HWE.out; omega)
   have hK01 : Keep (fun b => b ≠ h6) w w1 := (hK.new hN).trans2 hK1 (fun i hi _ => by have := HWE.out; omega)
   have hwl1 : hw < w1.heap.size := Nat.lt_of_lt_of_le hwn hK1.size
   clear hst hk0 hK hN hK1 hB0
   generalize hg : blocks s0 L t = g at hst1
   have HG := Lib.hid hg
   clear hg
   have t0 := hst1.cell0 (j := 0) (by omega)
   have t1 := hst1.cell0 (j := 1) (by omega)
   have t2 := hst1.cell0 (j := 2) (by omega)
   have t3 := hst1.cell0 (j := 3) (by omega)
   have t4 := hst1.cell0 (j := 4) (by omega)
   have t5 := hst1.cell0 (j := 5) (by omega)
   have t6 := hst1.cell0 (j := 6) (by omega)
   have t7 := hst1.cell0 (j := 7) (by omega)
   go_wp2_with fail
   clear t0 t1 t2 t3 t4 t5 t6 t7
   generalize hW5 : w1.alloc _ = W5
   have hb5 : W5.heap[w1.heap.size]? = some (.cells (S8.of g).arr 211 (0, 0)) := by rw [← hW5]; exact heap_alloc_new w1 _
   have hN5 : New w1 W5 := by rw [← hW5]; exact (New.refl w1).alloc _
   clear hW5
   have hsc5 := hsc.keep hN5 trivial
   have hst5 := hst1.keep hN5 trivial
   have hks5 := hks1.keep hN5 trivial
   have hK5 := hK01.new hN5
   have h6l1 := hst1.lt (by decide)
   have h7l1 := hks1.lt (by decide)
   have hge1 : w.heap.size ≤ w1.heap.size := hK01.size
   clear hsc hst1 hks1 hK01 hN5
   obtain ⟨hs, hse⟩ : ∃ hs, hs = w1.heap.size := ⟨_, rfl⟩
   rw [← hse] at hb5 hge1 h6l1 h7l1 hwl1 ⊢
   clear hse
   refine refL5 hks5 hsc5 hb5 (by omega) (by omega) ?_
   iterate 87 (intro _)
   intro w2 hK2 hb2
   have hst2 := hst5.keep hK2 (by omega)
   have hK02 : Keep (fun b => b ≠ h6) w w2 := hK5.trans2 hK2 (fun i hi _ => by omega)
   have hS2 : W32s w2 hs 0 8 ((S8.of g).rounds (List.take 64 (List.drop (64 * t) L)) 64).get := W32s.ofArr hb2
   clear hb5 hst5 hks5 hsc5 hK5 hK2 hb2
   generalize hS : (S8.of g).rounds (List.take 64 (List.drop (64 * t) L)) 64 = S at hS2
   have HS := Lib.hid hS
   clear hS
   go_wp2_with fail
   refine refL6 hst2 hS2 (by omega) ?_
   iterate 14 (intro _)
   intro w3 hK3 hst3
   have hK03 := hK02.trans hK3
   clear hst2 hS2 hK3 hK02
   go_wp2_with fail
   go_roundw
   case rel => exact ⟨t + 1, by omega, by go_num, by rw [show blocks s0 L (t + 1) = compress g (List.take 64 (List.drop (64 * t) L)) from by rw [← HG.out]; rfl]; rw [← HS.out] at hst3; exact hst3, hK03⟩
   case measure => simp [intOf]; omega
  ·have hmt : mm = 64 * t := by omega
   have hdv : t = mm / 64 := by omega
   rw [hdv] at hst
   have HDV := Lib.hid hdv
   have HMT := Lib.hid hmt
   have hge' : ¬ 64 * (t : Int) < mm := by omega
   clear hdv hmt hB hks
   go_wp2_with fail
   exact HX.out _ _ _ _ _ _ _ _ _ _ _ _ _ _ _ _ _ _ _ _ _ _ _ _ _ _ _ _ _ _ _ _ _ _ _ _ _ _ _ _ _ _ _ _ _ _ _ _ _ _ _ _ _ _ _ _ _ _ _ _ _ _ _ _ _ _ _ _ _ _ _ _ _ _ _ _ _ _ _ _ _ _ _ _ _ _ _ _ _ _ _ _ _ _ _ _ _ _ _ _ _ _ _ _ _ _ _ _ _ _ _ _ _ _ _ _ _ _ _ _ _ _ _ _ _ _ _ _ _ _ _ _ _ _ _ _ _ _ _ _ _ _ _ _ _ _ _ _ _ _ _ _ _ _ _ _ _ _ _ _ _ _ _ _ _ _ _ _ _ _ _ _ _ _ _ _ _ _ _ _ _ _ _ _ _ _ _ _ _ _ _ _ _ _ _ _ _ _ _ _ _ hK hst
end Go.Proofs.YtijjhfkgbmckkaaGreatDoor
