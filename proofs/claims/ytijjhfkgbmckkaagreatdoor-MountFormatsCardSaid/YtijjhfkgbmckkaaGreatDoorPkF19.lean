/-
  PROVED HERE: the 64 rounds of a block in the reference's SHA-256; no condition.
-/
import Derived.Test.YtijjhfkgbmckkaaGreatDoorPkF16
namespace Go.Proofs.YtijjhfkgbmckkaaGreatDoor
open Go.RowKit
set_option maxRecDepth 100000 in
set_option maxHeartbeats 800000 in
theorem refL5 {u0 u1 u2 u3 u4 u5 u8 u10 u11 u12 u15 u16 u17 u18 u19 u20 u21 u22 u23 u24 u25 u26 u27 u28 u29 u30 u31 u32 u33 u34 u35 u36 u37 u38 u39 u40 u41 u42 u43 u44 u45 u46 u47 u48 u49 u50 u51 u52 u53 u54 u55 u56 u57 u58 u59 u60 u61 u62 u63 u64 u65 u66 u67 u68 u69 u70 u71 u72 u73 u74 u75 u76 u77 u78 u79 u80 u81 u82 u83 u84 u85 u86 u87 u88 u89 u90 u91 u92 u93 u94 u95 u96 u97 u98 u99 u100 u101 u102 u103 u104 u105 u106 u107 u108 u109 u110 u111 u112 u113 u114 u115 u116 u117 u118 u119 u120 u121 u122 u123 u124 u125 u126 u127 u128 u129 u130 u131 u132 u133 u134 u135 u136 u137 u138 u139 u140 u141 u142 u143 u144 u145 u146 u147 u148 u149 u150 u151 u152 u153 u154 u155 u156 u157 u158 u159 u160 u161 u162 u163 u164 u165 u166 u167 u168 u169 u170 u171 u172 u173 u174 u175 u176 u177 u178 u179 u180 u181 u182 u183 u184 u185 u186 u187 u188 u189 u190 u191 u192 u193 u194 u195 u196 u197 u198 u199 u200 u201 u202 u203 u204 u205 u206 u207 u208 u209 u210 u211 u212 u213 u214 u215 u216 u217 u218 u219 u220 u221 u222 u223 u224 u225 u226 u227 u228 u229 u230 u231 u232 u233 u234 u235 u236 u237 u238 u239 u240 u241 u242 u243 u244 u245 u246 u247 u248 u249 u250 u251 u252 u253 u254 u255 u256 u257 u258 u259 u260 u261 u262 u263 u264 u265 u266 : Value} {Q : Exit → Act → World → Prop} {w : World} {h6 h7 hw hs : Nat} {bk : List UInt8} {S0 : S8}
    (hks : W32s w h7 0 64 kAt) (hsc : W32s w hw 0 64 (sched bk)) (hb : w.heap[hs]? = some (.cells S0.arr 211 (0, 0))) (hn7 : h7 ≠ hs) (hnw : hw ≠ hs)
    (hexit : ∀ (v14 v15 v16 v17 v18 v145 v146 v147 v148 v149 v150 v151 v152 v153 v154 v155 v156 v157 v158 v159 v160 v161 v162 v163 v164 v165 v166 v167 v168 v169 v170 v171 v172 v173 v174 v175 v176 v177 v178 v179 v180 v181 v182 v183 v184 v185 v186 v187 v188 v189 v190 v191 v192 v193 v194 v195 v196 v197 v198 v199 v200 v201 v202 v203 v204 v205 v206 v207 v208 v209 v210 v211 v212 v213 v214 v215 v216 v217 v218 v219 v220 v221 v222 v223 v224 v225 v226 : Value) (w' : World), Keep (fun b => b ≠ hs) w w' → w'.heap[hs]? = some (.cells (S0.rounds bk 64).arr 211 (0, 0)) → Q (.exit 8) ⟨List.toArray (u0 :: u1 :: u2 :: u3 :: u4 :: u5 :: .pointer (some ⟨h6, 0, none⟩) :: .pointer (some ⟨h7, 0, none⟩) :: u8 :: .pointer (some ⟨hw, 0, none⟩) :: u10 :: u11 :: u12 :: .pointer (some ⟨hs, 0, none⟩) :: v14 :: v15 :: v16 :: v17 :: v18 :: u19 :: u20 :: u21 :: u22 :: u23 :: u24 :: u25 :: u26 :: u27 :: u28 :: u29 :: u30 :: u31 :: u32 :: u33 :: u34 :: u35 :: u36 :: u37 :: u38 :: u39 :: u40 :: u41 :: u42 :: u43 :: u44 :: u45 :: u46 :: u47 :: u48 :: u49 :: u50 :: u51 :: u52 :: u53 :: u54 :: u55 :: u56 :: u57 :: u58 :: u59 :: u60 :: u61 :: u62 :: u63 :: u64 :: u65 :: u66 :: u67 :: u68 :: u69 :: u70 :: u71 :: u72 :: u73 :: u74 :: u75 :: u76 :: u77 :: u78 :: u79 :: u80 :: u81 :: u82 :: u83 :: u84 :: u85 :: u86 :: u87 :: u88 :: u89 :: u90 :: u91 :: u92 :: u93 :: u94 :: u95 :: u96 :: u97 :: u98 :: u99 :: u100 :: u101 :: u102 :: u103 :: u104 :: u105 :: u106 :: u107 :: u108 :: u109 :: u110 :: u111 :: u112 :: u113 :: u114 :: u115 :: u116 :: u117 :: u118 :: u119 :: u120 :: u121 :: u122 :: u123 :: u124 :: u125 :: u126 :: u127 :: u128 :: u129 :: u130 :: u131 :: u132 :: u133 :: u134 :: u135 :: u136 :: u137 :: u138 :: u139 :: u140 :: u141 :: u142 :: u143 :: u144 :: v145 :: v146 :: v147 :: v148 :: v149 :: v150 :: v151 :: v152 :: v153 :: v154 :: v155 :: v156 :: v157 :: v158 :: v159 :: v160 :: v161 :: v162 :: v163 :: v164 :: v165 :: v166 :: v167 :: v168 :: v169 :: v170 :: v171 :: v172 :: v173 :: v174 :: v175 :: v176 :: v177 :: v178 :: v179 :: v180 :: v181 :: v182 :: v183 :: v184 :: v185 :: v186 :: v187 :: v188 :: v189 :: v190 :: v191 :: v192 :: v193 :: v194 :: v195 :: v196 :: v197 :: v198 :: v199 :: v200 :: v201 :: v202 :: v203 :: v204 :: v205 :: v206 :: v207 :: v208 :: v209 :: v210 :: v211 :: v212 :: v213 :: v214 :: v215 :: v216 :: v217 :: v218 :: v219 :: v220 :: v221 :: v222 :: v223 :: v224 :: v225 :: v226 :: u227 :: u228 :: u229 :: u230 :: u231 :: u232 :: u233 :: u234 :: u235 :: u236 :: u237 :: u238 :: u239 :: u240 :: u241 :: u242 :: u243 :: u244 :: u245 :: u246 :: u247 :: u248 :: u249 :: u250 :: u251 :: u252 :: u253 :: u254 :: u255 :: u256 :: u257 :: u258 :: u259 :: u260 :: u261 :: u262 :: u263 :: u264 :: u265 :: u266 :: []), []⟩ w') :
    Code.wp Tryz.prog (Code.loop refLoop5) Q ⟨List.toArray (u0 :: u1 :: u2 :: u3 :: u4 :: u5 :: .pointer (some ⟨h6, 0, none⟩) :: .pointer (some ⟨h7, 0, none⟩) :: u8 :: .pointer (some ⟨hw, 0, none⟩) :: u10 :: u11 :: u12 :: .pointer (some ⟨hs, 0, none⟩) :: .int .i64 0 :: u15 :: u16 :: u17 :: u18 :: u19 :: u20 :: u21 :: u22 :: u23 :: u24 :: u25 :: u26 :: u27 :: u28 :: u29 :: u30 :: u31 :: u32 :: u33 :: u34 :: u35 :: u36 :: u37 :: u38 :: u39 :: u40 :: u41 :: u42 :: u43 :: u44 :: u45 :: u46 :: u47 :: u48 :: u49 :: u50 :: u51 :: u52 :: u53 :: u54 :: u55 :: u56 :: u57 :: u58 :: u59 :: u60 :: u61 :: u62 :: u63 :: u64 :: u65 :: u66 :: u67 :: u68 :: u69 :: u70 :: u71 :: u72 :: u73 :: u74 :: u75 :: u76 :: u77 :: u78 :: u79 :: u80 :: u81 :: u82 :: u83 :: u84 :: u85 :: u86 :: u87 :: u88 :: u89 :: u90 :: u91 :: u92 :: u93 :: u94 :: u95 :: u96 :: u97 :: u98 :: u99 :: u100 :: u101 :: u102 :: u103 :: u104 :: u105 :: u106 :: u107 :: u108 :: u109 :: u110 :: u111 :: u112 :: u113 :: u114 :: u115 :: u116 :: u117 :: u118 :: u119 :: u120 :: u121 :: u122 :: u123 :: u124 :: u125 :: u126 :: u127 :: u128 :: u129 :: u130 :: u131 :: u132 :: u133 :: u134 :: u135 :: u136 :: u137 :: u138 :: u139 :: u140 :: u141 :: u142 :: u143 :: u144 :: u145 :: u146 :: u147 :: u148 :: u149 :: u150 :: u151 :: u152 :: u153 :: u154 :: u155 :: u156 :: u157 :: u158 :: u159 :: u160 :: u161 :: u162 :: u163 :: u164 :: u165 :: u166 :: u167 :: u168 :: u169 :: u170 :: u171 :: u172 :: u173 :: u174 :: u175 :: u176 :: u177 :: u178 :: u179 :: u180 :: u181 :: u182 :: u183 :: u184 :: u185 :: u186 :: u187 :: u188 :: u189 :: u190 :: u191 :: u192 :: u193 :: u194 :: u195 :: u196 :: u197 :: u198 :: u199 :: u200 :: u201 :: u202 :: u203 :: u204 :: u205 :: u206 :: u207 :: u208 :: u209 :: u210 :: u211 :: u212 :: u213 :: u214 :: u215 :: u216 :: u217 :: u218 :: u219 :: u220 :: u221 :: u222 :: u223 :: u224 :: u225 :: u226 :: u227 :: u228 :: u229 :: u230 :: u231 :: u232 :: u233 :: u234 :: u235 :: u236 :: u237 :: u238 :: u239 :: u240 :: u241 :: u242 :: u243 :: u244 :: u245 :: u246 :: u247 :: u248 :: u249 :: u250 :: u251 :: u252 :: u253 :: u254 :: u255 :: u256 :: u257 :: u258 :: u259 :: u260 :: u261 :: u262 :: u263 :: u264 :: u265 :: u266 :: []), []⟩ w := by
  have HX := Lib.hid hexit
  clear hexit
  conv => arg 2; arg 1; whnf
  go_loopw [14] (fun i wx => ∃ k : Nat, k ≤ 64 ∧ i = .int .i64 (k : Int) ∧ Keep (fun b => b ≠ hs) w wx ∧ wx.heap[hs]? = some (.cells (S0.rounds bk k).arr 211 (0, 0))) (fun i _ => 64 - (intOf i).toNat)
  case atStart => exact ⟨0, by omega, rfl, Keep.refl _ _, hb⟩
  case round =>
    clear hb
    obtain ⟨k, hk, rfl, hK, hb⟩ := hrel
    have hw0 := hsc.keep hK hnw
    have hk0 := hks.keep hK hn7
    generalize hSe : S0.rounds bk k = S at hb
    have HS := Lib.hid hSe
    clear hSe
    by_cases hlt : k < 64
    · have cw := hw0.cell0 (j := k) (by omega)
      have ck := hk0.cell0 (j := k) (by omega)
      have cs := fun j hj => (cell_of_row wr hs j S.arr 211 (0, 0) hb).trans (S8.arr_at S j hj)
      have s0 : wr.cell? ⟨hs, 0, none⟩ = some (.int .u32 (wv S.a)) := cs 0 (by omega)
      have s4 : wr.cell? ⟨hs, 4, none⟩ = some (.int .u32 (wv S.e)) := cs 4 (by omega)
      have s5 : wr.cell? ⟨hs, 5, none⟩ = some (.int .u32 (wv S.f)) := cs 5 (by omega)
      have s6 : wr.cell? ⟨hs, 6, none⟩ = some (.int .u32 (wv S.g)) := cs 6 (by omega)
      have s7 : wr.cell? ⟨hs, 7, none⟩ = some (.int .u32 (wv S.h)) := cs 7 (by omega)
      clear cs hw0 hk0
      have HB := Lib.hid hb
      clear hb hks hsc
      go_wp2_with fail
      go_quiet (fail)
      go_wp2_with fail
      go_quiet ((go_at_call 135; exact quiet_add_left (by with_reducible first | exact (rrot6 _ _) | exact (rrot11 _ _) | exact (rrot25 _ _))))
      generalize hw3 : (wr.drewN _).drewN _ = w3
      have hb3 : w3.heap[hs]? = some (.cells S.arr 211 (0, 0)) := by rw [← hw3]; exact HB.out
      have hK3 : Keep (fun b => b ≠ hs) w w3 := by rw [← hw3]; exact (hK.drewN _).drewN _
      clear hw3 s0 s4 s5 s6 s7 cw ck hK HB
      have cs := fun j hj => (cell_of_row w3 hs j S.arr 211 (0, 0) hb3).trans (S8.arr_at S j hj)
      have t1 : w3.cell? ⟨hs, 1, none⟩ = some (.int .u32 (wv S.b)) := cs 1 (by omega)
      have t2 : w3.cell? ⟨hs, 2, none⟩ = some (.int .u32 (wv S.c)) := cs 2 (by omega)
      clear cs
      have HB3 := Lib.hid hb3
      clear hb3
      go_wp2_with fail
      go_quiet ((go_at_call 135; exact quiet_left (by with_reducible first | exact (rrot2 _ _) | exact (rrot13 _ _) | exact (rrot22 _ _))))
      generalize hw4 : w3.drewN _ = w4
      have hb4 : w4.heap[hs]? = some (.cells S.arr 211 (0, 0)) := by rw [← hw4]; exact HB3.out
      have hK4 : Keep (fun b => b ≠ hs) w w4 := by rw [← hw4]; exact hK3.drewN _
      clear hw4 t1 t2 HB3 hK3
      have cs := fun j hj => (cell_of_row w4 hs j S.arr 211 (0, 0) hb4).trans (S8.arr_at S j hj)
      have t0 : w4.cell? ⟨hs, 0, none⟩ = some (.int .u32 (wv S.a)) := cs 0 (by omega)
      have t1 : w4.cell? ⟨hs, 1, none⟩ = some (.int .u32 (wv S.b)) := cs 1 (by omega)
      have t2 : w4.cell? ⟨hs, 2, none⟩ = some (.int .u32 (wv S.c)) := cs 2 (by omega)
      have t3 : w4.cell? ⟨hs, 3, none⟩ = some (.int .u32 (wv S.d)) := cs 3 (by omega)
      have t4 : w4.cell? ⟨hs, 4, none⟩ = some (.int .u32 (wv S.e)) := cs 4 (by omega)
      have t5 : w4.cell? ⟨hs, 5, none⟩ = some (.int .u32 (wv S.f)) := cs 5 (by omega)
      have t6 : w4.cell? ⟨hs, 6, none⟩ = some (.int .u32 (wv S.g)) := cs 6 (by omega)
      clear cs
      have HB4 := Lib.hid hb4
      clear hb4
      go_wp2_with (first
        | ((with_reducible refine wpList_build_lit (S.round (kAt k) (sched bk k)).arr ?hf ?_)
           (case hf => kernel_rfl)
           (refine wpList_storerow_lit hs (S.round (kAt k) (sched bk k)).arr S.arr HB4.out ?h1 ?h2 ?h3 ?h4 ?h5 ?_)
           (case h1 => rfl)
           (case h2 => rfl)
           (case h3 => exact S8.arr_info _)
           (case h4 => exact S8.arr_size2 _ _)
           (case h5 => exact S8.arr_one _)))
      go_roundw
      case rel =>
        refine ⟨k + 1, by omega, by go_num, hK4.setRow (fun h => absurd rfl h) _, ?_⟩
        rw [setRow_heap w4 hs S.arr _ _ _ HB4.out]
        exact congrArg (fun (X : S8) => some (Obj.cells X.arr 211 (0, 0))) (by rw [← HS.out]; rfl)
      case measure => simp [intOf]; omega
    · obtain rfl : k = 64 := by omega
      rw [show ((64 : Nat) : Int) = 64 from rfl]
      clear hw0 hk0 hks hsc
      have HB := Lib.hid hb
      clear hb
      go_wp2_with fail
      exact HX.out _ _ _ _ _ _ _ _ _ _ _ _ _ _ _ _ _ _ _ _ _ _ _ _ _ _ _ _ _ _ _ _ _ _ _ _ _ _ _ _ _ _ _ _ _ _ _ _ _ _ _ _ _ _ _ _ _ _ _ _ _ _ _ _ _ _ _ _ _ _ _ _ _ _ _ _ _ _ _ _ _ _ _ _ _ _ _ _ hK (by rw [HB.out, HS.out])
end Go.Proofs.YtijjhfkgbmckkaaGreatDoor
