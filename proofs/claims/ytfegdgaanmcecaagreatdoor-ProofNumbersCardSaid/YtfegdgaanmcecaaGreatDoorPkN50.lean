/-
  PROVED HERE: the twelve turns of a proof in the law ProofNumbers, a loop over a frame of letters; no condition.
-/
import Derived.Deep.CutBlock
import Derived.Deep.Light
import Derived.Test.YtfegdgaanmcecaaGreatDoorPkN49
namespace Go.Proofs.YtfegdgaanmcecaaGreatDoor
open Go.RowKit
noncomputable def pnLoop2 : Code := nthLoop Tryz.f5 1
set_option maxRecDepth 100000 in
set_option maxHeartbeats 8000000 in
theorem pn_inner {u0 u1 u2 u3 u5 u6 u7 u9 u11 u12 u13 u14 u15 u16 u17 u18 u19 u20 u21 u22 u23 u24 u25 u26 u27 u28 u29 u30 u31 u32 u33 u34 u35 u36 u37 u38 u39 u40 u41 u42 u43 u44 u45 u46 u47 u48 u49 u50 u51 u52 u53 u54 u55 u56 u57 u58 u59 u60 u61 u62 u63 u64 u65 u66 u67 u68 u69 u70 u71 u72 u73 u74 u75 u76 u77 u78 u79 u80 u81 u82 u83 u84 u85 u86 u87 u88 u89 u90 u91 u92 u93 u94 u95 u96 u97 u98 u99 u100 u101 u102 u103 u104 u105 u106 u107 u108 u109 u110 u111 u112 u113 u114 u115 u116 u117 u118 u119 u120 u121 u122 u123 u124 u125 u126 u127 u128 u129 u130 u131 u132 u133 u134 u135 u136 u137 u138 u139 u140 u141 u142 u143 u144 u145 u146 u147 u148 u149 u150 u151 u152 u153 u154 u155 u156 u157 u158 u159 u160 u161 u162 u163 u164 u165 u166 u167 u168 u169 u170 u171 u172 u173 u174 u175 u176 u177 u178 u179 u180 u181 u182 u183 u184 u185 u186 u187 u188 u189 u190 u191 u192 u193 u194 u195 u196 u197 u198 u199 u200 u201 u202 u203 u204 u205 u206 u207 u208 u209 u210 u211 u212 u213 u214 u215 u216 u217 u218 u219 u220 u221 u222 u223 u224 u225 u226 u227 u228 u229 u230 u231 u232 u233 u234 u235 u236 u237 u238 u239 u240 u241 u242 u243 u244 u245 u246 u247 u248 u249 u250 u251 u252 u253 u254 u255 u256 : Value} {Q : Exit → Act → World → Prop} {w9 : World} {p : ProofP} {P2 R2 L2 Pa2 La2 T : Option Addr} {p2 r2 lc2 pc2 lac2 g2 tc : Nat} {idv : List UInt8} {he : List HeadP}
  (hP : PrAt w9 (fun _ => True) p P2 R2 L2 Pa2 p2 r2 lc2 pc2) (hO : Heads w9 (fun _ => True) La2 p.later.length p.later) (hX : w9.heap[g2]? = some (.cells #[.int .i64 p.head.index, .int .u64 p.head.first, .int .i64 p.head.count, .int .i64 p.head.bytes, .slice P2 p.head.prev.length p2, .slice R2 p.head.root.length r2, .int .i64 p.place, .slice L2 p.leaf.length lc2, .slice Pa2 p.path.length pc2, .slice La2 p.later.length lac2] 50 (0, 0)))
  (hRI : rightProof p = true) (hLT : p.later.length ≤ 1000000) (hT : Row w9 (fun _ => True) T 32 1 ((headSeal idv he).map byteVal))
  (hqp : ∀ c t t' d w, Q (.panic c) ⟨t, d⟩ w → Q (.panic c) ⟨t', d⟩ w)
  (hexit : ∀ (v0 v10 v11 v12 v13 v71 v72 v73 v74 v75 v76 v77 v78 v79 v80 v81 v82 v83 v84 v85 v86 v87 v88 v89 v90 v91 v92 v93 v94 v95 v96 v97 v98 v99 v100 v101 v102 v103 v104 v105 v106 v107 v108 v109 v110 v111 v112 v113 v114 v115 v116 v117 v118 v119 v120 v121 v122 v123 v124 v125 v126 v127 v128 v129 v130 v131 v132 v133 v134 v135 v136 v137 v138 v139 v140 v141 v142 v143 v144 v145 v146 v147 v148 v149 v150 v151 v152 v153 v154 v155 v156 v157 v158 v159 v160 v161 v162 v163 v164 v165 v166 v167 v168 v169 v170 v171 v172 v173 v174 v175 v176 v177 v178 v179 v180 v181 v182 v183 v184 v185 v186 v187 v188 v189 v190 v191 v192 v193 v194 v195 v196 v197 v198 v199 v200 v201 v202 v203 v204 v205 v206 v207 v208 v209 v210 v211 v212 v213 v214 v215 v216 v217 : Value) (w' : World), New w9 w' → Q (.exit 2) ⟨List.toArray (v0 :: u1 :: u2 :: u3 :: .slice T 32 tc :: u5 :: u6 :: u7 :: .pointer (some ⟨g2, 0, none⟩) :: u9 :: v10 :: v11 :: v12 :: v13 :: u14 :: u15 :: u16 :: u17 :: u18 :: u19 :: u20 :: u21 :: u22 :: u23 :: u24 :: u25 :: u26 :: u27 :: u28 :: u29 :: u30 :: u31 :: u32 :: u33 :: u34 :: u35 :: u36 :: u37 :: u38 :: u39 :: u40 :: u41 :: u42 :: u43 :: u44 :: u45 :: u46 :: u47 :: u48 :: u49 :: u50 :: u51 :: u52 :: u53 :: u54 :: u55 :: u56 :: u57 :: u58 :: u59 :: u60 :: u61 :: u62 :: u63 :: u64 :: u65 :: u66 :: u67 :: u68 :: u69 :: u70 :: v71 :: v72 :: v73 :: v74 :: v75 :: v76 :: v77 :: v78 :: v79 :: v80 :: v81 :: v82 :: v83 :: v84 :: v85 :: v86 :: v87 :: v88 :: v89 :: v90 :: v91 :: v92 :: v93 :: v94 :: v95 :: v96 :: v97 :: v98 :: v99 :: v100 :: v101 :: v102 :: v103 :: v104 :: v105 :: v106 :: v107 :: v108 :: v109 :: v110 :: v111 :: v112 :: v113 :: v114 :: v115 :: v116 :: v117 :: v118 :: v119 :: v120 :: v121 :: v122 :: v123 :: v124 :: v125 :: v126 :: v127 :: v128 :: v129 :: v130 :: v131 :: v132 :: v133 :: v134 :: v135 :: v136 :: v137 :: v138 :: v139 :: v140 :: v141 :: v142 :: v143 :: v144 :: v145 :: v146 :: v147 :: v148 :: v149 :: v150 :: v151 :: v152 :: v153 :: v154 :: v155 :: v156 :: v157 :: v158 :: v159 :: v160 :: v161 :: v162 :: v163 :: v164 :: v165 :: v166 :: v167 :: v168 :: v169 :: v170 :: v171 :: v172 :: v173 :: v174 :: v175 :: v176 :: v177 :: v178 :: v179 :: v180 :: v181 :: v182 :: v183 :: v184 :: v185 :: v186 :: v187 :: v188 :: v189 :: v190 :: v191 :: v192 :: v193 :: v194 :: v195 :: v196 :: v197 :: v198 :: v199 :: v200 :: v201 :: v202 :: v203 :: v204 :: v205 :: v206 :: v207 :: v208 :: v209 :: v210 :: v211 :: v212 :: v213 :: v214 :: v215 :: v216 :: v217 :: u218 :: u219 :: u220 :: u221 :: u222 :: u223 :: u224 :: u225 :: u226 :: u227 :: u228 :: u229 :: u230 :: u231 :: u232 :: u233 :: u234 :: u235 :: u236 :: u237 :: u238 :: u239 :: u240 :: u241 :: u242 :: u243 :: u244 :: u245 :: u246 :: u247 :: u248 :: u249 :: u250 :: u251 :: u252 :: u253 :: u254 :: u255 :: u256 :: []), []⟩ w') :
  Code.wp Tryz.prog (Code.loop pnLoop2) Q ⟨List.toArray (u0 :: u1 :: u2 :: u3 :: .slice T 32 tc :: u5 :: u6 :: u7 :: .pointer (some ⟨g2, 0, none⟩) :: u9 :: .int .i64 0 :: u11 :: u12 :: u13 :: u14 :: u15 :: u16 :: u17 :: u18 :: u19 :: u20 :: u21 :: u22 :: u23 :: u24 :: u25 :: u26 :: u27 :: u28 :: u29 :: u30 :: u31 :: u32 :: u33 :: u34 :: u35 :: u36 :: u37 :: u38 :: u39 :: u40 :: u41 :: u42 :: u43 :: u44 :: u45 :: u46 :: u47 :: u48 :: u49 :: u50 :: u51 :: u52 :: u53 :: u54 :: u55 :: u56 :: u57 :: u58 :: u59 :: u60 :: u61 :: u62 :: u63 :: u64 :: u65 :: u66 :: u67 :: u68 :: u69 :: u70 :: u71 :: u72 :: u73 :: u74 :: u75 :: u76 :: u77 :: u78 :: u79 :: u80 :: u81 :: u82 :: u83 :: u84 :: u85 :: u86 :: u87 :: u88 :: u89 :: u90 :: u91 :: u92 :: u93 :: u94 :: u95 :: u96 :: u97 :: u98 :: u99 :: u100 :: u101 :: u102 :: u103 :: u104 :: u105 :: u106 :: u107 :: u108 :: u109 :: u110 :: u111 :: u112 :: u113 :: u114 :: u115 :: u116 :: u117 :: u118 :: u119 :: u120 :: u121 :: u122 :: u123 :: u124 :: u125 :: u126 :: u127 :: u128 :: u129 :: u130 :: u131 :: u132 :: u133 :: u134 :: u135 :: u136 :: u137 :: u138 :: u139 :: u140 :: u141 :: u142 :: u143 :: u144 :: u145 :: u146 :: u147 :: u148 :: u149 :: u150 :: u151 :: u152 :: u153 :: u154 :: u155 :: u156 :: u157 :: u158 :: u159 :: u160 :: u161 :: u162 :: u163 :: u164 :: u165 :: u166 :: u167 :: u168 :: u169 :: u170 :: u171 :: u172 :: u173 :: u174 :: u175 :: u176 :: u177 :: u178 :: u179 :: u180 :: u181 :: u182 :: u183 :: u184 :: u185 :: u186 :: u187 :: u188 :: u189 :: u190 :: u191 :: u192 :: u193 :: u194 :: u195 :: u196 :: u197 :: u198 :: u199 :: u200 :: u201 :: u202 :: u203 :: u204 :: u205 :: u206 :: u207 :: u208 :: u209 :: u210 :: u211 :: u212 :: u213 :: u214 :: u215 :: u216 :: u217 :: u218 :: u219 :: u220 :: u221 :: u222 :: u223 :: u224 :: u225 :: u226 :: u227 :: u228 :: u229 :: u230 :: u231 :: u232 :: u233 :: u234 :: u235 :: u236 :: u237 :: u238 :: u239 :: u240 :: u241 :: u242 :: u243 :: u244 :: u245 :: u246 :: u247 :: u248 :: u249 :: u250 :: u251 :: u252 :: u253 :: u254 :: u255 :: u256 :: []), []⟩ w9 := by
 have HEX := Lib.hid hexit
 have HQP := Lib.hid hqp
 have HP2 := Lib.hid hP
 have HO2 := Lib.hid hO
 have HX2 := Lib.hid hX
 have HRI := Lib.hid hRI
 have HLT := Lib.hid hLT
 have HT := Lib.hid hT
 have HK9 := Lib.hid (New.refl w9)
 clear hqp hexit hP hO hX hRI hLT hT
 conv => arg 2; arg 1; whnf
 go_loopw [10] (fun i wx => ∃ how : Nat, how ≤ 12 ∧ i = .int .i64 (how : Int) ∧ New w9 wx) (fun i _ => 12 - (intOf i).toNat)
 case atStart => exact ⟨0, Nat.zero_le _, rfl, New.refl _⟩
 case round =>
  obtain ⟨how, hh12, rfl, hK⟩ := hrel
  have HKH := Lib.hid hK
  clear hK
  by_cases hhlt : how < 12
  ·have hhl : (how : Int) < 12 := by omega
   have HP := Lib.hid (HP2.out.new HKH.out)
   have HO := Lib.hid (HO2.out.new HKH.out)
   obtain ⟨x0, x1, x2, x3, x4, x5, x6, x7, x8, x9⟩ := cs10 (HKH.out.blockAt HX2.out trivial)
   have kY := (New.refl wr).alloc (.cells #[.int .i64 p.head.index, .int .u64 p.head.first, .int .i64 p.head.count, .int .i64 p.head.bytes, .slice P2 p.head.prev.length p2, .slice R2 p.head.root.length r2, .int .i64 p.place, .slice L2 p.leaf.length lc2, .slice Pa2 p.path.length pc2, .slice La2 p.later.length lac2] 50)
   have hY := heap_alloc_new wr (.cells #[.int .i64 p.head.index, .int .u64 p.head.first, .int .i64 p.head.count, .int .i64 p.head.bytes, .slice P2 p.head.prev.length p2, .slice R2 p.head.root.length r2, .int .i64 p.place, .slice L2 p.leaf.length lc2, .slice Pa2 p.path.length pc2, .slice La2 p.later.length lac2] 50)
   have HP := Lib.hid ((HP.out.imp (E := fun b => b < wr.heap.size) fun b hb _ => hb).new kY)
   have HO := Lib.hid ((HO.out.imp (E := fun b => b < wr.heap.size) fun b hb _ => hb).new kY)
   have HY := Lib.hid hY
   have HKY := Lib.hid kY
   clear hY kY
   go_upto_region 15 with fail
   clear x0 x1 x2 x3 x4 x5 x6 x7 x8 x9
   generalize wr.alloc (.cells #[.int .i64 p.head.index, .int .u64 p.head.first, .int .i64 p.head.count, .int .i64 p.head.bytes, .slice P2 p.head.prev.length p2, .slice R2 p.head.root.length r2, .int .i64 p.place, .slice L2 p.leaf.length lc2, .slice Pa2 p.path.length pc2, .slice La2 p.later.length lac2] 50) = wa at *
   generalize hgy : wr.heap.size = gy at *
   have hgl : gy < wa.heap.size := (Array.getElem?_eq_some_iff.1 HY.out).1
   obtain ⟨us, hu1, hu2, hu3⟩ := HO.out
   have kA := (New.refl wa).alloc (.cells #[] 40)
   have h0 : OwnSl 40 headElt (wa.alloc (.cells #[] 40)) wa.heap.size (fun b => b < gy) (some ⟨wa.heap.size, 0, none⟩) 0 0 [] := ⟨[], World.ownsRow_made wa #[] 0 (Nat.le_refl _) (by decide) rfl, rfl, fun k hk => absurd hk (by simp)⟩
   have hy1 : ∀ k (h : k < p.later.length), headElt.At (wa.alloc (.cells #[] 40)) (fun b => b < gy ∧ some b ≠ blk (some (Addr.mk wa.heap.size 0 none))) us (k * headElt.size) p.later[k] := fun k hk => ((hu3 k hk).imp (E := fun b => b < gy ∧ some b ≠ blk (some (Addr.mk wa.heap.size 0 none))) fun b hb hd => ⟨hd, fun e => by (have e1 : b = wa.heap.size := by injection e); omega⟩).keep kA (fun _ _ _ => trivial)
   have hr1 := hu1.new kA
   obtain ⟨q0, hq0, hqz, hqs, hqb⟩ := info_parts info_headR
   have hbd : 0 + p.later.length ≤ 9223372036854775807 := by have := HLT.out; omega
   have hbd2 : (0 + p.later.length) * 80 ≤ 140737488355328 := by have := HLT.out; omega
   have hsz : wa.heap.size ≤ (wa.alloc (.cells #[] 40)).heap.size := kA.size
   have y9 := cellOf (kA.blockAt HY.out trivial) (k := 9) rfl
   have f9 := frozenOf (kA.blockAt HY.out trivial) 9
   obtain ⟨x0, x1, x2, x3, x4, x5, x6, x7, x8, x9⟩ := cs10 (kA.blockAt (HKY.out.blockAt (HKH.out.blockAt HX2.out trivial) trivial) trivial)
   clear hu1 hu3
   go_upto_region 16 with (at_builtin; refine app_slM (E := headElt) _ rfl _ _ 24 40 rfl q0 (.agg #[.int .i64 0, .int .u64 0, .int .i64 0, .int .i64 0, .slice none 0 0, .slice none 0 0]) 80 Tryz.underlying24 hq0 hqz hqs hqb rfl wa.heap.size (fun b => b < gy) (some ⟨wa.heap.size, 0, none⟩) 0 0 [] rfl h0 _ La2 p.later.length lac2 us p.later rfl hr1 hu2 hy1 hbd hbd2 hsz ?_; intro Lb lbc wb oL gL qL; have kL : New wa wb := kA.grown gL (fun j hj _ => (h0.lt j hj).1); have yb := kL.blockAt HY.out trivial; have yb9 := cellOf yb (k := 9) rfl; have zb9 := frozenOf yb 9)
   rw [Nat.zero_add, List.nil_append] at oL
   clear x0 x1 x2 x3 x4 x5 x6 x7 x8 x9
   have HZ2 := Lib.hid (kL.blockAt (HKY.out.blockAt (HKH.out.blockAt HX2.out trivial) trivial) trivial)
   have hYB := setCell_block yb 9 (.slice Lb p.later.length lbc)
   have kS : Keep (fun b => b ≠ gy) wb (wb.setCell ⟨gy, 9, none⟩ (.slice Lb p.later.length lbc)) := (Keep.refl _ wb).setCell (p := ⟨gy, 9, none⟩) (fun hd => absurd rfl hd) _
   have hgB : gy < wb.heap.size := Nat.lt_of_lt_of_le hgl kL.size
   have oL2 := oL.keepE kS (fun j hj => by have := (oL.lt j hj).1; show j ≠ gy; omega) (fun b hb => by show b ≠ gy; have h2 : b < gy := hb; omega)
   have HP := Lib.hid ((HP.out.new kL).keep kS (fun b _ hb => by show b ≠ gy; have h2 : b < gy := hb; omega))
   have hn2 : g2 ≠ gy := by have h1 := (Array.getElem?_eq_some_iff.1 (HKH.out.blockAt HX2.out trivial)).1; omega
   have HZ2 := Lib.hid (kS.blockAt HZ2.out hn2)
   have HKC : Hid (New wr (wb.setCell ⟨gy, 9, none⟩ _)) := Lib.hid ((HKY.out.new kL).setCell (p := ⟨gy, 9, none⟩) (fun _ => by rw [hgy]; exact Nat.le_refl _) (.slice Lb p.later.length lbc))
   have hsB : wa.heap.size ≤ wb.heap.size := kL.size
   have HLW : Hid (∀ j, blk Lb = some j → j < (wb.setCell ⟨gy, 9, none⟩ (.slice Lb p.later.length lbc)).heap.size) := Lib.hid fun j hj => by have := (oL.lt j hj).2; simpa [World.setCell] using this
   have hsC : (wb.setCell ⟨gy, 9, none⟩ (.slice Lb p.later.length lbc)).heap.size = wb.heap.size := by simp [World.setCell]
   have HYB := Lib.hid hYB
   have HOL := Lib.hid oL2
   have hsW : gy < (wb.setCell ⟨gy, 9, none⟩ (.slice Lb p.later.length lbc)).heap.size := by rw [hsC]; exact hgB
   clear hsC
   clear kL h0 hy1 hr1 hbd hbd2 hsz kA y9 f9 gL qL oL yb yb9 zb9 hYB kS oL2 hu2 HO HY HKY
   generalize wb.setCell ⟨gy, 9, none⟩ (.slice Lb p.later.length lbc) = wc at *
   have HLC : Hid (Heads wc (fun b => b ≠ gy ∧ b < wc.heap.size) Lb p.later.length p.later) := Lib.hid (Heads.imp (E := fun b => b ≠ gy ∧ b < wc.heap.size) (OwnHeadsR.heads HOL.out) (fun b hlt hb => by
    refine ⟨?_, hlt⟩
    rcases hb with h2 | h2
    ·show b ≠ gy; omega
    ·show b ≠ gy; have h3 : b < gy := h2; omega))
   obtain ⟨vs, hv1, hv2, hv3⟩ := HP.out.path
   have kA := (New.refl wc).alloc (.cells #[] 31)
   have h0 : OwnImgs (wc.alloc (.cells #[] 31)) wc.heap.size (fun b => b < gy) (some ⟨wc.heap.size, 0, none⟩) 0 0 [] := ⟨[], World.ownsRow_made wc #[] 0 (Nat.le_refl _) (by decide) rfl, rfl, fun k hk => absurd hk (by simp)⟩
   have hy1 : ∀ k (h : k < p.path.length), ImgAt (wc.alloc (.cells #[] 31)) (fun b => b < gy ∧ some b ≠ blk (some (Addr.mk wc.heap.size 0 none))) vs k p.path[k] := fun k hk => ((hv3 k hk).imp (E := fun b => b < gy ∧ some b ≠ blk (some (Addr.mk wc.heap.size 0 none))) fun b hb hd => ⟨hd, fun e => by (have e1 : b = wc.heap.size := by injection e); omega⟩).keep kA (fun _ _ _ => trivial)
   have hr1 := hv1.new kA
   have hpl : p.path.length ≤ 255 := (right_parts HRI.out).2.1
   have hbd : 0 + p.path.length ≤ 1099511627776 := by omega
   have hsz : wc.heap.size ≤ (wc.alloc (.cells #[] 31)).heap.size := kA.size
   obtain ⟨x0, x1, x2, x3, x4, x5, x6, x7, x8, x9⟩ := cs10 (kA.blockAt HZ2.out trivial)
   clear hv1 hv3
   go_upto_region 17 with (at_builtin; refine app_imgsM _ rfl _ _ rfl wc.heap.size (fun b => b < gy) (some ⟨wc.heap.size, 0, none⟩) 0 0 [] rfl h0 _ Pa2 p.path.length pc2 vs p.path rfl hr1 hv2 hy1 hbd hsz ?_; intro Pb pbc wd oP gP qP; have kP : New wc wd := kA.grown gP (fun j hj _ => (h0.lt j hj).1); have yd := kP.blockAt HYB.out trivial; have yd8 := cellOf yd (k := 8) rfl; have zd8 := frozenOf yd 8)
   rw [Nat.zero_add, List.nil_append] at oP
   clear x0 x1 x2 x3 x4 x5 x6 x7 x8 x9
   have hYD := setCell_block yd 8 (.slice Pb p.path.length pbc)
   have kS : Keep (fun b => b ≠ gy) wd (wd.setCell ⟨gy, 8, none⟩ (.slice Pb p.path.length pbc)) := (Keep.refl _ wd).setCell (p := ⟨gy, 8, none⟩) (fun hd => absurd rfl hd) _
   have hgD : gy < wd.heap.size := by have := kP.size; omega
   have oP2 := oP.keepE kS (fun j hj => by have := (oP.lt j hj).1; show j ≠ gy; omega) (fun b hb => by show b ≠ gy; have h2 : b < gy := hb; omega)
   have HLC := Lib.hid ((HLC.out.new kP).keep kS (fun b _ hb => hb.1))
   have oL2 := (HOL.out.new kP).keepE kS (fun j hj => by have := (HOL.out.lt j hj).1; show j ≠ gy; omega) (fun b hb => by show b ≠ gy; have h2 : b < gy := hb; omega)
   have HP := Lib.hid ((HP.out.new kP).keep kS (fun b _ hb => by show b ≠ gy; have h2 : b < gy := hb; omega))
   have HKC : Hid (New wr (wd.setCell ⟨gy, 8, none⟩ _)) := Lib.hid ((HKC.out.new kP).setCell (p := ⟨gy, 8, none⟩) (fun _ => by rw [hgy]; exact Nat.le_refl _) (.slice Pb p.path.length pbc))
   have hsD : (wd.setCell ⟨gy, 8, none⟩ (.slice Pb p.path.length pbc)).heap.size = wd.heap.size := by simp [World.setCell]
   have HYD := Lib.hid hYD
   have HOL := Lib.hid oL2
   have HOP := Lib.hid oP2
   have hsCD : wc.heap.size ≤ wd.heap.size := kP.size
   clear kP h0 hy1 hr1 hbd hsz kA gP qP oP yd yd8 zd8 hYD kS oP2 oL2 hv2 HYB HZ2
   generalize wd.setCell ⟨gy, 8, none⟩ (.slice Pb p.path.length pbc) = we at *
   have HSZ : Hid (gy < we.heap.size ∧ gy < wa.heap.size ∧ gy < wc.heap.size) := Lib.hid ⟨by omega, hgl, hsW⟩
   have HYD : Hid (we.heap[gy]? = some (.cells #[.int .i64 p.head.index, .int .u64 p.head.first, .int .i64 p.head.count, .int .i64 p.head.bytes, .slice P2 p.head.prev.length p2, .slice R2 p.head.root.length r2, .int .i64 p.place, .slice L2 p.leaf.length lc2, .slice Pb p.path.length pbc, .slice Lb p.later.length lbc] 50 (0, 0))) := HYD
   have HSM := Lib.hid (good_small HRI.out)
   have HFP := Lib.hid (fine_parts (right_parts HRI.out).2.2.2.2.2)
   have HPL : Hid (shortB p.place = true) := Lib.hid (by have h := HRI.out; unfold rightProof at h; simp only [Bool.and_eq_true] at h; exact h.2.1)
   have HWC : Hid (wc.heap.size ≤ we.heap.size) := Lib.hid (by omega)
   clear hgl hgB hgD hsB hsD hsCD hpl hsW
   go_upto_block 4 with fail
   go_cut [] from 71 to 217 (fun wx => (∃ y, PCell wx gy y) ∧ New wr wx)
   case first =>
    have hhs : how = 0 ∨ how = 1 ∨ how = 2 ∨ how = 3 ∨ how = 4 ∨ how = 5 ∨ how = 6 ∨ how = 7 ∨ how = 8 ∨ how = 9 ∨ how = 10 ∨ how = 11 := by omega
    clear hhl hhlt hh12
    have HPA := Lib.hid (HP.out.imp (E := fun b => b ≠ gy) fun b _ hb => by show b ≠ gy; have h2 : b < gy := hb; omega)
    have HLA : Hid (Heads we (fun b => b ≠ gy) Lb p.later.length p.later) := Lib.hid (HLC.out.imp (E := fun b => b ≠ gy) fun b _ hb => hb.1)
    have HIA : Hid (Imgs we (fun b => b ≠ gy) Pb p.path.length p.path) := Lib.hid (Imgs.imp (E := fun b => b ≠ gy) (OwnImgs.imgs HOP.out) (fun b _ hb => by
     have h1 := HSZ.out
     rcases hb with h2 | h2
     ·show b ≠ gy; omega
     ·show b ≠ gy; have h3 : b < gy := h2; omega))
    have HPC : Hid (p.path.length ≤ pbc ∧ pbc ≤ 9223372036854775807) := Lib.hid ⟨HOP.out.cap, HOP.out.capMax⟩
    have HRL := Lib.hid (right_parts HRI.out)
    have HPG := HP
    have HNB : Hid (∀ b, b < gy → some b ≠ blk Pb) := Lib.hid fun b hb e => by have h1 := (HOP.out.lt b e.symm).1; have h2 := HSZ.out.2.2; omega
    have HIC : Hid (Imgs we (fun b => wc.heap.size ≤ b ∨ b < gy) Pb p.path.length p.path) := Lib.hid (OwnImgs.imgs HOP.out)
    rcases hhs with rfl | rfl | rfl | rfl | rfl | rfl | rfl | rfl | rfl | rfl | rfl | rfl
    ·skip
     go_wp2_with fail
     go_meet
     exact ⟨⟨p, P2, R2, L2, Pb, Lb, p2, r2, lc2, pbc, lbc, HYD.out, ⟨HPA.out.prev.imp fun _ _ _ => trivial, HPA.out.root.imp fun _ _ _ => trivial, HPA.out.leaf.imp fun _ _ _ => trivial, HIA.out.imp fun _ _ _ => trivial, HPA.out.hp, HPA.out.hr, HPA.out.hl, HPA.out.hlm, HPC.out.1, HPC.out.2, HPA.out.f0, HPA.out.f1⟩, HLA.out.imp fun _ _ _ => trivial, ⟨HSM.out.leaf, HSM.out.path, HSM.out.count, HSM.out.later⟩, by have := HRL.out.2.1; show p.path.length ≤ 1000; omega⟩, HKC.out⟩
    ·skip
     have hpl := shortB_iff.1 HPL.out
     have hw : IntKind.i64.wrap (p.place + 1) = p.place + 1 := IntWalk.i64_in _ (by omega)
     have c := cellOf HYD.out (k := 6) rfl
     have z := frozenOf HYD.out 6
     go_wp2_with fail
     go_meet
     have kS : Keep (fun b => b ≠ gy) we (we.setCell ⟨gy, 6, none⟩ (.int .i64 (p.place + 1))) := (Keep.refl _ we).setCell (p := ⟨gy, 6, none⟩) (fun hd => absurd rfl hd) _
     exact ⟨⟨{ p with place := p.place + 1 }, P2, R2, L2, Pb, Lb, p2, r2, lc2, pbc, lbc, setCell_block HYD.out 6 (.int .i64 (p.place + 1)), ⟨(HPA.out.prev.keep kS (fun _ _ hb => hb)).imp fun _ _ _ => trivial, (HPA.out.root.keep kS (fun _ _ hb => hb)).imp fun _ _ _ => trivial, (HPA.out.leaf.keep kS (fun _ _ hb => hb)).imp fun _ _ _ => trivial, (HIA.out.keep kS (fun _ _ hb => hb)).imp fun _ _ _ => trivial, HPA.out.hp, HPA.out.hr, HPA.out.hl, HPA.out.hlm, HPC.out.1, HPC.out.2, HPA.out.f0, HPA.out.f1⟩, (HLA.out.keep kS (fun _ _ hb => hb)).imp fun _ _ _ => trivial, ⟨HSM.out.leaf, HSM.out.path, HSM.out.count, HSM.out.later⟩, by have := HRL.out.2.1; show p.path.length ≤ 1000; omega⟩, HKC.out.setCell (p := ⟨gy, 6, none⟩) (fun _ => by rw [hgy]; exact Nat.le_refl _) (.int .i64 (p.place + 1))⟩
    ·skip
     have c := cellOf HYD.out (k := 6) rfl
     have z := frozenOf HYD.out 6
     go_wp2_with fail
     go_meet
     have kS : Keep (fun b => b ≠ gy) we (we.setCell ⟨gy, 6, none⟩ (.int .i64 (-1))) := (Keep.refl _ we).setCell (p := ⟨gy, 6, none⟩) (fun hd => absurd rfl hd) _
     exact ⟨⟨{ p with place := -1 }, P2, R2, L2, Pb, Lb, p2, r2, lc2, pbc, lbc, setCell_block HYD.out 6 (.int .i64 (-1)), ⟨(HPA.out.prev.keep kS (fun _ _ hb => hb)).imp fun _ _ _ => trivial, (HPA.out.root.keep kS (fun _ _ hb => hb)).imp fun _ _ _ => trivial, (HPA.out.leaf.keep kS (fun _ _ hb => hb)).imp fun _ _ _ => trivial, (HIA.out.keep kS (fun _ _ hb => hb)).imp fun _ _ _ => trivial, HPA.out.hp, HPA.out.hr, HPA.out.hl, HPA.out.hlm, HPC.out.1, HPC.out.2, HPA.out.f0, HPA.out.f1⟩, (HLA.out.keep kS (fun _ _ hb => hb)).imp fun _ _ _ => trivial, ⟨HSM.out.leaf, HSM.out.path, HSM.out.count, HSM.out.later⟩, by have := HRL.out.2.1; show p.path.length ≤ 1000; omega⟩, HKC.out.setCell (p := ⟨gy, 6, none⟩) (fun _ => by rw [hgy]; exact Nat.le_refl _) (.int .i64 (-1))⟩
    ·skip
     have hpl := HFP.out.2.1
     have hw : IntKind.i64.wrap (p.head.count + 1) = p.head.count + 1 := IntWalk.i64_in _ (by omega)
     have c := cellOf HYD.out (k := 2) rfl
     have z := frozenOf HYD.out 2
     go_wp2_with fail
     go_meet
     have kS : Keep (fun b => b ≠ gy) we (we.setCell ⟨gy, 2, none⟩ (.int .i64 (p.head.count + 1))) := (Keep.refl _ we).setCell (p := ⟨gy, 2, none⟩) (fun hd => absurd rfl hd) _
     exact ⟨⟨{ p with head := { p.head with count := p.head.count + 1 } }, P2, R2, L2, Pb, Lb, p2, r2, lc2, pbc, lbc, setCell_block HYD.out 2 (.int .i64 (p.head.count + 1)), ⟨(HPA.out.prev.keep kS (fun _ _ hb => hb)).imp fun _ _ _ => trivial, (HPA.out.root.keep kS (fun _ _ hb => hb)).imp fun _ _ _ => trivial, (HPA.out.leaf.keep kS (fun _ _ hb => hb)).imp fun _ _ _ => trivial, (HIA.out.keep kS (fun _ _ hb => hb)).imp fun _ _ _ => trivial, HPA.out.hp, HPA.out.hr, HPA.out.hl, HPA.out.hlm, HPC.out.1, HPC.out.2, HPA.out.f0, HPA.out.f1⟩, (HLA.out.keep kS (fun _ _ hb => hb)).imp fun _ _ _ => trivial, ⟨HSM.out.leaf, HSM.out.path, by show p.head.count + 1 ≤ 1099511627776; omega, HSM.out.later⟩, by have := HRL.out.2.1; show p.path.length ≤ 1000; omega⟩, HKC.out.setCell (p := ⟨gy, 2, none⟩) (fun _ => by rw [hgy]; exact Nat.le_refl _) (.int .i64 (p.head.count + 1))⟩
    ·skip
     have hpl := HFP.out.2.2.2.1
     have hf0 := HPA.out.f0
     have hw : IntKind.u64.wrap (p.head.first + 1) = p.head.first + 1 := by rw [IntKind.wrap_u64]; omega
     have c := cellOf HYD.out (k := 1) rfl
     have z := frozenOf HYD.out 1
     go_wp2_with fail
     go_meet
     have kS : Keep (fun b => b ≠ gy) we (we.setCell ⟨gy, 1, none⟩ (.int .u64 (p.head.first + 1))) := (Keep.refl _ we).setCell (p := ⟨gy, 1, none⟩) (fun hd => absurd rfl hd) _
     exact ⟨⟨{ p with head := { p.head with first := p.head.first + 1 } }, P2, R2, L2, Pb, Lb, p2, r2, lc2, pbc, lbc, setCell_block HYD.out 1 (.int .u64 (p.head.first + 1)), ⟨(HPA.out.prev.keep kS (fun _ _ hb => hb)).imp fun _ _ _ => trivial, (HPA.out.root.keep kS (fun _ _ hb => hb)).imp fun _ _ _ => trivial, (HPA.out.leaf.keep kS (fun _ _ hb => hb)).imp fun _ _ _ => trivial, (HIA.out.keep kS (fun _ _ hb => hb)).imp fun _ _ _ => trivial, HPA.out.hp, HPA.out.hr, HPA.out.hl, HPA.out.hlm, HPC.out.1, HPC.out.2, (by show 0 ≤ p.head.first + 1; omega), (by show p.head.first + 1 ≤ 18446744073709551615; omega)⟩, (HLA.out.keep kS (fun _ _ hb => hb)).imp fun _ _ _ => trivial, ⟨HSM.out.leaf, HSM.out.path, HSM.out.count, HSM.out.later⟩, by have := HRL.out.2.1; show p.path.length ≤ 1000; omega⟩, HKC.out.setCell (p := ⟨gy, 1, none⟩) (fun _ => by rw [hgy]; exact Nat.le_refl _) (.int .u64 (p.head.first + 1))⟩
    ·skip
     have hl5 := HRL.out.1
     have hoA : OwnB (we.alloc (.cells #[] 5)) we.heap.size 5 (some ⟨we.heap.size, 0, none⟩) 0 0 [] := World.ownsRow_made we #[] 0 (Nat.le_refl _) (by decide) rfl
     have hsA : we.heap.size ≤ (we.alloc (.cells #[] 5)).heap.size := by simp
     have hbA := Row.alloc HPA.out.leaf (.cells #[] 5)
     have hpls : 0 + p.leaf.length ≤ 140737488355328 := by omega
     have hpls1 : p.leaf.length + 1 ≤ 140737488355328 := by omega
     have kA5 := (New.refl we).alloc (.cells #[] 5)
     have c7 := cellOf (kA5.blockAt HYD.out trivial) (k := 7) rfl
     go_wp2_with (first
      | (at_builtin; refine app_bytes _ rfl _ _ rfl we.heap.size _ 0 0 [] rfl hoA _ L2 p.leaf.length lc2 p.leaf rfl hbA hpls hsA ?_; intro A10 c10 w10 o10 g10 q10; rw [Nat.zero_add] at o10; have hz10 := bs_one w10 5 0 _ rfl; have o10b := o10.alloc (.cells #[.int .u8 0] 5); have hN10 : we.heap.size ≤ (w10.alloc (.cells #[.int .u8 0] 5)).heap.size := Nat.le_trans (Nat.le_trans hsA g10.size) ((New.refl w10).alloc _).size)
      | (at_builtin; refine app_bytes _ rfl _ _ rfl we.heap.size A10 p.leaf.length c10 _ rfl o10b _ _ 1 1 [0] rfl hz10 hpls1 hN10 ?_; intro A11 c11 w11 o11 g11 q11; have k10 : New we w10 := ((New.refl we).alloc _).grown g10 (fun k hk _ => (own_lt hoA k hk).1); have k11 : New we w11 := (k10.alloc (.cells #[.int .u8 0] 5)).grown g11 (fun k hk _ => (own_lt o10 k hk).1); have y11 := k11.blockAt HYD.out trivial; have d7 := cellOf y11 (k := 7) rfl; have z7 := frozenOf y11 7))
     go_meet
     have kS : Keep (fun b => b ≠ gy) w11 (w11.setCell ⟨gy, 7, none⟩ (.slice A11 (p.leaf.length + 1) c11)) := (Keep.refl _ w11).setCell (p := ⟨gy, 7, none⟩) (fun hd => absurd rfl hd) _
     have o12 := own_keep o11 kS (fun j hj => by have h1 := (own_lt o11 j hj).1; have h2 := HSZ.out.1; show j ≠ gy; omega)
     have hll : (p.leaf ++ [0]).length = p.leaf.length + 1 := by simp
     rw [List.nil_append] at o12
     refine ⟨⟨{ p with leaf := p.leaf ++ [0] }, P2, R2, A11, Pb, Lb, p2, r2, c11, pbc, lbc, ?_, ⟨?_, ?_, ?_, ?_, HPA.out.hp, HPA.out.hr, ?_, own_capMax o12, HPC.out.1, HPC.out.2, HPA.out.f0, HPA.out.f1⟩, ?_, ⟨?_, HSM.out.path, HSM.out.count, HSM.out.later⟩, by have := HRL.out.2.1; show p.path.length ≤ 1000; omega⟩, (HKC.out.new k11).setCell (p := ⟨gy, 7, none⟩) (fun _ => by rw [hgy]; exact Nat.le_refl _) (.slice A11 (p.leaf.length + 1) c11)⟩
     ·dsimp only; rw [hll]; exact setCell_block y11 7 (.slice A11 (p.leaf.length + 1) c11)
     ·exact ((HPA.out.prev.new k11).keep kS (fun _ _ hb => hb)).imp fun _ _ _ => trivial
     ·exact ((HPA.out.root.new k11).keep kS (fun _ _ hb => hb)).imp fun _ _ _ => trivial
     ·dsimp only; rw [hll]; exact (Row.of_own o12).imp fun _ _ _ => trivial
     ·exact ((HIA.out.new k11).keep kS (fun _ _ hb => hb)).imp fun _ _ _ => trivial
     ·dsimp only; rw [hll]; exact own_cap o12
     ·exact ((HLA.out.new k11).keep kS (fun _ _ hb => hb)).imp fun _ _ _ => trivial
     ·dsimp only; rw [hll]; omega
    ·skip
     have hl6 := HRL.out.2.1
     have hmk := make_z32
     go_upto_region 29 with fail
     refine holdW_begin [4, 6] (fun _ => True) (New we.drew) (by kernel_rfl) ?_
     have t0 : New we.drew we.drew := New.refl _
     have m8 : ∀ W, New we.drew W → W.cell? ⟨gy, 8, none⟩ = _ := fun W hW => cellOf (hW.blockAt (show we.drew.heap[gy]? = _ from HYD.out) trivial) (k := 8) rfl
     refine holdW_read (i := 0) (v := ?_) ⟨trivial, fun _ => t0⟩ rfl (by kernel_rfl) (by kernel_rfl) (by kernel_rfl) rfl (fun c a w h => HQP.out c _ _ a.defers w h) rfl ?_ ?_
     rotate_left
     ·intro w' hN
      go_simp
      try with_reducible rfl
     simp only [Act.put, ly1, ly3, ly4, ly5, ly6]
     refine holdW_readT (i := 1) (v := ?_) ⟨trivial, fun _ => t0⟩ rfl (by kernel_rfl) (by kernel_rfl) (by kernel_rfl) (by kernel_rfl) (by kernel_rfl) (fun c a w h => HQP.out c _ _ a.defers w h) rfl ?_ ?_
     rotate_left
     ·intro w' hN
      go_simp
      try with_reducible rfl
     simp only [Act.put, ly1, ly2, ly3, ly4, ly5, ly6]
     refine holdW_step (i := 2) (by kernel_rfl) rfl rfl (fun K hK2 => ?_)
     go_simp
     go_wp2_with fail
     have k2 : New we.drew (we.drew.alloc (.cells z32c 5)) := (New.refl _).alloc _
     refine hK2.out _ _ ⟨trivial, fun _ => k2⟩ ?_
     clear hK2 K hmk
     try simp only [Act.put, ly1, ly2, ly3, ly4, ly5, ly6]
     refine holdW_step (i := 3) (by kernel_rfl) rfl rfl (fun K hK2 => ?_)
     go_simp
     go_wp2_with fail
     have k3 : New we.drew ((we.drew.alloc (.cells z32c 5)).alloc (.cells #[.slice (some ⟨we.heap.size, 0, none⟩) 32 32] 31)) := k2.alloc _
     refine hK2.out _ _ ⟨trivial, fun _ => k3⟩ ?_
     clear hK2 K
     try simp only [Act.put, ly1, ly2, ly3, ly4, ly5, ly6]
     have hs1 : we.heap.size + 1 = (we.drew.alloc (.cells z32c 5)).heap.size := by show _ = (we.heap.push _).size; simp
     have hrow : Row ((we.drew.alloc (.cells z32c 5)).alloc (.cells #[.slice (some ⟨we.heap.size, 0, none⟩) 32 32] 31)) (fun _ => True) (some ⟨we.heap.size + 1, 0, none⟩) 1 1 [.slice (some ⟨we.heap.size, 0, none⟩) 32 32] := row_cells (we.drew.alloc (.cells z32c 5)) 31 #[.slice (some ⟨we.heap.size, 0, none⟩) 32 32] _ 1 hs1 rfl
     have hown : OwnImgs ((we.drew.alloc (.cells z32c 5)).alloc (.cells #[.slice (some ⟨we.heap.size, 0, none⟩) 32 32] 31)) wc.heap.size (fun b => b ≠ gy) Pb p.path.length pbc p.path := ((HOP.out.imp (E := fun b => b ≠ gy) fun b _ hb => by show b ≠ gy; have h2 : b < gy := hb; omega).new ((New.refl we).drew)).new k3
     have hltP : ∀ j, blk Pb = some j → wc.heap.size ≤ j ∧ j < we.heap.size := fun j hj => HOP.out.lt j hj
     have hy6 : ∀ k (h : k < [z32].length), ImgAt ((we.drew.alloc (.cells z32c 5)).alloc (.cells #[.slice (some ⟨we.heap.size, 0, none⟩) 32 32] 31)) (fun b => b ≠ gy ∧ some b ≠ blk Pb) [.slice (some ⟨we.heap.size, 0, none⟩) 32 32] k [z32][k] := fun k hk => by
      obtain rfl : k = 0 := by simpa using hk
      exact ⟨_, 32, rfl, Nat.le_refl _, by decide, ((bs_z32 we.drew).imp (E := fun b => b ≠ gy ∧ some b ≠ blk Pb) (fun b _ hd => by
       have h2 : we.heap.size ≤ b := hd
       have h1 := HSZ.out.1
       exact ⟨by omega, fun e => by have := (hltP b e.symm).2; omega⟩)).new ((New.refl _).alloc _)⟩
     have hsz6 : wc.heap.size ≤ ((we.drew.alloc (.cells z32c 5)).alloc (.cells #[.slice (some ⟨we.heap.size, 0, none⟩) 32 32] 31)).heap.size := Nat.le_trans (by have h1 := hs1; have h2 := HWC.out; omega) ((New.refl (we.drew.alloc (.cells z32c 5))).alloc (.cells #[.slice (some ⟨we.heap.size, 0, none⟩) 32 32] 31)).size
     have hbd6 : p.path.length + 1 ≤ 1099511627776 := by omega
     refine holdW_step (i := 4) (by kernel_rfl) rfl rfl (fun K hK2 => ?_)
     refine wp_imgsM _ _ _ rfl wc.heap.size (fun b => b ≠ gy) Pb p.path.length pbc p.path rfl hown _ _ 1 1 _ [z32] rfl hrow rfl hy6 hbd6 hsz6 ?_
     intro A4 c4 w4 o4 g4 q4
     refine hK2.out _ _ ⟨trivial, fun h => absurd h (by decide)⟩ ?_
     clear hK2 K
     try simp only [Act.put, ly1, ly2, ly3, ly4, ly5, ly6]
     have kP : Keep (fun b => some b ≠ blk Pb) we w4 := (Keep.of_new ((New.refl we).drew.new k3)).grown g4 (fun k hk hd => absurd hk.symm hd)
     have hgP : some gy ≠ blk Pb := fun e => by have h1 := (hltP gy e.symm).1; have h2 := HSZ.out.2.2; omega
     have hN4 : New wr w4 := ((HKC.out.drew).new k3).grown g4 (fun k hk _ => by have h1 := (hltP k hk).1; have h2 := HSZ.out.2.2; omega)
     have KP := Lib.hid kP
     have HGP := Lib.hid hgP
     have HN4 := Lib.hid hN4
     have HLP := Lib.hid hltP
     have HO4 := Lib.hid o4
     have HG4 := Lib.hid g4
     have HS6 := Lib.hid hsz6
     clear hown hy6 hrow hs1 hbd6 k2 k3 t0 kP hgP hN4 hltP o4 g4 q4 hsz6
     refine holdW_step (i := 5) (by kernel_rfl) rfl rfl (fun K hK2 => ?_)
     go_simp
     refine hK2.out _ _ ⟨trivial, fun h => absurd h (by decide)⟩ ?_
     clear hK2 K
     try simp only [Act.put, ly1, ly2, ly3, ly4, ly5, ly6]
     have y4 := KP.out.blockAt HYD.out HGP.out
     have c8 := cellOf y4 (k := 8) rfl
     have z8 := frozenOf y4 8
     refine holdW_step (i := 6) (by kernel_rfl) rfl rfl (fun K hK2 => ?_)
     go_simp
     refine hK2.out _ _ ⟨trivial, fun h => absurd h (by decide)⟩ ?_
     clear hK2 K c8 z8 m8
     try simp only [Act.put, ly1, ly2, ly3, ly4, ly5, ly6]
     refine wpAnyW_done (by kernel_rfl) ?_ _
     go_wp2_with fail
     go_meet
     have kS : Keep (fun b => b ≠ gy) w4 (w4.setCell ⟨gy, 8, none⟩ (.slice A4 (p.path.length + 1) c4)) := (Keep.refl _ w4).setCell (p := ⟨gy, 8, none⟩) (fun hd => absurd rfl hd) _
     have hle4 : wc.heap.size ≤ w4.heap.size := Nat.le_trans HS6.out HG4.out.size
     have o5 := HO4.out.keepE kS (fun j hj => by have h1 := (HO4.out.lt j hj).1; have h2 := HSZ.out.2.2; show j ≠ gy; omega) (fun b hb => hb)
     have hll : (p.path ++ [z32]).length = p.path.length + 1 := by simp
     have hap : ∀ b ∈ p.path ++ [z32], b.length ≤ 549755810000 := by
      intro b hb
      rcases List.mem_append.1 hb with h | h
      ·exact HSM.out.path b h
      ·rw [List.mem_singleton] at h; subst h; decide
     refine ⟨⟨{ p with path := p.path ++ [z32] }, P2, R2, L2, A4, Lb, p2, r2, lc2, c4, lbc, ?_, ⟨?_, ?_, ?_, ?_, HPA.out.hp, HPA.out.hr, HPA.out.hl, HPA.out.hlm, ?_, o5.capMax, HPA.out.f0, HPA.out.f1⟩, ?_, ⟨HSM.out.leaf, hap, HSM.out.count, HSM.out.later⟩, by dsimp only; rw [hll]; omega⟩, HN4.out.setCell (p := ⟨gy, 8, none⟩) (fun _ => by rw [hgy]; exact Nat.le_refl _) (.slice A4 (p.path.length + 1) c4)⟩
     ·dsimp only; rw [hll]; exact setCell_block y4 8 (.slice A4 (p.path.length + 1) c4)
     ·exact ((HPG.out.prev.keep KP.out (fun b _ hb => HNB.out b hb)).keep kS (fun b _ hb => Nat.ne_of_lt hb)).imp fun _ _ _ => trivial
     ·exact ((HPG.out.root.keep KP.out (fun b _ hb => HNB.out b hb)).keep kS (fun b _ hb => Nat.ne_of_lt hb)).imp fun _ _ _ => trivial
     ·exact ((HPG.out.leaf.keep KP.out (fun b _ hb => HNB.out b hb)).keep kS (fun b _ hb => Nat.ne_of_lt hb)).imp fun _ _ _ => trivial
     ·dsimp only; rw [hll]; exact o5.imgs.imp fun _ _ _ => trivial
     ·dsimp only; rw [hll]; exact o5.cap
     ·exact ((HLC.out.keep KP.out (fun b _ hb e => by have h1 := (HLP.out b e.symm).1; have h2 := hb.2; omega)).keep kS (fun b _ hb => hb.1)).imp fun _ _ _ => trivial
    ·skip
     have hmk := make_z32
     have kA7 := (New.refl we).alloc (.cells z32c 5)
     have y7 := kA7.blockAt HYD.out trivial
     have c := cellOf y7 (k := 4) rfl
     have z := frozenOf y7 4
     go_wp2_with fail
     go_meet
     have hnz := ((bs_z32 we).imp (E := fun b => b ≠ gy) (fun b _ hd => by have h1 := HSZ.out.1; have h2 : we.heap.size ≤ b := hd; omega))
     have kS : Keep (fun b => b ≠ gy) (we.alloc (.cells z32c 5)) ((we.alloc (.cells z32c 5)).setCell ⟨gy, 4, none⟩ (.slice (some ⟨we.heap.size, 0, none⟩) 32 32)) := (Keep.refl _ _).setCell (p := ⟨gy, 4, none⟩) (fun hd => absurd rfl hd) _
     exact ⟨⟨{ p with head := { p.head with prev := z32 } }, (some ⟨we.heap.size, 0, none⟩), R2, L2, Pb, Lb, 32, r2, lc2, pbc, lbc, setCell_block y7 4 (.slice (some ⟨we.heap.size, 0, none⟩) 32 32), ⟨(hnz.keep kS (fun _ _ hb => hb)).imp fun _ _ _ => trivial, ((HPA.out.root.new kA7).keep kS (fun _ _ hb => hb)).imp fun _ _ _ => trivial, ((HPA.out.leaf.new kA7).keep kS (fun _ _ hb => hb)).imp fun _ _ _ => trivial, ((HIA.out.new kA7).keep kS (fun _ _ hb => hb)).imp fun _ _ _ => trivial, Nat.le_refl _, HPA.out.hr, HPA.out.hl, HPA.out.hlm, HPC.out.1, HPC.out.2, HPA.out.f0, HPA.out.f1⟩, ((HLA.out.new kA7).keep kS (fun _ _ hb => hb)).imp fun _ _ _ => trivial, ⟨HSM.out.leaf, HSM.out.path, HSM.out.count, HSM.out.later⟩, by have := HRL.out.2.1; show p.path.length ≤ 1000; omega⟩, (HKC.out.new kA7).setCell (p := ⟨gy, 4, none⟩) (fun _ => by rw [hgy]; exact Nat.le_refl _) (.slice (some ⟨we.heap.size, 0, none⟩) 32 32)⟩
    ·skip
     have hpl := HFP.out.2.2.1
     have hw : IntKind.i64.wrap (p.head.bytes + 1) = p.head.bytes + 1 := IntWalk.i64_in _ (by omega)
     have c := cellOf HYD.out (k := 3) rfl
     have z := frozenOf HYD.out 3
     go_wp2_with fail
     go_meet
     have kS : Keep (fun b => b ≠ gy) we (we.setCell ⟨gy, 3, none⟩ (.int .i64 (p.head.bytes + 1))) := (Keep.refl _ we).setCell (p := ⟨gy, 3, none⟩) (fun hd => absurd rfl hd) _
     exact ⟨⟨{ p with head := { p.head with bytes := p.head.bytes + 1 } }, P2, R2, L2, Pb, Lb, p2, r2, lc2, pbc, lbc, setCell_block HYD.out 3 (.int .i64 (p.head.bytes + 1)), ⟨(HPA.out.prev.keep kS (fun _ _ hb => hb)).imp fun _ _ _ => trivial, (HPA.out.root.keep kS (fun _ _ hb => hb)).imp fun _ _ _ => trivial, (HPA.out.leaf.keep kS (fun _ _ hb => hb)).imp fun _ _ _ => trivial, (HIA.out.keep kS (fun _ _ hb => hb)).imp fun _ _ _ => trivial, HPA.out.hp, HPA.out.hr, HPA.out.hl, HPA.out.hlm, HPC.out.1, HPC.out.2, HPA.out.f0, HPA.out.f1⟩, (HLA.out.keep kS (fun _ _ hb => hb)).imp fun _ _ _ => trivial, ⟨HSM.out.leaf, HSM.out.path, HSM.out.count, HSM.out.later⟩, by have := HRL.out.2.1; show p.path.length ≤ 1000; omega⟩, HKC.out.setCell (p := ⟨gy, 3, none⟩) (fun _ => by rw [hgy]; exact Nat.le_refl _) (.int .i64 (p.head.bytes + 1))⟩
    ·skip
     have c := cellOf HYD.out (k := 9) rfl
     by_cases hl9 : 0 < p.later.length
     ·have hl9i : (0 : Int) < (p.later.length : Int) := by omega
      obtain ⟨h, hs, hph⟩ : ∃ h hs, p.later = h :: hs := by cases hq : p.later with | nil => (rw [hq] at hl9; simp at hl9) | cons a b => exact ⟨a, b, rfl⟩
      have hfx : fineHead h = true := List.all_eq_true.1 HRL.out.2.2.2.2.1 h (by rw [hph]; exact List.mem_cons_self)
      have hix := (fine_parts hfx).1
      obtain ⟨vs, ho1, ho2, ho3⟩ := HOL.out
      obtain ⟨bl, rfl⟩ : ∃ bl, Lb = some (Addr.mk bl 0 none) := by
       obtain ⟨g, cap, hv, _, _⟩ := ho1.form hl9
       injection hv with hv
       exact ⟨g, hv⟩
      have hblt := own_lt ho1 bl rfl
      have hat0 := ho3 0 hl9
      have hidx : p.later[0] = h := by simp [hph]
      obtain ⟨Q1, q1, Q2, q2, e0, -⟩ := hat0
      rw [hidx] at e0
      have cz : we.cell? ⟨bl, 0, none⟩ = some (.int .i64 h.index) := by simpa [Addr.add_lit] using ho1.cells (g := bl) rfl 0 _ e0
      have fz := ho1.frozenAt (g := bl) 0
      have hw : IntKind.i64.wrap (h.index + 1) = h.index + 1 := IntWalk.i64_in _ (by omega)
      have hst := (ho1.stored 0 (.int .i64 (h.index + 1))).1
      have hne : bl ≠ gy := by have := HSZ.out.2.1; omega
      have HO3 := Lib.hid ho3
      have HO1 := Lib.hid ho1
      have HPH := Lib.hid hph
      have HST := Lib.hid hst
      have HO2L := Lib.hid ho2
      clear ho3 ho1 hph hst e0 hidx hfx ho2
      go_wp2_with fail
      go_meet
      have kS : Keep (fun b => b ≠ bl) we (we.setCell ⟨bl, 0, none⟩ (.int .i64 (h.index + 1))) := (Keep.refl _ we).setCell (p := ⟨bl, 0, none⟩) (fun hd => absurd rfl hd) _
      have hll : ({ h with index := h.index + 1 } :: hs : List HeadP).length = p.later.length := by rw [HPH.out]; rfl
      refine ⟨⟨{ p with later := { h with index := h.index + 1 } :: hs }, P2, R2, L2, Pb, some (Addr.mk bl 0 none), p2, r2, lc2, pbc, lbc, ?_, ⟨?_, ?_, ?_, ?_, HPA.out.hp, HPA.out.hr, HPA.out.hl, HPA.out.hlm, HPC.out.1, HPC.out.2, HPA.out.f0, HPA.out.f1⟩, ?_, ⟨HSM.out.leaf, HSM.out.path, HSM.out.count, ?_⟩, by have := HRL.out.2.1; show p.path.length ≤ 1000; omega⟩, HKC.out.setCell (p := ⟨bl, 0, none⟩) (fun _ => by rw [hgy]; have := HSZ.out.2.1; show gy ≤ bl; omega) (.int .i64 (h.index + 1))⟩
      ·dsimp only; rw [hll]; exact kS.blockAt HYD.out (fun e => hne e.symm)
      ·exact (HPG.out.prev.keep kS (fun b _ hb => by have h1 := HSZ.out.2.1; have h2 : b < gy := hb; show b ≠ bl; omega)).imp fun _ _ _ => trivial
      ·exact (HPG.out.root.keep kS (fun b _ hb => by have h1 := HSZ.out.2.1; have h2 : b < gy := hb; show b ≠ bl; omega)).imp fun _ _ _ => trivial
      ·exact (HPG.out.leaf.keep kS (fun b _ hb => by have h1 := HSZ.out.2.1; have h2 : b < gy := hb; show b ≠ bl; omega)).imp fun _ _ _ => trivial
      ·refine (HIC.out.keep kS (fun b hlt hb => ?_)).imp fun _ _ _ => trivial
       show b ≠ bl
       have h3 := HLW.out bl rfl
       have h1 := HSZ.out.2.1
       rcases hb with h2 | h2
       ·omega
       ·have h4 : b < gy := h2; omega
      ·dsimp only; rw [hll]
       refine (heads_first (vs := vs) (D := fun b => b ≠ bl ∨ b = bl) ((Row.of_own HST.out).imp (fun b _ _ => by by_cases e : b = bl; exact .inr e; exact .inl e)) (by rw [← HPH.out]) (fun k hk => ?_)).imp fun _ _ _ => trivial
       have hk2 : k < p.later.length := by rw [HPH.out]; exact hk
       have h5 := ((HO3.out k hk2).imp (E := fun b => b ≠ bl) (fun b _ hb => by have h1 := HSZ.out.2.1; have h2 : b < gy := hb.1; omega)).keep kS (fun _ _ hb => hb)
       have h6 : p.later[k] = (h :: hs)[k] := by simp [HPH.out]
       rw [h6] at h5
       exact h5.imp fun b _ hb => .inl hb
      ·dsimp only; rw [hll]; exact HSM.out.later
     ·have hl9i : ¬ (0 : Int) < (p.later.length : Int) := by omega
      go_wp2_with fail
      go_meet
      exact ⟨⟨p, P2, R2, L2, Pb, Lb, p2, r2, lc2, pbc, lbc, HYD.out, ⟨HPA.out.prev.imp fun _ _ _ => trivial, HPA.out.root.imp fun _ _ _ => trivial, HPA.out.leaf.imp fun _ _ _ => trivial, HIA.out.imp fun _ _ _ => trivial, HPA.out.hp, HPA.out.hr, HPA.out.hl, HPA.out.hlm, HPC.out.1, HPC.out.2, HPA.out.f0, HPA.out.f1⟩, HLA.out.imp fun _ _ _ => trivial, ⟨HSM.out.leaf, HSM.out.path, HSM.out.count, HSM.out.later⟩, by have := HRL.out.2.1; show p.path.length ≤ 1000; omega⟩, HKC.out⟩
    ·skip
     have c := cellOf HYD.out (k := 9) rfl
     have z := frozenOf HYD.out 9
     by_cases hl9 : 0 < p.later.length
     ·have hl9i : (0 : Int) < (p.later.length : Int) := by omega
      obtain ⟨bl, rfl⟩ : ∃ bl, Lb = some (Addr.mk bl 0 none) := by
       obtain ⟨vs, ho1, _⟩ := HOL.out
       obtain ⟨g, cap, hv, _, _⟩ := ho1.form hl9
       injection hv with hv
       exact ⟨g, hv⟩
      have hcc := HOL.out.cap
      obtain ⟨AL, hAL, hHL⟩ : ∃ AL : Addr, (if lbc = 0 + 1 then some (Addr.mk bl 0 none) else Option.map (fun y => y.add ((0 + 1) * 6)) (some (Addr.mk bl 0 none))) = some AL ∧ Heads we (fun b => b ≠ gy) (some AL) (p.later.length - (0 + 1)) (p.later.drop (0 + 1)) := by
       by_cases hcj : lbc = 0 + 1
       ·refine ⟨Addr.mk bl 0 none, if_pos hcj, ?_⟩
        rw [show p.later.length - (0 + 1) = 0 from by omega, List.drop_eq_nil_of_le (by omega)]
        exact Heads.nil _ _ _
       ·exact ⟨(Addr.mk bl 0 none).add ((0 + 1) * 6), if_neg hcj, Sl.from_ (E := headElt) HLA.out (by omega)⟩
      have HSV : ∀ W, (Instr.sliceAt 24 (.slice (some (Addr.mk bl 0 none)) p.later.length lbc) (some (.int .i64 1)) none none).run Tryz.prog W = .ok (.slice (some AL) (p.later.length - 1) (lbc - 1)) W := fun W => slice_headsR (j := 0) W (by omega) hAL
      clear hAL
      go_wp2_with fail
      go_meet
      have kS : Keep (fun b => b ≠ gy) we (we.setCell ⟨gy, 9, none⟩ (.slice (some AL) (p.later.length - 1) (lbc - 1))) := (Keep.refl _ we).setCell (p := ⟨gy, 9, none⟩) (fun hd => absurd rfl hd) _
      have hll : (p.later.drop 1).length = p.later.length - 1 := by rw [List.length_drop]
      refine ⟨⟨{ p with later := p.later.drop 1 }, P2, R2, L2, Pb, some AL, p2, r2, lc2, pbc, lbc - 1, ?_, ⟨(HPA.out.prev.keep kS (fun _ _ hb => hb)).imp fun _ _ _ => trivial, (HPA.out.root.keep kS (fun _ _ hb => hb)).imp fun _ _ _ => trivial, (HPA.out.leaf.keep kS (fun _ _ hb => hb)).imp fun _ _ _ => trivial, (HIA.out.keep kS (fun _ _ hb => hb)).imp fun _ _ _ => trivial, HPA.out.hp, HPA.out.hr, HPA.out.hl, HPA.out.hlm, HPC.out.1, HPC.out.2, HPA.out.f0, HPA.out.f1⟩, ?_, ⟨HSM.out.leaf, HSM.out.path, HSM.out.count, ?_⟩, by have := HRL.out.2.1; show p.path.length ≤ 1000; omega⟩, HKC.out.setCell (p := ⟨gy, 9, none⟩) (fun _ => by rw [hgy]; exact Nat.le_refl _) (.slice (some AL) (p.later.length - 1) (lbc - 1))⟩
      ·dsimp only; rw [hll]; exact setCell_block HYD.out 9 (.slice (some AL) (p.later.length - 1) (lbc - 1))
      ·dsimp only; rw [hll]; exact (hHL.keep kS (fun _ _ hb => hb)).imp fun _ _ _ => trivial
      ·dsimp only; rw [hll]; have := HSM.out.later; omega
     ·have hl9i : ¬ (0 : Int) < (p.later.length : Int) := by omega
      go_wp2_with fail
      go_meet
      exact ⟨⟨p, P2, R2, L2, Pb, Lb, p2, r2, lc2, pbc, lbc, HYD.out, ⟨HPA.out.prev.imp fun _ _ _ => trivial, HPA.out.root.imp fun _ _ _ => trivial, HPA.out.leaf.imp fun _ _ _ => trivial, HIA.out.imp fun _ _ _ => trivial, HPA.out.hp, HPA.out.hr, HPA.out.hl, HPA.out.hlm, HPC.out.1, HPC.out.2, HPA.out.f0, HPA.out.f1⟩, HLA.out.imp fun _ _ _ => trivial, ⟨HSM.out.leaf, HSM.out.path, HSM.out.count, HSM.out.later⟩, by have := HRL.out.2.1; show p.path.length ≤ 1000; omega⟩, HKC.out⟩
    ·skip
     have kA7 := (New.refl we).alloc (.cells #[.int .u8 1] 5)
     have y7 := kA7.blockAt HYD.out trivial
     have c := cellOf y7 (k := 5) rfl
     have z := frozenOf y7 5
     go_wp2_with fail
     go_meet
     have hnz := ((bs_one we 5 1 _ rfl).imp (E := fun b => b ≠ gy) (fun b _ hd => by have h1 := HSZ.out.1; have h2 : we.heap.size ≤ b := hd; omega))
     have kS : Keep (fun b => b ≠ gy) (we.alloc (.cells #[.int .u8 1] 5)) ((we.alloc (.cells #[.int .u8 1] 5)).setCell ⟨gy, 5, none⟩ (.slice (some ⟨we.heap.size, 0, none⟩) 1 1)) := (Keep.refl _ _).setCell (p := ⟨gy, 5, none⟩) (fun hd => absurd rfl hd) _
     exact ⟨⟨{ p with head := { p.head with root := [1] } }, P2, (some ⟨we.heap.size, 0, none⟩), L2, Pb, Lb, p2, 1, lc2, pbc, lbc, setCell_block y7 5 (.slice (some ⟨we.heap.size, 0, none⟩) 1 1), ⟨((HPA.out.prev.new kA7).keep kS (fun _ _ hb => hb)).imp fun _ _ _ => trivial, (hnz.keep kS (fun _ _ hb => hb)).imp fun _ _ _ => trivial, ((HPA.out.leaf.new kA7).keep kS (fun _ _ hb => hb)).imp fun _ _ _ => trivial, ((HIA.out.new kA7).keep kS (fun _ _ hb => hb)).imp fun _ _ _ => trivial, HPA.out.hp, Nat.le_refl _, HPA.out.hl, HPA.out.hlm, HPC.out.1, HPC.out.2, HPA.out.f0, HPA.out.f1⟩, ((HLA.out.new kA7).keep kS (fun _ _ hb => hb)).imp fun _ _ _ => trivial, ⟨HSM.out.leaf, HSM.out.path, HSM.out.count, HSM.out.later⟩, by have := HRL.out.2.1; show p.path.length ≤ 1000; omega⟩, (HKC.out.new kA7).setCell (p := ⟨gy, 5, none⟩) (fun _ => by rw [hgy]; exact Nat.le_refl _) (.slice (some ⟨we.heap.size, 0, none⟩) 1 1)⟩
   case rest =>
    obtain ⟨⟨y, P3, R3, L3, Pa3, La3, p3, r3, lc3, pc3, lac3, hyx, hpa, hla, hsm, hyl⟩, kw⟩ := hcut
    have HX := Lib.hid hyx
    have HPY := Lib.hid hpa
    have HLY := Lib.hid hla
    have HSY := Lib.hid hsm
    have HYL := Lib.hid hyl
    have HKW := Lib.hid (HKH.out.new kw)
    have HTT := Lib.hid (Row.new HT.out ((HK9.out.new HKH.out).new kw))
    clear hyx hpa hla hsm hyl kw HP HKC HOL HLC HLW HOP HSZ HWC HSM HFP HPL HYD
    have hll := HSY.out.later
    have hEC := rencode_any _ _ P3 R3 L3 Pa3 La3 p3 r3 lc3 pc3 lac3 y _ HPY.out HLY.out (by have := HYL.out; omega) (by omega)
    have hes := encodeOf_small y
    generalize encodeOf y = eo at *
    obtain ⟨bs, ew⟩ := eo
    dsimp only at hEC hes
    have HEC := Lib.hid hEC
    have HES := Lib.hid hes
    clear hEC hes hll
    obtain ⟨x0, x1, x2, x3, x4, x5, x6, x7, x8, x9⟩ := cs10 HX.out
    go_wp2_with fail
    clear x0 x1 x2 x3 x4 x5 x6 x7 x8 x9
    refine HEC.out.mono ?_
    rintro e wl ⟨⟨C, cc, rfl, oC⟩, kl⟩
    have HPY := Lib.hid (HPY.out.new kl)
    have HLY := Lib.hid (HLY.out.new kl)
    have HKW := Lib.hid (HKW.out.new kl)
    have HTT := Lib.hid (Row.new HTT.out kl)
    have HX := Lib.hid (kl.blockAt HX.out trivial)
    have HC := Lib.hid (Row.of_own oC)
    have HCC := Lib.hid (And.intro (own_cap oC) (own_capMax oC))
    clear oC kl HEC
    have HC1 := Lib.hid (check24l_any _ _ _ T P3 R3 L3 Pa3 La3 32 tc p3 r3 lc3 pc3 lac3 (headSeal idv he) y wl HTT.out HPY.out HLY.out HSY.out)
    have HC2 := Lib.hid (fun W (hW : New wl W) => check24l_any (fun _ => True) _ _ none P3 R3 L3 Pa3 La3 0 0 p3 r3 lc3 pc3 lac3 [] y W (Row.nil _ _ _ _) (HPY.out.new hW) (HLY.out.new hW) HSY.out)
    have HC3 := Lib.hid (fun W (hW : New wl W) => write24_any _ _ P3 R3 L3 Pa3 La3 p3 r3 lc3 pc3 lac3 y W (HPY.out.new hW) (HLY.out.new hW) HSY.out (by have := HYL.out; omega))
    have HC4 := Lib.hid (fun W (hW : New wl W) => read24_any _ C bs.length cc bs W (Row.new HC.out hW) (by have := HES.out; omega) HCC.out.1 HCC.out.2)
    go_upto_region 43 with fail
    obtain ⟨x0, x1, x2, x3, x4, x5, x6, x7, x8, x9⟩ := cs10 HX.out
    go_wp2_with fail
    clear x0 x1 x2 x3 x4 x5 x6 x7 x8 x9
    refine HC1.out.mono ?_
    rintro e wm ⟨rfl, km⟩
    obtain ⟨x0, x1, x2, x3, x4, x5, x6, x7, x8, x9⟩ := cs10 (km.blockAt HX.out trivial)
    go_wp2_with fail
    clear x0 x1 x2 x3 x4 x5 x6 x7 x8 x9
    refine (HC2.out wm km).mono ?_
    rintro e wn ⟨rfl, kn⟩
    obtain ⟨x0, x1, x2, x3, x4, x5, x6, x7, x8, x9⟩ := cs10 ((km.new kn).blockAt HX.out trivial)
    go_wp2_with fail
    clear x0 x1 x2 x3 x4 x5 x6 x7 x8 x9
    refine (HC3.out wn (km.new kn)).mono ?_
    rintro e wo ⟨rfl, ko⟩
    go_wp2_with fail
    refine (HC4.out wo ((km.new kn).new ko)).mono ?_
    rintro e wp ⟨rfl, kp⟩
    have kq := ((km.new kn).new ko).new kp
    have HKW := Lib.hid (HKW.out.new kq)
    have HC := Lib.hid (Row.new HC.out kq)
    clear km kn ko kp kq HC1 HC2 HC3 HC4 HX HPY HLY HTT HSY HYL
    have hh12i : how ≤ 12 := hh12
    by_cases hbz : bs.length = 0
    ·have hbi : ¬ (0 : Int) < (bs.length : Int) := by omega
     clear hbz HC
     go_wp2_with fail
     go_roundw
     case rel => exact ⟨how + 1, by omega, by go_num, HKW.out⟩
     case measure => simp [intOf]; omega
    ·have hbi : (0 : Int) < (bs.length : Int) := by omega
     have hwb : IntKind.i64.wrap ((bs.length : Int) - 1) = ((bs.length - 1 : Nat) : Int) := by rw [IntWalk.i64_in _ (by have := HES.out; omega)]; omega
     have hcc : ((bs.length - 1 : Nat) : Int) ≤ cc := by have := HCC.out.1; omega
     have HBN : Hid (0 < bs.length) := Lib.hid (by omega)
     have hlen := HES.out
     generalize hbl : bs.length = bl at *
     go_wp2_with fail
     refine (read24_any _ C (bl - 1) cc _ wp (Bs.cutTo HC.out (by omega)) (by omega) (by have := HCC.out.1; omega) HCC.out.2).mono ?_
     rintro e wq ⟨rfl, kq⟩
     have HKW := Lib.hid (HKW.out.new kq)
     have HC := Lib.hid (Row.new HC.out kq)
     clear kq
     have hoA : OwnB (wq.alloc (.cells #[] 5)) wq.heap.size 5 (some ⟨wq.heap.size, 0, none⟩) 0 0 [] := World.ownsRow_made wq #[] 0 (Nat.le_refl _) (by decide) rfl
     have hsA : wq.heap.size ≤ (wq.alloc (.cells #[] 5)).heap.size := by simp
     have hbA := Row.alloc HC.out (.cells #[] 5)
     have hpls : 0 + bl ≤ 140737488355328 := by omega
     have hpls1 : bl + 1 ≤ 140737488355328 := by omega
     go_wp2_with (first
      | (at_builtin; refine BigFrame.wpList_want rfl (fun K10 hK10 => ?_); refine wp_bytes _ _ _ rfl wq.heap.size _ 0 0 [] rfl hoA _ C bl cc bs rfl hbA hpls hsA ?_; intro A10 c10 w10 o10 g10 q10; refine hK10 _ _ ?_; clear hK10 K10; rw [Nat.zero_add] at o10; have hz10 := bs_one w10 5 0 _ rfl; have o10b := o10.alloc (.cells #[.int .u8 0] 5); have hN10 : wq.heap.size ≤ (w10.alloc (.cells #[.int .u8 0] 5)).heap.size := Nat.le_trans (Nat.le_trans hsA g10.size) ((New.refl w10).alloc _).size)
      | (at_builtin; refine BigFrame.wpList_want rfl (fun K11 hK11 => ?_); refine wp_bytes _ _ _ rfl wq.heap.size A10 bl c10 _ rfl o10b _ _ 1 1 [0] rfl hz10 hpls1 hN10 ?_; intro A11 c11 w11 o11 g11 q11; refine hK11 _ _ ?_; clear hK11 K11))
     have k10 : New wq w10 := ((New.refl wq).alloc _).grown g10 (fun k hk _ => (own_lt hoA k hk).1)
     have k11 : New wq w11 := (k10.alloc (.cells #[.int .u8 0] 5)).grown g11 (fun k hk _ => (own_lt o10 k hk).1)
     have HKW := Lib.hid (HKW.out.new k11)
     have hRR := read24_any _ A11 _ c11 _ w11 (Row.of_own o11) (by omega) (own_cap o11) (own_capMax o11)
     clear q10 q11 hz10 o10 o10b g10 g11 k10 k11 hN10 hoA hsA hbA hpls hpls1 o11 HC
     refine hRR.mono ?_
     rintro e w12 ⟨rfl, k12⟩
     clear hRR
     go_wp2_with fail
     go_roundw
     case rel => exact ⟨how + 1, by omega, by go_num, HKW.out.new k12⟩
     case measure => simp [intOf]; omega
  ·obtain rfl : how = 12 := by omega
   go_wp2_with fail
   first | exact HKH.out | (refine HEX.out _ _ _ _ _ _ _ _ _ _ _ _ _ _ _ _ _ _ _ _ _ _ _ _ _ _ _ _ _ _ _ _ _ _ _ _ _ _ _ _ _ _ _ _ _ _ _ _ _ _ _ _ _ _ _ _ _ _ _ _ _ _ _ _ _ _ _ _ _ _ _ _ _ _ _ _ _ _ _ _ _ _ _ _ _ _ _ _ _ _ _ _ _ _ _ _ _ _ _ _ _ _ _ _ _ _ _ _ _ _ _ _ _ _ _ _ _ _ _ _ _ _ _ _ _ _ _ _ _ _ _ _ _ _ _ _ _ _ _ _ _ _ _ _ _ _ _ _ _ _ _ _ wr HKH.out)
end Go.Proofs.YtfegdgaanmcecaaGreatDoor
