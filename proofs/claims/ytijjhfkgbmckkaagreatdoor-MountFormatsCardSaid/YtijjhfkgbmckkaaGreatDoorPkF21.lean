/-
  PROVED HERE: the state is laid as bytes in the reference's SHA-256; no condition.
-/
import Derived.Test.YtijjhfkgbmckkaaGreatDoorPkF16
namespace Go.Proofs.YtijjhfkgbmckkaaGreatDoor
open Go.RowKit
set_option maxRecDepth 100000 in
set_option maxHeartbeats 4000000 in
theorem refL7 {u0 u1 u2 u3 u4 u5 u7 u8 u9 u10 u11 u12 u13 u14 u15 u16 u17 u18 u19 u22 u23 u24 u25 u26 u27 u28 u29 u30 u31 u32 u33 u34 u35 u36 u37 u38 u39 u40 u41 u42 u43 u44 u45 u46 u47 u48 u49 u50 u51 u52 u53 u54 u55 u56 u57 u58 u59 u60 u61 u62 u63 u64 u65 u66 u67 u68 u69 u70 u71 u72 u73 u74 u75 u76 u77 u78 u79 u80 u81 u82 u83 u84 u85 u86 u87 u88 u89 u90 u91 u92 u93 u94 u95 u96 u97 u98 u99 u100 u101 u102 u103 u104 u105 u106 u107 u108 u109 u110 u111 u112 u113 u114 u115 u116 u117 u118 u119 u120 u121 u122 u123 u124 u125 u126 u127 u128 u129 u130 u131 u132 u133 u134 u135 u136 u137 u138 u139 u140 u141 u142 u143 u144 u145 u146 u147 u148 u149 u150 u151 u152 u153 u154 u155 u156 u157 u158 u159 u160 u161 u162 u163 u164 u165 u166 u167 u168 u169 u170 u171 u172 u173 u174 u175 u176 u177 u178 u179 u180 u181 u182 u183 u184 u185 u186 u187 u188 u189 u190 u191 u192 u193 u194 u195 u196 u197 u198 u199 u200 u201 u202 u203 u204 u205 u206 u207 u208 u209 u210 u211 u212 u213 u214 u215 u216 u217 u218 u219 u220 u221 u222 u223 u224 u225 u226 u227 u228 u229 u230 u231 u232 u233 u234 u235 u236 u237 u238 u239 u240 u241 u242 u243 u244 u245 u246 u247 u248 u249 u250 u251 u252 u253 u254 u255 u256 u257 u258 u259 u260 u261 u262 u263 u264 u265 u266 : Value} {Q : Exit → Act → World → Prop} {w : World} {h6 : Nat} {f : Nat → BitVec 32} (base : Nat) (hbase : base ≤ w.heap.size)
  (hst : W32s w h6 0 8 f)
  (hexit : ∀ (v21 v240 v241 v242 v243 v244 v245 v246 v247 v248 v249 v250 v251 v252 v253 v254 v255 v256 v257 v258 v259 v260 v261 v262 v263 v264 v265 : Value) (A : Option Addr) (cA : Nat) (w' : World), New w w' → OwnB w' base 5 A 32 cA (stateBytes f) → Q (.exit 12) ⟨List.toArray (u0 :: u1 :: u2 :: u3 :: u4 :: u5 :: .pointer (some ⟨h6, 0, none⟩) :: u7 :: u8 :: u9 :: u10 :: u11 :: u12 :: u13 :: u14 :: u15 :: u16 :: u17 :: u18 :: u19 :: .slice A 32 cA :: v21 :: u22 :: u23 :: u24 :: u25 :: u26 :: u27 :: u28 :: u29 :: u30 :: u31 :: u32 :: u33 :: u34 :: u35 :: u36 :: u37 :: u38 :: u39 :: u40 :: u41 :: u42 :: u43 :: u44 :: u45 :: u46 :: u47 :: u48 :: u49 :: u50 :: u51 :: u52 :: u53 :: u54 :: u55 :: u56 :: u57 :: u58 :: u59 :: u60 :: u61 :: u62 :: u63 :: u64 :: u65 :: u66 :: u67 :: u68 :: u69 :: u70 :: u71 :: u72 :: u73 :: u74 :: u75 :: u76 :: u77 :: u78 :: u79 :: u80 :: u81 :: u82 :: u83 :: u84 :: u85 :: u86 :: u87 :: u88 :: u89 :: u90 :: u91 :: u92 :: u93 :: u94 :: u95 :: u96 :: u97 :: u98 :: u99 :: u100 :: u101 :: u102 :: u103 :: u104 :: u105 :: u106 :: u107 :: u108 :: u109 :: u110 :: u111 :: u112 :: u113 :: u114 :: u115 :: u116 :: u117 :: u118 :: u119 :: u120 :: u121 :: u122 :: u123 :: u124 :: u125 :: u126 :: u127 :: u128 :: u129 :: u130 :: u131 :: u132 :: u133 :: u134 :: u135 :: u136 :: u137 :: u138 :: u139 :: u140 :: u141 :: u142 :: u143 :: u144 :: u145 :: u146 :: u147 :: u148 :: u149 :: u150 :: u151 :: u152 :: u153 :: u154 :: u155 :: u156 :: u157 :: u158 :: u159 :: u160 :: u161 :: u162 :: u163 :: u164 :: u165 :: u166 :: u167 :: u168 :: u169 :: u170 :: u171 :: u172 :: u173 :: u174 :: u175 :: u176 :: u177 :: u178 :: u179 :: u180 :: u181 :: u182 :: u183 :: u184 :: u185 :: u186 :: u187 :: u188 :: u189 :: u190 :: u191 :: u192 :: u193 :: u194 :: u195 :: u196 :: u197 :: u198 :: u199 :: u200 :: u201 :: u202 :: u203 :: u204 :: u205 :: u206 :: u207 :: u208 :: u209 :: u210 :: u211 :: u212 :: u213 :: u214 :: u215 :: u216 :: u217 :: u218 :: u219 :: u220 :: u221 :: u222 :: u223 :: u224 :: u225 :: u226 :: u227 :: u228 :: u229 :: u230 :: u231 :: u232 :: u233 :: u234 :: u235 :: u236 :: u237 :: u238 :: u239 :: v240 :: v241 :: v242 :: v243 :: v244 :: v245 :: v246 :: v247 :: v248 :: v249 :: v250 :: v251 :: v252 :: v253 :: v254 :: v255 :: v256 :: v257 :: v258 :: v259 :: v260 :: v261 :: v262 :: v263 :: v264 :: v265 :: u266 :: []), []⟩ w') :
  Code.wp Tryz.prog (Code.loop refLoop7) Q ⟨List.toArray (u0 :: u1 :: u2 :: u3 :: u4 :: u5 :: .pointer (some ⟨h6, 0, none⟩) :: u7 :: u8 :: u9 :: u10 :: u11 :: u12 :: u13 :: u14 :: u15 :: u16 :: u17 :: u18 :: u19 :: .slice none 0 0 :: .int .i64 0 :: u22 :: u23 :: u24 :: u25 :: u26 :: u27 :: u28 :: u29 :: u30 :: u31 :: u32 :: u33 :: u34 :: u35 :: u36 :: u37 :: u38 :: u39 :: u40 :: u41 :: u42 :: u43 :: u44 :: u45 :: u46 :: u47 :: u48 :: u49 :: u50 :: u51 :: u52 :: u53 :: u54 :: u55 :: u56 :: u57 :: u58 :: u59 :: u60 :: u61 :: u62 :: u63 :: u64 :: u65 :: u66 :: u67 :: u68 :: u69 :: u70 :: u71 :: u72 :: u73 :: u74 :: u75 :: u76 :: u77 :: u78 :: u79 :: u80 :: u81 :: u82 :: u83 :: u84 :: u85 :: u86 :: u87 :: u88 :: u89 :: u90 :: u91 :: u92 :: u93 :: u94 :: u95 :: u96 :: u97 :: u98 :: u99 :: u100 :: u101 :: u102 :: u103 :: u104 :: u105 :: u106 :: u107 :: u108 :: u109 :: u110 :: u111 :: u112 :: u113 :: u114 :: u115 :: u116 :: u117 :: u118 :: u119 :: u120 :: u121 :: u122 :: u123 :: u124 :: u125 :: u126 :: u127 :: u128 :: u129 :: u130 :: u131 :: u132 :: u133 :: u134 :: u135 :: u136 :: u137 :: u138 :: u139 :: u140 :: u141 :: u142 :: u143 :: u144 :: u145 :: u146 :: u147 :: u148 :: u149 :: u150 :: u151 :: u152 :: u153 :: u154 :: u155 :: u156 :: u157 :: u158 :: u159 :: u160 :: u161 :: u162 :: u163 :: u164 :: u165 :: u166 :: u167 :: u168 :: u169 :: u170 :: u171 :: u172 :: u173 :: u174 :: u175 :: u176 :: u177 :: u178 :: u179 :: u180 :: u181 :: u182 :: u183 :: u184 :: u185 :: u186 :: u187 :: u188 :: u189 :: u190 :: u191 :: u192 :: u193 :: u194 :: u195 :: u196 :: u197 :: u198 :: u199 :: u200 :: u201 :: u202 :: u203 :: u204 :: u205 :: u206 :: u207 :: u208 :: u209 :: u210 :: u211 :: u212 :: u213 :: u214 :: u215 :: u216 :: u217 :: u218 :: u219 :: u220 :: u221 :: u222 :: u223 :: u224 :: u225 :: u226 :: u227 :: u228 :: u229 :: u230 :: u231 :: u232 :: u233 :: u234 :: u235 :: u236 :: u237 :: u238 :: u239 :: u240 :: u241 :: u242 :: u243 :: u244 :: u245 :: u246 :: u247 :: u248 :: u249 :: u250 :: u251 :: u252 :: u253 :: u254 :: u255 :: u256 :: u257 :: u258 :: u259 :: u260 :: u261 :: u262 :: u263 :: u264 :: u265 :: u266 :: []), []⟩ w := by
 have HX := Lib.hid hexit
 clear hexit
 conv => arg 2; arg 1; whnf
 go_loopw [20, 21] (fun s20 i wx => ∃ (A : Option Addr) (n c k : Nat), s20 = .slice A n c ∧ k ≤ 8 ∧ i = .int .i64 (k : Int) ∧ n = 4 * k ∧ OwnB wx w.heap.size 5 A n c (stateTo f k) ∧ New w wx) (fun _ i _ => 8 - (intOf i).toNat)
 case atStart => exact ⟨none, 0, 0, 0, rfl, by omega, rfl, rfl, Own.nil _ _ _ _, New.refl _⟩
 case round =>
  obtain ⟨A6, n, c6, k, rfl, hk8, rfl, hn4, hown, hK⟩ := hrel
  have hb : n ≤ 32 := by omega
  have HN4 := Lib.hid hn4
  clear hn4
  by_cases hlt : k < 8
  ·have ck := (hst.keep hK trivial).cell0 (j := k) hlt
   have hbd : n + 4 ≤ 140737488355328 := by omega
   have hne : blk A6 ≠ some h6 := by
    intro e; have := own_lt hown h6 e; have := hst.lt (by decide); omega
   have hsz := hK.size
   clear hst
   go_wp2_with fail
   have cka := (World.cell?_alloc_lt wr (.cells #[.int .u8 (bv (lowb (f k >>> 24))), .int .u8 (bv (lowb (f k >>> 16))), .int .u8 (bv (lowb (f k >>> 8))), .int .u8 (bv (lowb (f k)))] 5) ⟨h6, k, none⟩ (World.block_lt_of_cell? _ _ ck)).trans ck
   have hfr := bs_four wr 5 (lowb (f k >>> 24)) (lowb (f k >>> 16)) (lowb (f k >>> 8)) (lowb (f k))
   have hown1 := hown.alloc (.cells #[.int .u8 (bv (lowb (f k >>> 24))), .int .u8 (bv (lowb (f k >>> 16))), .int .u8 (bv (lowb (f k >>> 8))), .int .u8 (bv (lowb (f k)))] 5)
   go_region_held3 (fun w' => w'.cell? ⟨h6, k, none⟩ = some (Value.int IntKind.u32 (wv (f k)))) (first | exact ck | (refine Eq.trans ?_ ck; exact World.cell?_alloc_lt _ _ _ (World.block_lt_of_cell? _ _ ck)) | exact hg3.cell (a := ⟨h6, k, none⟩) cka (Ne.symm hne))
    ((refine step_bytes _ rfl (.tmp 244) (.tmp 264) rfl w.heap.size A6 n c6 _ rfl hown1 (fun g => wr.heap.size ≤ g) _ 4 4 (be4 (f k)) rfl hfr hbd ((hK.alloc _).size) ?_; intro A3 c3 w3 hown3 hg3 hbk3))
   replace hg3 := undrew hg3
   have hK3 := new_app hK hown hg3
   clear hg3 hbk3 hown1 hK hown ck cka hfr
   go_wp2_with fail
   go_roundw
   case rel => exact ⟨_, _, _, k + 1, rfl, by omega, by go_num, by have := HN4.out; omega, by rw [stateTo_succ]; exact hown3, hK3⟩
   case measure => simp [intOf]; omega
  ·obtain rfl : k = 8 := by omega
   have h32 : n = 32 := by have := HN4.out; omega
   subst h32
   clear HN4 hst
   rw [show ((8 : Nat) : Int) = 8 from rfl]
   go_wp2_with fail
   exact HX.out _ _ _ _ _ _ _ _ _ _ _ _ _ _ _ _ _ _ _ _ _ _ _ _ _ _ _ A6 c6 wr hK (own_base hown hbase)
end Go.Proofs.YtijjhfkgbmckkaaGreatDoor
