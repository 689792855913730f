/- What the proof of WalPlays needs, part 21. -/
import Derived.Test.YtojlldalhhibmaaGreatDoorWalPlaysJ16
import Derived.Test.YtojlldalhhibmaaGreatDoorWalPlaysJ17
import Derived.IntWalk
import Derived.Deep.Cut
import Derived.Deep.DeepCutAuto

namespace Go.Proofs.YtojlldalhhibmaaGreatDoor
open Go Go.RowKit
set_option linter.unusedVariables false

set_option maxHeartbeats 40000000 in
set_option maxRecDepth 1000000 in
theorem wp_arm3 (ds a : Int) (nn ss gk pd gl gx i : Nat) (limit : Int) (seq : Nat) (t : List UInt8) (lf : List (Int × Int)) (Al : Option Addr) (cl : Nat) (h' : Zn) (l : Wl) (Z1 : Option Addr) (z1 : Nat) (Z2 : Option Addr) (z2 : Nat) (Z3 : Option Addr) (z3 : Nat) (Z4 : Option Addr) (z4 : Nat) (w w6 : World)
    (qq0 qq1 qq2 qq4 qq5 qq6 qq8 qq9 qq10 qq12 qq13 qq15 qq16 qq17 qq19 qq20 qq21 qq22 qq23 qq24 qq25 qq26 qq27 qq28 qq29 qq30 qq31 qq32 qq33 qq34 qq35 qq36 qq37 qq38 qq39 qq40 qq41 qq42 qq43 qq44 qq45 qq46 qq47 qq48 qq49 qq50 qq51 qq52 qq53 qq54 qq55 qq56 qq57 qq58 qq59 qq60 qq61 qq62 qq63 qq64 qq65 qq66 qq67 qq68 qq69 qq70 qq71 qq72 qq73 qq74 qq75 qq76 qq77 qq78 qq79 qq80 qq81 qq82 qq83 qq84 qq85 qq86 qq87 qq88 qq89 qq90 qq91 qq92 qq93 qq94 qq95 qq96 qq97 qq98 qq99 qq100 qq101 qq102 qq103 qq104 qq105 qq106 qq107 qq108 qq109 qq110 qq111 qq112 qq113 qq114 qq115 qq116 qq117 qq118 qq119 qq120 qq121 qq122 qq123 qq124 qq125 qq126 qq127 qq128 qq129 qq130 qq131 qq132 qq133 qq134 qq135 qq136 qq137 qq138 qq139 qq140 qq141 qq142 qq144 qq145 qq146 qq147 qq148 qq149 qq150 qq151 qq152 qq153 qq154 qq155 qq156 qq157 qq158 qq159 qq160 qq161 qq162 qq163 qq164 qq165 qq166 qq167 qq168 qq169 qq170 qq171 qq172 qq173 qq174 qq175 qq176 qq177 qq178 qq179 qq180 qq181 qq182 qq183 qq184 qq185 qq186 qq187 qq188 qq189 qq190 qq191 qq192 qq193 qq194 qq195 qq196 qq197 qq198 qq199 qq200 qq201 qq202 qq203 qq204 qq205 qq206 qq207 qq208 qq209 qq210 qq211 qq212 qq213 qq214 qq215 qq216 qq217 qq218 qq219 qq220 qq221 qq222 qq223 qq224 qq225 qq226 qq227 qq228 qq229 qq230 qq231 qq232 qq233 qq234 qq235 qq236 qq237 qq238 qq239 qq240 qq241 qq242 qq243 qq244 qq245 qq246 qq247 qq248 qq249 qq250 qq251 qq252 qq253 qq254 qq255 qq256 qq257 qq258 qq259 qq260 qq261 qq262 qq263 qq264 qq265 qq266 qq267 qq268 qq269 qq270 qq271 qq272 qq273 qq274 qq275 qq276 qq277 qq278 qq279 qq280 qq281 qq282 qq283 qq284 qq285 qq286 qq287 qq288 qq289 qq290 qq291 qq292 qq293 qq294 qq295 qq296 qq297 qq298 qq299 : Value) (J K' : Act → World → Prop) (Q0 : Exit → Act → World → Prop) (hK : ∀ a' w', Met J a' w' → K' a' w')
    (HJ : Hid (∀ (u6 u11 u19 u20 u21 u22 u23 u24 u25 u26 u27 u28 u29 u30 u31 u119 u120 u121 u122 u123 u124 u125 u126 u127 u128 u129 u130 u131 u132 u133 u134 u135 u136 u137 u138 u139 u140 u141 u142 u144 u145 u146 u147 u148 u149 u150 u151 u152 u153 u154 u155 u156 u157 u158 u159 u160 u161 u162 u163 u164 u165 u166 u167 u168 u169 u170 u171 u172 u173 u174 u175 u176 u177 u178 u179 u180 u181 u182 u183 u184 u185 u186 u187 u188 u189 u190 u191 u192 u193 u194 u195 u196 u197 u198 u199 u200 u201 u202 u203 u204 u205 u206 u207 u208 u209 u210 u211 u212 u213 u214 u215 u216 u217 u218 u219 u220 u221 u222 u223 u224 u225 u226 u227 u228 u229 u230 u231 u232 u233 u234 u235 u236 u237 u238 u239 u240 u241 u242 u243 u244 u245 u246 u247 u248 u249 u250 u251 u252 u253 u254 u255 u256 u257 u258 u259 u260 u261 : Value) (w' : World), WpSt w ds a nn ss gk pd (i + 1) u11 w' → J ⟨List.toArray (qq0 :: qq1 :: qq2 :: .pointer (some ⟨w.heap.size, 0, none⟩) :: qq4 :: qq5 :: u6 :: .pointer (some ⟨pd, 0, none⟩) :: qq8 :: qq9 :: qq10 :: u11 :: qq12 :: qq13 :: .pointer (some ⟨gk, 0, none⟩) :: qq15 :: qq16 :: qq17 :: .pointer (some ⟨gx, 0, none⟩) :: u19 :: u20 :: u21 :: u22 :: u23 :: u24 :: u25 :: u26 :: u27 :: u28 :: u29 :: u30 :: u31 :: qq32 :: qq33 :: qq34 :: qq35 :: qq36 :: qq37 :: qq38 :: qq39 :: qq40 :: qq41 :: qq42 :: qq43 :: qq44 :: qq45 :: qq46 :: qq47 :: qq48 :: qq49 :: qq50 :: qq51 :: qq52 :: qq53 :: qq54 :: qq55 :: qq56 :: qq57 :: qq58 :: qq59 :: qq60 :: qq61 :: qq62 :: qq63 :: qq64 :: qq65 :: qq66 :: qq67 :: qq68 :: qq69 :: qq70 :: qq71 :: qq72 :: qq73 :: qq74 :: qq75 :: qq76 :: qq77 :: qq78 :: qq79 :: qq80 :: qq81 :: qq82 :: qq83 :: qq84 :: qq85 :: qq86 :: qq87 :: qq88 :: qq89 :: qq90 :: qq91 :: qq92 :: qq93 :: qq94 :: qq95 :: qq96 :: qq97 :: qq98 :: qq99 :: qq100 :: qq101 :: qq102 :: qq103 :: qq104 :: qq105 :: qq106 :: qq107 :: qq108 :: qq109 :: qq110 :: qq111 :: qq112 :: qq113 :: qq114 :: qq115 :: qq116 :: qq117 :: qq118 :: u119 :: u120 :: u121 :: u122 :: u123 :: u124 :: u125 :: u126 :: u127 :: u128 :: u129 :: u130 :: u131 :: u132 :: u133 :: u134 :: u135 :: u136 :: u137 :: u138 :: u139 :: u140 :: u141 :: u142 :: .int .i64 3 :: u144 :: u145 :: u146 :: u147 :: u148 :: u149 :: u150 :: u151 :: u152 :: u153 :: u154 :: u155 :: u156 :: u157 :: u158 :: u159 :: u160 :: u161 :: u162 :: u163 :: u164 :: u165 :: u166 :: u167 :: u168 :: u169 :: u170 :: u171 :: u172 :: u173 :: u174 :: u175 :: u176 :: u177 :: u178 :: u179 :: u180 :: u181 :: u182 :: u183 :: u184 :: u185 :: u186 :: u187 :: u188 :: u189 :: u190 :: u191 :: u192 :: u193 :: u194 :: u195 :: u196 :: u197 :: u198 :: u199 :: u200 :: u201 :: u202 :: u203 :: u204 :: u205 :: u206 :: u207 :: u208 :: u209 :: u210 :: u211 :: u212 :: u213 :: u214 :: u215 :: u216 :: u217 :: u218 :: u219 :: u220 :: u221 :: u222 :: u223 :: u224 :: u225 :: u226 :: u227 :: u228 :: u229 :: u230 :: u231 :: u232 :: u233 :: u234 :: u235 :: u236 :: u237 :: u238 :: u239 :: u240 :: u241 :: u242 :: u243 :: u244 :: u245 :: u246 :: u247 :: u248 :: u249 :: u250 :: u251 :: u252 :: u253 :: u254 :: u255 :: u256 :: u257 :: u258 :: u259 :: u260 :: u261 :: qq262 :: qq263 :: qq264 :: qq265 :: qq266 :: qq267 :: qq268 :: qq269 :: qq270 :: qq271 :: qq272 :: qq273 :: qq274 :: qq275 :: qq276 :: qq277 :: qq278 :: qq279 :: qq280 :: qq281 :: qq282 :: qq283 :: qq284 :: qq285 :: qq286 :: qq287 :: qq288 :: qq289 :: qq290 :: qq291 :: qq292 :: qq293 :: qq294 :: qq295 :: qq296 :: qq297 :: qq298 :: qq299 :: []), []⟩ w'))
    (HB : Hid (BitsOk w)) (HN : Hid ((2 ≤ nn ∧ nn ≤ 64) ∧ (1 ≤ ss ∧ ss ≤ 64) ∧ ss ≤ 4 ∧ 0 ≤ a ∧ a + (nn : Int) * ss ≤ 65536)) (HSQ : Hid (seq < U64)) (LP6 : Hid (Lp w w6 gl h' l)) (KY6 : Hid (Ky w w6 #[.int .i64 ds, .int .i64 a, .int .i64 (nn : Int), .int .i64 (ss : Int)] gk l Z1 z1 Z2 z2 Z3 z3 Z4 z4))
    (BX6 : Hid (Blk w6 gx 49 #[.int .i64 3, .int .i64 limit, .int .u64 (seq : Int), .string (st t), .slice Al lf.length cl])) (SV6 : Hid (Sv (fun b => b < w.heap.size) w6 (.slice Al lf.length cl) lf))
    (PX : Hid (LxP l a nn ss i)) (G : Hid (h'.g = pd)) (HPE : Hid (l.D.pend.length ≤ 200000)) (TL : Hid (t.length ≤ 1099511627776)) (LI : Hid (∀ y ∈ lf, InI y.1 ∧ InI y.2)) (LLE : Hid (lf.length ≤ 1000000)) (hgx9 : w.heap.size ≤ gx) :
    Code.wp Tryz.prog wpSw (Exit.then K' Q0) ⟨List.toArray (qq0 :: qq1 :: qq2 :: .pointer (some ⟨w.heap.size, 0, none⟩) :: qq4 :: qq5 :: qq6 :: .pointer (some ⟨pd, 0, none⟩) :: qq8 :: qq9 :: qq10 :: .pointer (some ⟨gl, 0, none⟩) :: qq12 :: qq13 :: .pointer (some ⟨gk, 0, none⟩) :: qq15 :: qq16 :: qq17 :: .pointer (some ⟨gx, 0, none⟩) :: qq19 :: qq20 :: qq21 :: qq22 :: qq23 :: qq24 :: qq25 :: qq26 :: qq27 :: qq28 :: qq29 :: qq30 :: qq31 :: qq32 :: qq33 :: qq34 :: qq35 :: qq36 :: qq37 :: qq38 :: qq39 :: qq40 :: qq41 :: qq42 :: qq43 :: qq44 :: qq45 :: qq46 :: qq47 :: qq48 :: qq49 :: qq50 :: qq51 :: qq52 :: qq53 :: qq54 :: qq55 :: qq56 :: qq57 :: qq58 :: qq59 :: qq60 :: qq61 :: qq62 :: qq63 :: qq64 :: qq65 :: qq66 :: qq67 :: qq68 :: qq69 :: qq70 :: qq71 :: qq72 :: qq73 :: qq74 :: qq75 :: qq76 :: qq77 :: qq78 :: qq79 :: qq80 :: qq81 :: qq82 :: qq83 :: qq84 :: qq85 :: qq86 :: qq87 :: qq88 :: qq89 :: qq90 :: qq91 :: qq92 :: qq93 :: qq94 :: qq95 :: qq96 :: qq97 :: qq98 :: qq99 :: qq100 :: qq101 :: qq102 :: qq103 :: qq104 :: qq105 :: qq106 :: qq107 :: qq108 :: qq109 :: qq110 :: qq111 :: qq112 :: qq113 :: qq114 :: qq115 :: qq116 :: qq117 :: qq118 :: qq119 :: qq120 :: qq121 :: qq122 :: qq123 :: qq124 :: qq125 :: qq126 :: qq127 :: qq128 :: qq129 :: qq130 :: qq131 :: qq132 :: qq133 :: qq134 :: qq135 :: qq136 :: qq137 :: qq138 :: qq139 :: qq140 :: qq141 :: qq142 :: .int .i64 3 :: qq144 :: qq145 :: qq146 :: qq147 :: qq148 :: qq149 :: qq150 :: qq151 :: qq152 :: qq153 :: qq154 :: qq155 :: qq156 :: qq157 :: qq158 :: qq159 :: qq160 :: qq161 :: qq162 :: qq163 :: qq164 :: qq165 :: qq166 :: qq167 :: qq168 :: qq169 :: qq170 :: qq171 :: qq172 :: qq173 :: qq174 :: qq175 :: qq176 :: qq177 :: qq178 :: qq179 :: qq180 :: qq181 :: qq182 :: qq183 :: qq184 :: qq185 :: qq186 :: qq187 :: qq188 :: qq189 :: qq190 :: qq191 :: qq192 :: qq193 :: qq194 :: qq195 :: qq196 :: qq197 :: qq198 :: qq199 :: qq200 :: qq201 :: qq202 :: qq203 :: qq204 :: qq205 :: qq206 :: qq207 :: qq208 :: qq209 :: qq210 :: qq211 :: qq212 :: qq213 :: qq214 :: qq215 :: qq216 :: qq217 :: qq218 :: qq219 :: qq220 :: qq221 :: qq222 :: qq223 :: qq224 :: qq225 :: qq226 :: qq227 :: qq228 :: qq229 :: qq230 :: qq231 :: qq232 :: qq233 :: qq234 :: qq235 :: qq236 :: qq237 :: qq238 :: qq239 :: qq240 :: qq241 :: qq242 :: qq243 :: qq244 :: qq245 :: qq246 :: qq247 :: qq248 :: qq249 :: qq250 :: qq251 :: qq252 :: qq253 :: qq254 :: qq255 :: qq256 :: qq257 :: qq258 :: qq259 :: qq260 :: qq261 :: qq262 :: qq263 :: qq264 :: qq265 :: qq266 :: qq267 :: qq268 :: qq269 :: qq270 :: qq271 :: qq272 :: qq273 :: qq274 :: qq275 :: qq276 :: qq277 :: qq278 :: qq279 :: qq280 :: qq281 :: qq282 :: qq283 :: qq284 :: qq285 :: qq286 :: qq287 :: qq288 :: qq289 :: qq290 :: qq291 :: qq292 :: qq293 :: qq294 :: qq295 :: qq296 :: qq297 :: qq298 :: qq299 :: []), []⟩ w6 := by
  conv => arg 2; whnf
  have x0 : (w6).cell? ⟨gx, 0, none⟩ = some (.int .i64 3) := BX6.out.cell 0
  have x1 : (w6).cell? ⟨gx, 1, none⟩ = some (.int .i64 limit) := BX6.out.cell 1
  have x2 : (w6).cell? ⟨gx, 2, none⟩ = some (.int .u64 (seq : Int)) := BX6.out.cell 2
  have x3 : (w6).cell? ⟨gx, 3, none⟩ = some (.string (st t)) := BX6.out.cell 3
  have x4 : (w6).cell? ⟨gx, 4, none⟩ = some (.slice Al lf.length cl) := BX6.out.cell 4
  go_wp2_with fail
  rw [← G.out]
  refine (dcrash_any h' l.D _ _ lf w6 LP6.out.dp.dk LP6.out.ok.dok SV6.out LI.out LLE.out (by have := HPE.out; omega)).mono ?_
  rintro e w7 ⟨rfl, h7, hd7, hs7⟩
  rw [G.out]
  obtain ⟨D7, hD7⟩ : ∃ D7, l.D.crash lf = D7 := ⟨_, rfl⟩
  have OK7 : Hid D7.Ok := by rw [Hid, ← hD7]; exact LP6.out.ok.dok.crash lf
  have PE7 : Hid (D7.pend.length ≤ 200000) := by rw [Hid, ← hD7]; exact Nat.zero_le _
  rw [hD7] at hd7
  have HD7 := Lib.hid hD7
  have DP7 := Lib.hid (LP6.out.dp.stp hs7 hd7)
  have KY7 := Lib.hid (KY6.out.same (hs7.same LP6.out.dp.dk (by decide) (by decide) (by decide)))
  have BX7 := Lib.hid (hs7.blk LP6.out.dp.dk BX6.out (by decide) (by decide))
  have SV7 := Lib.hid (Sv.anew SV6.out LP6.out.dp.below DP7.out.below)
  have G7 := Lib.hid (hs7.g.trans G.out)
  have OKL := Lib.hid LP6.out.ok.dok
  clear hd7 hs7 hD7 LP6 KY6 BX6 SV6 x0 x1 x2 x3 x4
  have x4 : w7.cell? ⟨gx, 4, none⟩ = some (.slice Al lf.length cl) := BX7.out.cell 4
  have d0 : (w7).cell? ⟨gk, 0, none⟩ = some (.int .i64 l.D.size) := KY7.out.kv.blk.cell 0
  have d1 : (w7).cell? ⟨gk, 1, none⟩ = some (.int .i64 l.D.limit) := KY7.out.kv.blk.cell 1
  have d2 : (w7).cell? ⟨gk, 2, none⟩ = some (.slice Z1 l.D.nv z1) := KY7.out.kv.blk.cell 2
  have d3 : (w7).cell? ⟨gk, 3, none⟩ = some (.slice Z2 l.D.ng z2) := KY7.out.kv.blk.cell 3
  have d4 : (w7).cell? ⟨gk, 4, none⟩ = some (.slice Z3 l.D.pend.length z3) := KY7.out.kv.blk.cell 4
  have d5 : (w7).cell? ⟨gk, 5, none⟩ = some (.int .i64 l.a) := KY7.out.kv.blk.cell 5
  have d6 : (w7).cell? ⟨gk, 6, none⟩ = some (.int .i64 (l.n : Int)) := KY7.out.kv.blk.cell 6
  have d7 : (w7).cell? ⟨gk, 7, none⟩ = some (.int .i64 (l.size : Int)) := KY7.out.kv.blk.cell 7
  have d8 : (w7).cell? ⟨gk, 8, none⟩ = some (.slice Z4 l.live.length z4) := KY7.out.kv.blk.cell 8
  have d9 : (w7).cell? ⟨gk, 9, none⟩ = some (.string (st l.stream)) := KY7.out.kv.blk.cell 9
  have d10 : (w7).cell? ⟨gk, 10, none⟩ = some (.int .u64 (l.last : Int)) := KY7.out.kv.blk.cell 10
  have d11 : (w7).cell? ⟨gk, 11, none⟩ = some (.int .u64 (l.synced : Int)) := KY7.out.kv.blk.cell 11
  have df0 : (w7).frozen? ⟨gk, 0, none⟩ = false := KY7.out.kv.blk.free 0
  have df1 : (w7).frozen? ⟨gk, 1, none⟩ = false := KY7.out.kv.blk.free 1
  have df2 : (w7).frozen? ⟨gk, 2, none⟩ = false := KY7.out.kv.blk.free 2
  have df3 : (w7).frozen? ⟨gk, 3, none⟩ = false := KY7.out.kv.blk.free 3
  have df4 : (w7).frozen? ⟨gk, 4, none⟩ = false := KY7.out.kv.blk.free 4
  have df5 : (w7).frozen? ⟨gk, 5, none⟩ = false := KY7.out.kv.blk.free 5
  have df6 : (w7).frozen? ⟨gk, 6, none⟩ = false := KY7.out.kv.blk.free 6
  have df7 : (w7).frozen? ⟨gk, 7, none⟩ = false := KY7.out.kv.blk.free 7
  have df8 : (w7).frozen? ⟨gk, 8, none⟩ = false := KY7.out.kv.blk.free 8
  have df9 : (w7).frozen? ⟨gk, 9, none⟩ = false := KY7.out.kv.blk.free 9
  have df10 : (w7).frozen? ⟨gk, 10, none⟩ = false := KY7.out.kv.blk.free 10
  have df11 : (w7).frozen? ⟨gk, 11, none⟩ = false := KY7.out.kv.blk.free 11
  go_wp2_with fail
  refine (rdcrash_any _ _ _ l.D lf w7 KY7.out.kv.rd OKL.out (by have := HPE.out; omega) SV7.out LLE.out LI.out).mono ?_
  rintro e w8 ⟨v8, rfl, hr8, q8⟩
  rw [HD7.out] at hr8
  obtain ⟨Y1, y1, Y2, y2, Y3, y3, rfl⟩ := hr8.shape
  have KY8 := Lib.hid (KY7.out.later q8)
  have DP8 := Lib.hid (DP7.out.later q8)
  have BX8 := Lib.hid (BX7.out.later q8)
  have R8 := Lib.hid hr8
  clear hr8 q8 KY7 DP7 BX7 SV7 x4 d0 d1 d2 d3 d4 d5 d6 d7 d8 d9 d10 d11 df0 df1 df2 df3 df4 df5 df6 df7 df8 df9 df10 df11 HD7
  have d0 : (w8).cell? ⟨gk, 0, none⟩ = some (.int .i64 l.D.size) := KY8.out.kv.blk.cell 0
  have d1 : (w8).cell? ⟨gk, 1, none⟩ = some (.int .i64 l.D.limit) := KY8.out.kv.blk.cell 1
  have d2 : (w8).cell? ⟨gk, 2, none⟩ = some (.slice Z1 l.D.nv z1) := KY8.out.kv.blk.cell 2
  have d3 : (w8).cell? ⟨gk, 3, none⟩ = some (.slice Z2 l.D.ng z2) := KY8.out.kv.blk.cell 3
  have d4 : (w8).cell? ⟨gk, 4, none⟩ = some (.slice Z3 l.D.pend.length z3) := KY8.out.kv.blk.cell 4
  have d5 : (w8).cell? ⟨gk, 5, none⟩ = some (.int .i64 l.a) := KY8.out.kv.blk.cell 5
  have d6 : (w8).cell? ⟨gk, 6, none⟩ = some (.int .i64 (l.n : Int)) := KY8.out.kv.blk.cell 6
  have d7 : (w8).cell? ⟨gk, 7, none⟩ = some (.int .i64 (l.size : Int)) := KY8.out.kv.blk.cell 7
  have d8 : (w8).cell? ⟨gk, 8, none⟩ = some (.slice Z4 l.live.length z4) := KY8.out.kv.blk.cell 8
  have d9 : (w8).cell? ⟨gk, 9, none⟩ = some (.string (st l.stream)) := KY8.out.kv.blk.cell 9
  have d10 : (w8).cell? ⟨gk, 10, none⟩ = some (.int .u64 (l.last : Int)) := KY8.out.kv.blk.cell 10
  have d11 : (w8).cell? ⟨gk, 11, none⟩ = some (.int .u64 (l.synced : Int)) := KY8.out.kv.blk.cell 11
  have df0 : (w8).frozen? ⟨gk, 0, none⟩ = false := KY8.out.kv.blk.free 0
  have df1 : (w8).frozen? ⟨gk, 1, none⟩ = false := KY8.out.kv.blk.free 1
  have df2 : (w8).frozen? ⟨gk, 2, none⟩ = false := KY8.out.kv.blk.free 2
  have df3 : (w8).frozen? ⟨gk, 3, none⟩ = false := KY8.out.kv.blk.free 3
  have df4 : (w8).frozen? ⟨gk, 4, none⟩ = false := KY8.out.kv.blk.free 4
  have df5 : (w8).frozen? ⟨gk, 5, none⟩ = false := KY8.out.kv.blk.free 5
  have df6 : (w8).frozen? ⟨gk, 6, none⟩ = false := KY8.out.kv.blk.free 6
  have df7 : (w8).frozen? ⟨gk, 7, none⟩ = false := KY8.out.kv.blk.free 7
  have df8 : (w8).frozen? ⟨gk, 8, none⟩ = false := KY8.out.kv.blk.free 8
  have df9 : (w8).frozen? ⟨gk, 9, none⟩ = false := KY8.out.kv.blk.free 9
  have df10 : (w8).frozen? ⟨gk, 10, none⟩ = false := KY8.out.kv.blk.free 10
  have df11 : (w8).frozen? ⟨gk, 11, none⟩ = false := KY8.out.kv.blk.free 11
  have KY9 := Lib.hid (KY8.out.setD R8.out)
  have DP9 := Lib.hid (DP8.out.same (KY8.out.goneD (by decide) (.int .i64 D7.size) (.int .i64 D7.limit) (.slice Y1 D7.nv y1) (.slice Y2 D7.ng y2) (.slice Y3 D7.pend.length y3)) (below_put5 DP8.out.below KY8.out.k0 _ _ _ _ _))
  have BX9 := Lib.hid (BX8.out.sameK (ks := [some 49]) (KY8.out.goneD (by decide) (.int .i64 D7.size) (.int .i64 D7.limit) (.slice Y1 D7.nv y1) (.slice Y2 D7.ng y2) (.slice Y3 D7.pend.length y3)) (by decide))
  go_upto_region 37 with (fail)
  generalize hw9 : World.setCell (World.setCell (World.setCell (World.setCell (World.setCell w8 _ _) _ _) _ _) _ _) _ _ = w10 at *
  clear hw9 KY8 DP8 BX8 d0 d1 d2 d3 d4 d5 d6 d7 d8 d9 d10 d11 df0 df1 df2 df3 df4 df5 df6 df7 df8 df9 df10 df11
  have KY9 : Hid (Ky w w10 #[.int .i64 ds, .int .i64 a, .int .i64 (nn : Int), .int .i64 (ss : Int)] gk ⟨D7, l.a, l.n, l.size, l.live, l.stream, l.last, l.synced⟩ Y1 y1 Y2 y2 Y3 y3 Z4 z4) := KY9.out
  have p0 : (w10).cell? ⟨w.heap.size, 0, none⟩ = some (.int .i64 ds) := KY9.out.pb.cell 0
  have p1 : (w10).cell? ⟨w.heap.size, 1, none⟩ = some (.int .i64 a) := KY9.out.pb.cell 1
  have p2 : (w10).cell? ⟨w.heap.size, 2, none⟩ = some (.int .i64 (nn : Int)) := KY9.out.pb.cell 2
  have p3 : (w10).cell? ⟨w.heap.size, 3, none⟩ = some (.int .i64 (ss : Int)) := KY9.out.pb.cell 3
  have d0 : (w10).cell? ⟨gk, 0, none⟩ = some (.int .i64 D7.size) := KY9.out.kv.blk.cell 0
  have d1 : (w10).cell? ⟨gk, 1, none⟩ = some (.int .i64 D7.limit) := KY9.out.kv.blk.cell 1
  have d2 : (w10).cell? ⟨gk, 2, none⟩ = some (.slice Y1 D7.nv y1) := KY9.out.kv.blk.cell 2
  have d3 : (w10).cell? ⟨gk, 3, none⟩ = some (.slice Y2 D7.ng y2) := KY9.out.kv.blk.cell 3
  have d4 : (w10).cell? ⟨gk, 4, none⟩ = some (.slice Y3 D7.pend.length y3) := KY9.out.kv.blk.cell 4
  have d5 : (w10).cell? ⟨gk, 5, none⟩ = some (.int .i64 l.a) := KY9.out.kv.blk.cell 5
  have d6 : (w10).cell? ⟨gk, 6, none⟩ = some (.int .i64 (l.n : Int)) := KY9.out.kv.blk.cell 6
  have d7 : (w10).cell? ⟨gk, 7, none⟩ = some (.int .i64 (l.size : Int)) := KY9.out.kv.blk.cell 7
  have d8 : (w10).cell? ⟨gk, 8, none⟩ = some (.slice Z4 l.live.length z4) := KY9.out.kv.blk.cell 8
  have d9 : (w10).cell? ⟨gk, 9, none⟩ = some (.string (st l.stream)) := KY9.out.kv.blk.cell 9
  have d10 : (w10).cell? ⟨gk, 10, none⟩ = some (.int .u64 (l.last : Int)) := KY9.out.kv.blk.cell 10
  have d11 : (w10).cell? ⟨gk, 11, none⟩ = some (.int .u64 (l.synced : Int)) := KY9.out.kv.blk.cell 11
  have x2 : w10.cell? ⟨gx, 2, none⟩ = some (.int .u64 (seq : Int)) := BX9.out.cell 2
  go_wp2_with fail
  refine (refWOpen_any _ D7 a nn ss seq w10 KY9.out.kv.rd OK7.out HN.out.1.1 HN.out.1.2 HN.out.2.1.1 HN.out.2.1.2 HN.out.2.2.2.1 HN.out.2.2.2.2 HSQ.out (by have := PE7.out; omega)).mono ?_
  rintro e wa ⟨va, Aa, ka, ca, rfl, hra, hoa, qa⟩
  have PXA : Hid (LxP (wOpen D7 a nn ss seq).1 a nn ss (i + 1)) := LxP.opened OK7.out HN.out.2.1.2 HSQ.out
  obtain ⟨O, hO⟩ : ∃ O, wOpen D7 a nn ss seq = O := ⟨_, rfl⟩
  have HO := Lib.hid hO
  rw [hO] at hra hoa PXA
  clear hO
  obtain ⟨l7, rs⟩ := O
  simp only at hra hoa PXA ⊢
  obtain rfl := own_len hoa
  obtain ⟨E1, e1, E2, e2, E3, e3, E4, e4, rfl, HDA, HGA⟩ := hra
  have QA := (Below.refl wa.heap.size wa).alloc (Nat.le_refl _) (.cells (rlC l7 E1 e1 E2 e2 E3 e3 E4 e4) 43)
  have DPA := Lib.hid ((DP9.out.later qa).later QA)
  have KYA := Lib.hid ((KY9.out.later qa).later QA)
  have BXA := Lib.hid ((BX9.out.later qa).later QA)
  have TA := Lib.hid (own_later hoa QA)
  have NA : Hid (Lv _ wa.heap.size l7 E1 e1 E2 e2 E3 e3 E4 e4) := ⟨Blk.new wa 43 (rlC l7 E1 e1 E2 e2 E3 e3 E4 e4), HDA.out.later QA, KSl.later HGA.out QA⟩
  clear HDA HGA qa QA hoa p0 p1 p2 p3 x2 d0 d1 d2 d3 d4 d5 d6 d7 d8 d9 d10 d11
  unfold rlC at DPA KYA BXA TA NA
  unfold rlC
  go_upto_region 38 with (fail)
  generalize hWA : wa.alloc _ = WA at *
  clear hWA
  generalize wa.heap.size = gn at *
  have p0 : (WA).cell? ⟨w.heap.size, 0, none⟩ = some (.int .i64 ds) := KYA.out.pb.cell 0
  have p1 : (WA).cell? ⟨w.heap.size, 1, none⟩ = some (.int .i64 a) := KYA.out.pb.cell 1
  have p2 : (WA).cell? ⟨w.heap.size, 2, none⟩ = some (.int .i64 (nn : Int)) := KYA.out.pb.cell 2
  have p3 : (WA).cell? ⟨w.heap.size, 3, none⟩ = some (.int .i64 (ss : Int)) := KYA.out.pb.cell 3
  have x2 : WA.cell? ⟨gx, 2, none⟩ = some (.int .u64 (seq : Int)) := BXA.out.cell 2
  go_wp2_with fail
  refine (lopen_lp DPA.out OK7.out HN.out.1.1 HN.out.1.2 HN.out.2.1.1 HN.out.2.1.2 HN.out.2.2.2.1 HN.out.2.2.2.2 HSQ.out (by have := PE7.out; omega) G7.out).mono ?_
  rintro e wb ⟨gq, Ab, kb, cb, hq, rfl, hpq, hgq, hob, hsb⟩
  rw [HO.out] at hpq hob
  simp only at hpq hob
  obtain rfl := own_len hob
  have KYB := Lib.hid (KYA.out.same (hsb.same DPA.out.dk (by decide) (by decide) (by decide)))
  have NB := Lib.hid (NA.out.same (hsb.same DPA.out.dk (by decide) (by decide) (by decide)))
  have TB := Lib.hid (own_sameK TA.out (hsb.same (ks := [some 71]) DPA.out.dk (by decide) (by decide) (by decide)) (by decide))
  have UB := Lib.hid hob
  have LPB := Lib.hid hpq
  have GB := Lib.hid hgq
  clear hpq hgq hob hsb KYA NA TA BXA DPA p0 p1 p2 p3 x2
  go_wp2_with fail
  refine (rsame_any _ _ _ _ rs rs _ (Sl.of_own (by omega) TB.out) (Sl.of_own (by omega) UB.out)).mono ?_
  rintro e wd ⟨rfl, kd, rfl⟩
  rw [decide_eq_true (rfl : rs = rs)]
  have LPC := Lib.hid (LPB.out.later (below_drewN (Below.refl _ _) kd))
  have KYC := Lib.hid (KYB.out.later (below_drewN (Below.refl _ _) kd))
  have NC := Lib.hid (NB.out.later (below_drewN (Below.refl _ _) kd))
  clear LPB KYB NB TB UB
  go_upto_region 41 with (fail)
  generalize World.drewN wb kd = w8 at *
  have u0 : (w8).cell? ⟨gn, 0, none⟩ = some (.int .i64 l7.D.size) := NC.out.blk.cell 0
  have u1 : (w8).cell? ⟨gn, 1, none⟩ = some (.int .i64 l7.D.limit) := NC.out.blk.cell 1
  have u2 : (w8).cell? ⟨gn, 2, none⟩ = some (.slice E1 l7.D.nv e1) := NC.out.blk.cell 2
  have u3 : (w8).cell? ⟨gn, 3, none⟩ = some (.slice E2 l7.D.ng e2) := NC.out.blk.cell 3
  have u4 : (w8).cell? ⟨gn, 4, none⟩ = some (.slice E3 l7.D.pend.length e3) := NC.out.blk.cell 4
  have u5 : (w8).cell? ⟨gn, 5, none⟩ = some (.int .i64 l7.a) := NC.out.blk.cell 5
  have u6 : (w8).cell? ⟨gn, 6, none⟩ = some (.int .i64 (l7.n : Int)) := NC.out.blk.cell 6
  have u7 : (w8).cell? ⟨gn, 7, none⟩ = some (.int .i64 (l7.size : Int)) := NC.out.blk.cell 7
  have u8 : (w8).cell? ⟨gn, 8, none⟩ = some (.slice E4 l7.live.length e4) := NC.out.blk.cell 8
  have u9 : (w8).cell? ⟨gn, 9, none⟩ = some (.string (st l7.stream)) := NC.out.blk.cell 9
  have u10 : (w8).cell? ⟨gn, 10, none⟩ = some (.int .u64 (l7.last : Int)) := NC.out.blk.cell 10
  have u11 : (w8).cell? ⟨gn, 11, none⟩ = some (.int .u64 (l7.synced : Int)) := NC.out.blk.cell 11
  have d0 : (w8).cell? ⟨gk, 0, none⟩ = some (.int .i64 D7.size) := KYC.out.kv.blk.cell 0
  have d1 : (w8).cell? ⟨gk, 1, none⟩ = some (.int .i64 D7.limit) := KYC.out.kv.blk.cell 1
  have d2 : (w8).cell? ⟨gk, 2, none⟩ = some (.slice Y1 D7.nv y1) := KYC.out.kv.blk.cell 2
  have d3 : (w8).cell? ⟨gk, 3, none⟩ = some (.slice Y2 D7.ng y2) := KYC.out.kv.blk.cell 3
  have d4 : (w8).cell? ⟨gk, 4, none⟩ = some (.slice Y3 D7.pend.length y3) := KYC.out.kv.blk.cell 4
  have d5 : (w8).cell? ⟨gk, 5, none⟩ = some (.int .i64 l.a) := KYC.out.kv.blk.cell 5
  have d6 : (w8).cell? ⟨gk, 6, none⟩ = some (.int .i64 (l.n : Int)) := KYC.out.kv.blk.cell 6
  have d7 : (w8).cell? ⟨gk, 7, none⟩ = some (.int .i64 (l.size : Int)) := KYC.out.kv.blk.cell 7
  have d8 : (w8).cell? ⟨gk, 8, none⟩ = some (.slice Z4 l.live.length z4) := KYC.out.kv.blk.cell 8
  have d9 : (w8).cell? ⟨gk, 9, none⟩ = some (.string (st l.stream)) := KYC.out.kv.blk.cell 9
  have d10 : (w8).cell? ⟨gk, 10, none⟩ = some (.int .u64 (l.last : Int)) := KYC.out.kv.blk.cell 10
  have d11 : (w8).cell? ⟨gk, 11, none⟩ = some (.int .u64 (l.synced : Int)) := KYC.out.kv.blk.cell 11
  have df0 : (w8).frozen? ⟨gk, 0, none⟩ = false := KYC.out.kv.blk.free 0
  have df1 : (w8).frozen? ⟨gk, 1, none⟩ = false := KYC.out.kv.blk.free 1
  have df2 : (w8).frozen? ⟨gk, 2, none⟩ = false := KYC.out.kv.blk.free 2
  have df3 : (w8).frozen? ⟨gk, 3, none⟩ = false := KYC.out.kv.blk.free 3
  have df4 : (w8).frozen? ⟨gk, 4, none⟩ = false := KYC.out.kv.blk.free 4
  have df5 : (w8).frozen? ⟨gk, 5, none⟩ = false := KYC.out.kv.blk.free 5
  have df6 : (w8).frozen? ⟨gk, 6, none⟩ = false := KYC.out.kv.blk.free 6
  have df7 : (w8).frozen? ⟨gk, 7, none⟩ = false := KYC.out.kv.blk.free 7
  have df8 : (w8).frozen? ⟨gk, 8, none⟩ = false := KYC.out.kv.blk.free 8
  have df9 : (w8).frozen? ⟨gk, 9, none⟩ = false := KYC.out.kv.blk.free 9
  have df10 : (w8).frozen? ⟨gk, 10, none⟩ = false := KYC.out.kv.blk.free 10
  have df11 : (w8).frozen? ⟨gk, 11, none⟩ = false := KYC.out.kv.blk.free 11
  have KY9 := Lib.hid (KYC.out.all NC.out.rd NC.out.rg)
  have LP9 := Lib.hid (LPC.out.same (KYC.out.gone (by decide) (.int .i64 l7.D.size) (.int .i64 l7.D.limit) (.slice E1 l7.D.nv e1) (.slice E2 l7.D.ng e2) (.slice E3 l7.D.pend.length e3) (.int .i64 l7.a) (.int .i64 (l7.n : Int)) (.int .i64 (l7.size : Int)) (.slice E4 l7.live.length e4) (.string (st l7.stream)) (.int .u64 (l7.last : Int)) (.int .u64 (l7.synced : Int))) (below_put12 LPC.out.dp.below KYC.out.k0 _ _ _ _ _ _ _ _ _ _ _ _))
  unfold put12 at KY9 LP9
  go_wp2_with fail
  generalize hw9 : World.setCell (World.setCell (World.setCell (World.setCell (World.setCell (World.setCell (World.setCell (World.setCell (World.setCell (World.setCell (World.setCell (World.setCell w8 _ _) _ _) _ _) _ _) _ _) _ _) _ _) _ _) _ _) _ _) _ _) _ _ = w9 at *
  clear hw9 LPC KYC NC d0 d1 d2 d3 d4 d5 d6 d7 d8 d9 d10 d11 df0 df1 df2 df3 df4 df5 df6 df7 df8 df9 df10 df11 u0 u1 u2 u3 u4 u5 u6 u7 u8 u9 u10 u11
  go_wp2_with fail
  refine Met.intro (HJ.out _ _ _ _ _ _ _ _ _ _ _ _ _ _ _ _ _ _ _ _ _ _ _ _ _ _ _ _ _ _ _ _ _ _ _ _ _ _ _ _ _ _ _ _ _ _ _ _ _ _ _ _ _ _ _ _ _ _ _ _ _ _ _ _ _ _ _ _ _ _ _ _ _ _ _ _ _ _ _ _ _ _ _ _ _ _ _ _ _ _ _ _ _ _ _ _ _ _ _ _ _ _ _ _ _ _ _ _ _ _ _ _ _ _ _ _ _ _ _ _ _ _ _ _ _ _ _ _ _ _ _ _ _ _ _ _ _ _ _ _ _ _ _ _ _ _ _ _ _ _ _ _ _ _ _ _ _ _ ?_)
  exact ⟨gq, hq, l7, E1, e1, E2, e2, E3, e3, E4, e4, rfl, LP9, KY9, PXA, GB⟩
end Go.Proofs.YtojlldalhhibmaaGreatDoor
