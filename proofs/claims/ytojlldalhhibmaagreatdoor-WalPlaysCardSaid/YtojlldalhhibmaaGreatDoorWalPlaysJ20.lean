/- What the proof of WalPlays needs, part 20. -/
import Derived.Test.YtojlldalhhibmaaGreatDoorWalPlaysJ16
import Derived.Test.YtojlldalhhibmaaGreatDoorWalPlaysJ17
import Derived.IntWalk
import Derived.Deep.Cut
import Derived.Deep.DeepCutAuto

namespace Go.Proofs.YtojlldalhhibmaaGreatDoor
open Go Go.RowKit
set_option linter.unusedVariables false

set_option maxHeartbeats 40000000 in
set_option maxRecDepth 1000000 in
theorem wp_arm2 (ds a : Int) (nn ss gk pd gl gx i : Nat) (limit : Int) (seq : Nat) (t : List UInt8) (lf : List (Int × Int)) (Al : Option Addr) (cl : Nat) (h' : Zn) (l : Wl) (Z1 : Option Addr) (z1 : Nat) (Z2 : Option Addr) (z2 : Nat) (Z3 : Option Addr) (z3 : Nat) (Z4 : Option Addr) (z4 : Nat) (w w6 : World)
    (qq0 qq1 qq2 qq4 qq5 qq6 qq8 qq9 qq10 qq12 qq13 qq15 qq16 qq17 qq19 qq20 qq21 qq22 qq23 qq24 qq25 qq26 qq27 qq28 qq29 qq30 qq31 qq32 qq33 qq34 qq35 qq36 qq37 qq38 qq39 qq40 qq41 qq42 qq43 qq44 qq45 qq46 qq47 qq48 qq49 qq50 qq51 qq52 qq53 qq54 qq55 qq56 qq57 qq58 qq59 qq60 qq61 qq62 qq63 qq64 qq65 qq66 qq67 qq68 qq69 qq70 qq71 qq72 qq73 qq74 qq75 qq76 qq77 qq78 qq79 qq80 qq81 qq82 qq83 qq84 qq85 qq86 qq87 qq88 qq89 qq90 qq91 qq92 qq93 qq94 qq95 qq96 qq97 qq98 qq99 qq100 qq101 qq102 qq103 qq104 qq105 qq106 qq107 qq108 qq109 qq110 qq111 qq112 qq113 qq114 qq115 qq116 qq117 qq118 qq119 qq120 qq121 qq122 qq123 qq124 qq125 qq126 qq127 qq128 qq129 qq130 qq131 qq132 qq133 qq134 qq135 qq136 qq137 qq138 qq139 qq140 qq141 qq142 qq144 qq145 qq146 qq147 qq148 qq149 qq150 qq151 qq152 qq153 qq154 qq155 qq156 qq157 qq158 qq159 qq160 qq161 qq162 qq163 qq164 qq165 qq166 qq167 qq168 qq169 qq170 qq171 qq172 qq173 qq174 qq175 qq176 qq177 qq178 qq179 qq180 qq181 qq182 qq183 qq184 qq185 qq186 qq187 qq188 qq189 qq190 qq191 qq192 qq193 qq194 qq195 qq196 qq197 qq198 qq199 qq200 qq201 qq202 qq203 qq204 qq205 qq206 qq207 qq208 qq209 qq210 qq211 qq212 qq213 qq214 qq215 qq216 qq217 qq218 qq219 qq220 qq221 qq222 qq223 qq224 qq225 qq226 qq227 qq228 qq229 qq230 qq231 qq232 qq233 qq234 qq235 qq236 qq237 qq238 qq239 qq240 qq241 qq242 qq243 qq244 qq245 qq246 qq247 qq248 qq249 qq250 qq251 qq252 qq253 qq254 qq255 qq256 qq257 qq258 qq259 qq260 qq261 qq262 qq263 qq264 qq265 qq266 qq267 qq268 qq269 qq270 qq271 qq272 qq273 qq274 qq275 qq276 qq277 qq278 qq279 qq280 qq281 qq282 qq283 qq284 qq285 qq286 qq287 qq288 qq289 qq290 qq291 qq292 qq293 qq294 qq295 qq296 qq297 qq298 qq299 : Value) (J K' : Act → World → Prop) (Q0 : Exit → Act → World → Prop) (hK : ∀ a' w', Met J a' w' → K' a' w')
    (HJ : Hid (∀ (u6 u11 u19 u20 u21 u22 u23 u24 u25 u26 u27 u28 u29 u30 u31 u119 u120 u121 u122 u123 u124 u125 u126 u127 u128 u129 u130 u131 u132 u133 u134 u135 u136 u137 u138 u139 u140 u141 u142 u144 u145 u146 u147 u148 u149 u150 u151 u152 u153 u154 u155 u156 u157 u158 u159 u160 u161 u162 u163 u164 u165 u166 u167 u168 u169 u170 u171 u172 u173 u174 u175 u176 u177 u178 u179 u180 u181 u182 u183 u184 u185 u186 u187 u188 u189 u190 u191 u192 u193 u194 u195 u196 u197 u198 u199 u200 u201 u202 u203 u204 u205 u206 u207 u208 u209 u210 u211 u212 u213 u214 u215 u216 u217 u218 u219 u220 u221 u222 u223 u224 u225 u226 u227 u228 u229 u230 u231 u232 u233 u234 u235 u236 u237 u238 u239 u240 u241 u242 u243 u244 u245 u246 u247 u248 u249 u250 u251 u252 u253 u254 u255 u256 u257 u258 u259 u260 u261 : Value) (w' : World), WpSt w ds a nn ss gk pd (i + 1) u11 w' → J ⟨List.toArray (qq0 :: qq1 :: qq2 :: .pointer (some ⟨w.heap.size, 0, none⟩) :: qq4 :: qq5 :: u6 :: .pointer (some ⟨pd, 0, none⟩) :: qq8 :: qq9 :: qq10 :: u11 :: qq12 :: qq13 :: .pointer (some ⟨gk, 0, none⟩) :: qq15 :: qq16 :: qq17 :: .pointer (some ⟨gx, 0, none⟩) :: u19 :: u20 :: u21 :: u22 :: u23 :: u24 :: u25 :: u26 :: u27 :: u28 :: u29 :: u30 :: u31 :: qq32 :: qq33 :: qq34 :: qq35 :: qq36 :: qq37 :: qq38 :: qq39 :: qq40 :: qq41 :: qq42 :: qq43 :: qq44 :: qq45 :: qq46 :: qq47 :: qq48 :: qq49 :: qq50 :: qq51 :: qq52 :: qq53 :: qq54 :: qq55 :: qq56 :: qq57 :: qq58 :: qq59 :: qq60 :: qq61 :: qq62 :: qq63 :: qq64 :: qq65 :: qq66 :: qq67 :: qq68 :: qq69 :: qq70 :: qq71 :: qq72 :: qq73 :: qq74 :: qq75 :: qq76 :: qq77 :: qq78 :: qq79 :: qq80 :: qq81 :: qq82 :: qq83 :: qq84 :: qq85 :: qq86 :: qq87 :: qq88 :: qq89 :: qq90 :: qq91 :: qq92 :: qq93 :: qq94 :: qq95 :: qq96 :: qq97 :: qq98 :: qq99 :: qq100 :: qq101 :: qq102 :: qq103 :: qq104 :: qq105 :: qq106 :: qq107 :: qq108 :: qq109 :: qq110 :: qq111 :: qq112 :: qq113 :: qq114 :: qq115 :: qq116 :: qq117 :: qq118 :: u119 :: u120 :: u121 :: u122 :: u123 :: u124 :: u125 :: u126 :: u127 :: u128 :: u129 :: u130 :: u131 :: u132 :: u133 :: u134 :: u135 :: u136 :: u137 :: u138 :: u139 :: u140 :: u141 :: u142 :: .int .i64 2 :: u144 :: u145 :: u146 :: u147 :: u148 :: u149 :: u150 :: u151 :: u152 :: u153 :: u154 :: u155 :: u156 :: u157 :: u158 :: u159 :: u160 :: u161 :: u162 :: u163 :: u164 :: u165 :: u166 :: u167 :: u168 :: u169 :: u170 :: u171 :: u172 :: u173 :: u174 :: u175 :: u176 :: u177 :: u178 :: u179 :: u180 :: u181 :: u182 :: u183 :: u184 :: u185 :: u186 :: u187 :: u188 :: u189 :: u190 :: u191 :: u192 :: u193 :: u194 :: u195 :: u196 :: u197 :: u198 :: u199 :: u200 :: u201 :: u202 :: u203 :: u204 :: u205 :: u206 :: u207 :: u208 :: u209 :: u210 :: u211 :: u212 :: u213 :: u214 :: u215 :: u216 :: u217 :: u218 :: u219 :: u220 :: u221 :: u222 :: u223 :: u224 :: u225 :: u226 :: u227 :: u228 :: u229 :: u230 :: u231 :: u232 :: u233 :: u234 :: u235 :: u236 :: u237 :: u238 :: u239 :: u240 :: u241 :: u242 :: u243 :: u244 :: u245 :: u246 :: u247 :: u248 :: u249 :: u250 :: u251 :: u252 :: u253 :: u254 :: u255 :: u256 :: u257 :: u258 :: u259 :: u260 :: u261 :: qq262 :: qq263 :: qq264 :: qq265 :: qq266 :: qq267 :: qq268 :: qq269 :: qq270 :: qq271 :: qq272 :: qq273 :: qq274 :: qq275 :: qq276 :: qq277 :: qq278 :: qq279 :: qq280 :: qq281 :: qq282 :: qq283 :: qq284 :: qq285 :: qq286 :: qq287 :: qq288 :: qq289 :: qq290 :: qq291 :: qq292 :: qq293 :: qq294 :: qq295 :: qq296 :: qq297 :: qq298 :: qq299 :: []), []⟩ w'))
    (HB : Hid (BitsOk w)) (HN : Hid ((2 ≤ nn ∧ nn ≤ 64) ∧ (1 ≤ ss ∧ ss ≤ 64) ∧ ss ≤ 4 ∧ 0 ≤ a ∧ a + (nn : Int) * ss ≤ 65536)) (HSQ : Hid (seq < U64)) (LP6 : Hid (Lp w w6 gl h' l)) (KY6 : Hid (Ky w w6 #[.int .i64 ds, .int .i64 a, .int .i64 (nn : Int), .int .i64 (ss : Int)] gk l Z1 z1 Z2 z2 Z3 z3 Z4 z4))
    (BX6 : Hid (Blk w6 gx 49 #[.int .i64 2, .int .i64 limit, .int .u64 (seq : Int), .string (st t), .slice Al lf.length cl])) (SV6 : Hid (Sv (fun b => b < w.heap.size) w6 (.slice Al lf.length cl) lf))
    (PX : Hid (LxP l a nn ss i)) (G : Hid (h'.g = pd)) (HPE : Hid (l.D.pend.length ≤ 200000)) (TL : Hid (t.length ≤ 1099511627776)) (LI : Hid (∀ y ∈ lf, InI y.1 ∧ InI y.2)) (LLE : Hid (lf.length ≤ 1000000)) (hgx9 : w.heap.size ≤ gx) :
    Code.wp Tryz.prog wpSw (Exit.then K' Q0) ⟨List.toArray (qq0 :: qq1 :: qq2 :: .pointer (some ⟨w.heap.size, 0, none⟩) :: qq4 :: qq5 :: qq6 :: .pointer (some ⟨pd, 0, none⟩) :: qq8 :: qq9 :: qq10 :: .pointer (some ⟨gl, 0, none⟩) :: qq12 :: qq13 :: .pointer (some ⟨gk, 0, none⟩) :: qq15 :: qq16 :: qq17 :: .pointer (some ⟨gx, 0, none⟩) :: qq19 :: qq20 :: qq21 :: qq22 :: qq23 :: qq24 :: qq25 :: qq26 :: qq27 :: qq28 :: qq29 :: qq30 :: qq31 :: qq32 :: qq33 :: qq34 :: qq35 :: qq36 :: qq37 :: qq38 :: qq39 :: qq40 :: qq41 :: qq42 :: qq43 :: qq44 :: qq45 :: qq46 :: qq47 :: qq48 :: qq49 :: qq50 :: qq51 :: qq52 :: qq53 :: qq54 :: qq55 :: qq56 :: qq57 :: qq58 :: qq59 :: qq60 :: qq61 :: qq62 :: qq63 :: qq64 :: qq65 :: qq66 :: qq67 :: qq68 :: qq69 :: qq70 :: qq71 :: qq72 :: qq73 :: qq74 :: qq75 :: qq76 :: qq77 :: qq78 :: qq79 :: qq80 :: qq81 :: qq82 :: qq83 :: qq84 :: qq85 :: qq86 :: qq87 :: qq88 :: qq89 :: qq90 :: qq91 :: qq92 :: qq93 :: qq94 :: qq95 :: qq96 :: qq97 :: qq98 :: qq99 :: qq100 :: qq101 :: qq102 :: qq103 :: qq104 :: qq105 :: qq106 :: qq107 :: qq108 :: qq109 :: qq110 :: qq111 :: qq112 :: qq113 :: qq114 :: qq115 :: qq116 :: qq117 :: qq118 :: qq119 :: qq120 :: qq121 :: qq122 :: qq123 :: qq124 :: qq125 :: qq126 :: qq127 :: qq128 :: qq129 :: qq130 :: qq131 :: qq132 :: qq133 :: qq134 :: qq135 :: qq136 :: qq137 :: qq138 :: qq139 :: qq140 :: qq141 :: qq142 :: .int .i64 2 :: qq144 :: qq145 :: qq146 :: qq147 :: qq148 :: qq149 :: qq150 :: qq151 :: qq152 :: qq153 :: qq154 :: qq155 :: qq156 :: qq157 :: qq158 :: qq159 :: qq160 :: qq161 :: qq162 :: qq163 :: qq164 :: qq165 :: qq166 :: qq167 :: qq168 :: qq169 :: qq170 :: qq171 :: qq172 :: qq173 :: qq174 :: qq175 :: qq176 :: qq177 :: qq178 :: qq179 :: qq180 :: qq181 :: qq182 :: qq183 :: qq184 :: qq185 :: qq186 :: qq187 :: qq188 :: qq189 :: qq190 :: qq191 :: qq192 :: qq193 :: qq194 :: qq195 :: qq196 :: qq197 :: qq198 :: qq199 :: qq200 :: qq201 :: qq202 :: qq203 :: qq204 :: qq205 :: qq206 :: qq207 :: qq208 :: qq209 :: qq210 :: qq211 :: qq212 :: qq213 :: qq214 :: qq215 :: qq216 :: qq217 :: qq218 :: qq219 :: qq220 :: qq221 :: qq222 :: qq223 :: qq224 :: qq225 :: qq226 :: qq227 :: qq228 :: qq229 :: qq230 :: qq231 :: qq232 :: qq233 :: qq234 :: qq235 :: qq236 :: qq237 :: qq238 :: qq239 :: qq240 :: qq241 :: qq242 :: qq243 :: qq244 :: qq245 :: qq246 :: qq247 :: qq248 :: qq249 :: qq250 :: qq251 :: qq252 :: qq253 :: qq254 :: qq255 :: qq256 :: qq257 :: qq258 :: qq259 :: qq260 :: qq261 :: qq262 :: qq263 :: qq264 :: qq265 :: qq266 :: qq267 :: qq268 :: qq269 :: qq270 :: qq271 :: qq272 :: qq273 :: qq274 :: qq275 :: qq276 :: qq277 :: qq278 :: qq279 :: qq280 :: qq281 :: qq282 :: qq283 :: qq284 :: qq285 :: qq286 :: qq287 :: qq288 :: qq289 :: qq290 :: qq291 :: qq292 :: qq293 :: qq294 :: qq295 :: qq296 :: qq297 :: qq298 :: qq299 :: []), []⟩ w6 := by
  conv => arg 2; whnf
  have x0 : (w6).cell? ⟨gx, 0, none⟩ = some (.int .i64 2) := BX6.out.cell 0
  have x1 : (w6).cell? ⟨gx, 1, none⟩ = some (.int .i64 limit) := BX6.out.cell 1
  have x2 : (w6).cell? ⟨gx, 2, none⟩ = some (.int .u64 (seq : Int)) := BX6.out.cell 2
  have x3 : (w6).cell? ⟨gx, 3, none⟩ = some (.string (st t)) := BX6.out.cell 3
  have x4 : (w6).cell? ⟨gx, 4, none⟩ = some (.slice Al lf.length cl) := BX6.out.cell 4
  go_wp2_with fail
  refine (lsync_lp LP6.out G.out).mono ?_
  rintro e w7 ⟨rfl, h7, hp7, hg7, hm7⟩
  have KY7 := Lib.hid (KY6.out.same (LP6.out.keeps hm7 (by decide) (by decide) (by decide) (by decide)))
  have LP7 := Lib.hid hp7
  have G7 := Lib.hid hg7
  clear hp7 hg7 hm7 LP6 KY6 BX6 SV6 x0 x1 x2 x3 x4
  have d0 : (w7).cell? ⟨gk, 0, none⟩ = some (.int .i64 l.D.size) := KY7.out.kv.blk.cell 0
  have d1 : (w7).cell? ⟨gk, 1, none⟩ = some (.int .i64 l.D.limit) := KY7.out.kv.blk.cell 1
  have d2 : (w7).cell? ⟨gk, 2, none⟩ = some (.slice Z1 l.D.nv z1) := KY7.out.kv.blk.cell 2
  have d3 : (w7).cell? ⟨gk, 3, none⟩ = some (.slice Z2 l.D.ng z2) := KY7.out.kv.blk.cell 3
  have d4 : (w7).cell? ⟨gk, 4, none⟩ = some (.slice Z3 l.D.pend.length z3) := KY7.out.kv.blk.cell 4
  have d5 : (w7).cell? ⟨gk, 5, none⟩ = some (.int .i64 l.a) := KY7.out.kv.blk.cell 5
  have d6 : (w7).cell? ⟨gk, 6, none⟩ = some (.int .i64 (l.n : Int)) := KY7.out.kv.blk.cell 6
  have d7 : (w7).cell? ⟨gk, 7, none⟩ = some (.int .i64 (l.size : Int)) := KY7.out.kv.blk.cell 7
  have d8 : (w7).cell? ⟨gk, 8, none⟩ = some (.slice Z4 l.live.length z4) := KY7.out.kv.blk.cell 8
  have d9 : (w7).cell? ⟨gk, 9, none⟩ = some (.string (st l.stream)) := KY7.out.kv.blk.cell 9
  have d10 : (w7).cell? ⟨gk, 10, none⟩ = some (.int .u64 (l.last : Int)) := KY7.out.kv.blk.cell 10
  have d11 : (w7).cell? ⟨gk, 11, none⟩ = some (.int .u64 (l.synced : Int)) := KY7.out.kv.blk.cell 11
  go_wp2_with fail
  refine (refWSync_any _ l w7 KY7.out.kv.val).mono ?_
  rintro e w8 ⟨v8, rfl, hr8, q8⟩
  have PX8 := Lib.hid PX.out.sync
  obtain ⟨l8, hl8⟩ : ∃ l8, l.sync = l8 := ⟨_, rfl⟩
  have LP8 := Lib.hid (LP7.out.later q8)
  rw [hl8] at hr8 PX8 LP8
  clear hl8
  obtain ⟨E1, e1, E2, e2, E3, e3, E4, e4, rfl, HD8, HG8⟩ := hr8
  have KY8 := Lib.hid (KY7.out.later q8)
  clear q8 LP7 KY7 d0 d1 d2 d3 d4 d5 d6 d7 d8 d9 d10 d11
  unfold rlC
  have d0 : (w8).cell? ⟨gk, 0, none⟩ = some (.int .i64 l.D.size) := KY8.out.kv.blk.cell 0
  have d1 : (w8).cell? ⟨gk, 1, none⟩ = some (.int .i64 l.D.limit) := KY8.out.kv.blk.cell 1
  have d2 : (w8).cell? ⟨gk, 2, none⟩ = some (.slice Z1 l.D.nv z1) := KY8.out.kv.blk.cell 2
  have d3 : (w8).cell? ⟨gk, 3, none⟩ = some (.slice Z2 l.D.ng z2) := KY8.out.kv.blk.cell 3
  have d4 : (w8).cell? ⟨gk, 4, none⟩ = some (.slice Z3 l.D.pend.length z3) := KY8.out.kv.blk.cell 4
  have d5 : (w8).cell? ⟨gk, 5, none⟩ = some (.int .i64 l.a) := KY8.out.kv.blk.cell 5
  have d6 : (w8).cell? ⟨gk, 6, none⟩ = some (.int .i64 (l.n : Int)) := KY8.out.kv.blk.cell 6
  have d7 : (w8).cell? ⟨gk, 7, none⟩ = some (.int .i64 (l.size : Int)) := KY8.out.kv.blk.cell 7
  have d8 : (w8).cell? ⟨gk, 8, none⟩ = some (.slice Z4 l.live.length z4) := KY8.out.kv.blk.cell 8
  have d9 : (w8).cell? ⟨gk, 9, none⟩ = some (.string (st l.stream)) := KY8.out.kv.blk.cell 9
  have d10 : (w8).cell? ⟨gk, 10, none⟩ = some (.int .u64 (l.last : Int)) := KY8.out.kv.blk.cell 10
  have d11 : (w8).cell? ⟨gk, 11, none⟩ = some (.int .u64 (l.synced : Int)) := KY8.out.kv.blk.cell 11
  have df0 : (w8).frozen? ⟨gk, 0, none⟩ = false := KY8.out.kv.blk.free 0
  have df1 : (w8).frozen? ⟨gk, 1, none⟩ = false := KY8.out.kv.blk.free 1
  have df2 : (w8).frozen? ⟨gk, 2, none⟩ = false := KY8.out.kv.blk.free 2
  have df3 : (w8).frozen? ⟨gk, 3, none⟩ = false := KY8.out.kv.blk.free 3
  have df4 : (w8).frozen? ⟨gk, 4, none⟩ = false := KY8.out.kv.blk.free 4
  have df5 : (w8).frozen? ⟨gk, 5, none⟩ = false := KY8.out.kv.blk.free 5
  have df6 : (w8).frozen? ⟨gk, 6, none⟩ = false := KY8.out.kv.blk.free 6
  have df7 : (w8).frozen? ⟨gk, 7, none⟩ = false := KY8.out.kv.blk.free 7
  have df8 : (w8).frozen? ⟨gk, 8, none⟩ = false := KY8.out.kv.blk.free 8
  have df9 : (w8).frozen? ⟨gk, 9, none⟩ = false := KY8.out.kv.blk.free 9
  have df10 : (w8).frozen? ⟨gk, 10, none⟩ = false := KY8.out.kv.blk.free 10
  have df11 : (w8).frozen? ⟨gk, 11, none⟩ = false := KY8.out.kv.blk.free 11
  have KY9 := Lib.hid (KY8.out.all HD8.out HG8.out)
  have LP9 := Lib.hid (LP8.out.same (KY8.out.gone (by decide) (.int .i64 l8.D.size) (.int .i64 l8.D.limit) (.slice E1 l8.D.nv e1) (.slice E2 l8.D.ng e2) (.slice E3 l8.D.pend.length e3) (.int .i64 l8.a) (.int .i64 (l8.n : Int)) (.int .i64 (l8.size : Int)) (.slice E4 l8.live.length e4) (.string (st l8.stream)) (.int .u64 (l8.last : Int)) (.int .u64 (l8.synced : Int))) (below_put12 LP8.out.dp.below KY8.out.k0 _ _ _ _ _ _ _ _ _ _ _ _))
  unfold put12 at KY9 LP9
  go_wp2_with fail
  generalize hw9 : World.setCell (World.setCell (World.setCell (World.setCell (World.setCell (World.setCell (World.setCell (World.setCell (World.setCell (World.setCell (World.setCell (World.setCell w8 _ _) _ _) _ _) _ _) _ _) _ _) _ _) _ _) _ _) _ _) _ _) _ _ = w9 at *
  clear hw9 LP8 KY8 d0 d1 d2 d3 d4 d5 d6 d7 d8 d9 d10 d11 df0 df1 df2 df3 df4 df5 df6 df7 df8 df9 df10 df11
  go_wp2_with fail
  refine Met.intro (HJ.out _ _ _ _ _ _ _ _ _ _ _ _ _ _ _ _ _ _ _ _ _ _ _ _ _ _ _ _ _ _ _ _ _ _ _ _ _ _ _ _ _ _ _ _ _ _ _ _ _ _ _ _ _ _ _ _ _ _ _ _ _ _ _ _ _ _ _ _ _ _ _ _ _ _ _ _ _ _ _ _ _ _ _ _ _ _ _ _ _ _ _ _ _ _ _ _ _ _ _ _ _ _ _ _ _ _ _ _ _ _ _ _ _ _ _ _ _ _ _ _ _ _ _ _ _ _ _ _ _ _ _ _ _ _ _ _ _ _ _ _ _ _ _ _ _ _ _ _ _ _ _ _ _ _ _ _ _ _ ?_)
  exact ⟨gl, h7, l8, E1, e1, E2, e2, E3, e3, E4, e4, rfl, LP9, KY9, PX8, G7⟩
end Go.Proofs.YtojlldalhhibmaaGreatDoor
