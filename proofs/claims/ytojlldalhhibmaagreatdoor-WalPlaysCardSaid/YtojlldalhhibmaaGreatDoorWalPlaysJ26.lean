/- What the proof of WalPlays needs, part 26. -/
import Derived.Test.YtojlldalhhibmaaGreatDoorWalPlaysJ16
import Derived.Test.YtojlldalhhibmaaGreatDoorWalPlaysJ25
import Derived.IntWalk
import Derived.Deep.CutBlock
import Derived.Deep.CutRange

namespace Go.Proofs.YtojlldalhhibmaaGreatDoor
open Go Go.RowKit
set_option linter.unusedVariables false

noncomputable def wpLoop : Code := (Tryz.f3.body.bind (blockAt 0)).getD .skip
set_option maxHeartbeats 40000000 in
set_option maxRecDepth 1000000 in
theorem wp_loop0 (ds a : Int) (nn ss gk pd gl : Nat) (xs : List LAct) (A0 : Option Addr) (c0 : Nat) (h4 : Zn) (l : Wl) (E1 : Option Addr) (e1 : Nat) (E2 : Option Addr) (e2 : Nat) (E3 : Option Addr) (e3 : Nat) (E4 : Option Addr) (e4 : Nat) (w W6 : World)
    (qq0 qq1 qq4 qq5 qq6 qq8 qq9 qq10 qq12 qq13 qq15 qq16 qq18 qq19 qq20 qq21 qq22 qq23 qq24 qq25 qq26 qq27 qq28 qq29 qq30 qq31 qq32 qq33 qq34 qq35 qq36 qq37 qq38 qq39 qq40 qq41 qq42 qq43 qq44 qq45 qq46 qq47 qq48 qq49 qq50 qq51 qq52 qq53 qq54 qq55 qq56 qq57 qq58 qq59 qq60 qq61 qq62 qq63 qq64 qq65 qq66 qq67 qq68 qq69 qq70 qq71 qq72 qq73 qq74 qq75 qq76 qq77 qq78 qq79 qq80 qq81 qq82 qq83 qq84 qq85 qq86 qq87 qq88 qq89 qq90 qq91 qq92 qq93 qq94 qq95 qq96 qq97 qq98 qq99 qq100 qq101 qq102 qq103 qq104 qq105 qq106 qq107 qq108 qq109 qq110 qq111 qq112 qq113 qq114 qq115 qq116 qq117 qq118 qq119 qq120 qq121 qq122 qq123 qq124 qq125 qq126 qq127 qq128 qq129 qq130 qq131 qq132 qq133 qq134 qq135 qq136 qq137 qq138 qq139 qq140 qq141 qq142 qq143 qq144 qq145 qq146 qq147 qq148 qq149 qq150 qq151 qq152 qq153 qq154 qq155 qq156 qq157 qq158 qq159 qq160 qq161 qq162 qq163 qq164 qq165 qq166 qq167 qq168 qq169 qq170 qq171 qq172 qq173 qq174 qq175 qq176 qq177 qq178 qq179 qq180 qq181 qq182 qq183 qq184 qq185 qq186 qq187 qq188 qq189 qq190 qq191 qq192 qq193 qq194 qq195 qq196 qq197 qq198 qq199 qq200 qq201 qq202 qq203 qq204 qq205 qq206 qq207 qq208 qq209 qq210 qq211 qq212 qq213 qq214 qq215 qq216 qq217 qq218 qq219 qq220 qq221 qq222 qq223 qq224 qq225 qq226 qq227 qq228 qq229 qq230 qq231 qq232 qq233 qq234 qq235 qq236 qq237 qq238 qq239 qq240 qq241 qq242 qq243 qq244 qq245 qq246 qq247 qq248 qq249 qq250 qq251 qq252 qq253 qq254 qq255 qq256 qq257 qq258 qq259 qq260 qq261 qq262 qq263 qq264 qq265 qq266 qq267 qq268 qq269 qq270 qq271 qq272 qq273 qq274 qq275 qq276 qq277 qq278 qq279 qq280 qq281 qq282 qq283 qq284 qq285 qq286 qq287 qq288 qq289 qq290 qq291 qq292 qq293 qq294 qq295 qq296 qq297 qq298 qq299 : Value) (J0 K0 : Act → World → Prop) (Q0 : Exit → Act → World → Prop) (hK0 : ∀ a' w', Met J0 a' w' → K0 a' w')
    (HJ0 : Hid (∀ (u6 u11 u17 u18 u19 u20 u21 u22 u23 u24 u25 u26 u27 u28 u29 u30 u31 u119 u120 u121 u122 u123 u124 u125 u126 u127 u128 u129 u130 u131 u132 u133 u134 u135 u136 u137 u138 u139 u140 u141 u142 u143 u144 u145 u146 u147 u148 u149 u150 u151 u152 u153 u154 u155 u156 u157 u158 u159 u160 u161 u162 u163 u164 u165 u166 u167 u168 u169 u170 u171 u172 u173 u174 u175 u176 u177 u178 u179 u180 u181 u182 u183 u184 u185 u186 u187 u188 u189 u190 u191 u192 u193 u194 u195 u196 u197 u198 u199 u200 u201 u202 u203 u204 u205 u206 u207 u208 u209 u210 u211 u212 u213 u214 u215 u216 u217 u218 u219 u220 u221 u222 u223 u224 u225 u226 u227 u228 u229 u230 u231 u232 u233 u234 u235 u236 u237 u238 u239 u240 u241 u242 u243 u244 u245 u246 u247 u248 u249 u250 u251 u252 u253 u254 u255 u256 u257 u258 u259 u260 u261 u262 u263 u264 u265 u266 u267 u268 u269 u270 u271 u272 u273 u274 u275 u276 u277 u278 u279 u280 u281 u282 u283 u284 u285 u286 u287 u288 u289 u290 u291 u292 u293 u294 u295 u296 u297 u298 u299 : Value) (w' : World), Below w.heap.size w w' → J0 ⟨List.toArray (qq0 :: qq1 :: .slice A0 xs.length c0 :: .pointer (some ⟨w.heap.size, 0, none⟩) :: qq4 :: qq5 :: u6 :: .pointer (some ⟨pd, 0, none⟩) :: qq8 :: qq9 :: qq10 :: u11 :: qq12 :: qq13 :: .pointer (some ⟨gk, 0, none⟩) :: qq15 :: qq16 :: u17 :: u18 :: u19 :: u20 :: u21 :: u22 :: u23 :: u24 :: u25 :: u26 :: u27 :: u28 :: u29 :: u30 :: u31 :: qq32 :: qq33 :: qq34 :: qq35 :: qq36 :: qq37 :: qq38 :: qq39 :: qq40 :: qq41 :: qq42 :: qq43 :: qq44 :: qq45 :: qq46 :: qq47 :: qq48 :: qq49 :: qq50 :: qq51 :: qq52 :: qq53 :: qq54 :: qq55 :: qq56 :: qq57 :: qq58 :: qq59 :: qq60 :: qq61 :: qq62 :: qq63 :: qq64 :: qq65 :: qq66 :: qq67 :: qq68 :: qq69 :: qq70 :: qq71 :: qq72 :: qq73 :: qq74 :: qq75 :: qq76 :: qq77 :: qq78 :: qq79 :: qq80 :: qq81 :: qq82 :: qq83 :: qq84 :: qq85 :: qq86 :: qq87 :: qq88 :: qq89 :: qq90 :: qq91 :: qq92 :: qq93 :: qq94 :: qq95 :: qq96 :: qq97 :: qq98 :: qq99 :: qq100 :: qq101 :: qq102 :: qq103 :: qq104 :: qq105 :: qq106 :: qq107 :: qq108 :: qq109 :: qq110 :: qq111 :: qq112 :: qq113 :: qq114 :: qq115 :: qq116 :: qq117 :: qq118 :: u119 :: u120 :: u121 :: u122 :: u123 :: u124 :: u125 :: u126 :: u127 :: u128 :: u129 :: u130 :: u131 :: u132 :: u133 :: u134 :: u135 :: u136 :: u137 :: u138 :: u139 :: u140 :: u141 :: u142 :: u143 :: u144 :: u145 :: u146 :: u147 :: u148 :: u149 :: u150 :: u151 :: u152 :: u153 :: u154 :: u155 :: u156 :: u157 :: u158 :: u159 :: u160 :: u161 :: u162 :: u163 :: u164 :: u165 :: u166 :: u167 :: u168 :: u169 :: u170 :: u171 :: u172 :: u173 :: u174 :: u175 :: u176 :: u177 :: u178 :: u179 :: u180 :: u181 :: u182 :: u183 :: u184 :: u185 :: u186 :: u187 :: u188 :: u189 :: u190 :: u191 :: u192 :: u193 :: u194 :: u195 :: u196 :: u197 :: u198 :: u199 :: u200 :: u201 :: u202 :: u203 :: u204 :: u205 :: u206 :: u207 :: u208 :: u209 :: u210 :: u211 :: u212 :: u213 :: u214 :: u215 :: u216 :: u217 :: u218 :: u219 :: u220 :: u221 :: u222 :: u223 :: u224 :: u225 :: u226 :: u227 :: u228 :: u229 :: u230 :: u231 :: u232 :: u233 :: u234 :: u235 :: u236 :: u237 :: u238 :: u239 :: u240 :: u241 :: u242 :: u243 :: u244 :: u245 :: u246 :: u247 :: u248 :: u249 :: u250 :: u251 :: u252 :: u253 :: u254 :: u255 :: u256 :: u257 :: u258 :: u259 :: u260 :: u261 :: u262 :: u263 :: u264 :: u265 :: u266 :: u267 :: u268 :: u269 :: u270 :: u271 :: u272 :: u273 :: u274 :: u275 :: u276 :: u277 :: u278 :: u279 :: u280 :: u281 :: u282 :: u283 :: u284 :: u285 :: u286 :: u287 :: u288 :: u289 :: u290 :: u291 :: u292 :: u293 :: u294 :: u295 :: u296 :: u297 :: u298 :: u299 :: []), []⟩ w'))
    (hA0 : 0 < xs.length → ∃ b o, A0 = some ⟨b, o, none⟩ ∧ b < w.heap.size ∧ ∀ j (hj : j < xs.length), w.cell? ⟨b, o + j * 5, none⟩ = some (.int .i64 xs[j].kind) ∧ w.cell? ⟨b, o + j * 5 + 1, none⟩ = some (.int .i64 xs[j].limit) ∧ w.cell? ⟨b, o + j * 5 + 2, none⟩ = some (.int .u64 (xs[j].seq : Int)) ∧ w.cell? ⟨b, o + j * 5 + 3, none⟩ = some (.string (st xs[j].body)) ∧ w.cell? ⟨b, o + j * 5 + 4, none⟩ = some xs[j].v) (hmx : xs.length ≤ 9223372036854775807) (HX : Hid (∀ x ∈ xs, LAct.Ok w x))
    (HB : Hid (BitsOk w)) (HN : Hid ((2 ≤ nn ∧ nn ≤ 64) ∧ (1 ≤ ss ∧ ss ≤ 64) ∧ ss ≤ 4 ∧ 0 ≤ a ∧ a + (nn : Int) * ss ≤ 65536)) (LP6 : Hid (Lp w W6 gl h4 l)) (KY6 : Hid (Ky w W6 #[.int .i64 ds, .int .i64 a, .int .i64 (nn : Int), .int .i64 (ss : Int)] gk l E1 e1 E2 e2 E3 e3 E4 e4))
    (LXP : Hid (LxP l a nn ss 0)) (G4 : Hid (h4.g = pd)) :
    Code.wp Tryz.prog wpLoop (Exit.then K0 Q0) ⟨List.toArray (qq0 :: qq1 :: .slice A0 xs.length c0 :: .pointer (some ⟨w.heap.size, 0, none⟩) :: qq4 :: qq5 :: qq6 :: .pointer (some ⟨pd, 0, none⟩) :: qq8 :: qq9 :: qq10 :: .pointer (some ⟨gl, 0, none⟩) :: qq12 :: qq13 :: .pointer (some ⟨gk, 0, none⟩) :: qq15 :: qq16 :: .int .i64 0 :: qq18 :: qq19 :: qq20 :: qq21 :: qq22 :: qq23 :: qq24 :: qq25 :: qq26 :: qq27 :: qq28 :: qq29 :: qq30 :: qq31 :: qq32 :: qq33 :: qq34 :: qq35 :: qq36 :: qq37 :: qq38 :: qq39 :: qq40 :: qq41 :: qq42 :: qq43 :: qq44 :: qq45 :: qq46 :: qq47 :: qq48 :: qq49 :: qq50 :: qq51 :: qq52 :: qq53 :: qq54 :: qq55 :: qq56 :: qq57 :: qq58 :: qq59 :: qq60 :: qq61 :: qq62 :: qq63 :: qq64 :: qq65 :: qq66 :: qq67 :: qq68 :: qq69 :: qq70 :: qq71 :: qq72 :: qq73 :: qq74 :: qq75 :: qq76 :: qq77 :: qq78 :: qq79 :: qq80 :: qq81 :: qq82 :: qq83 :: qq84 :: qq85 :: qq86 :: qq87 :: qq88 :: qq89 :: qq90 :: qq91 :: qq92 :: qq93 :: qq94 :: qq95 :: qq96 :: qq97 :: qq98 :: qq99 :: qq100 :: qq101 :: qq102 :: qq103 :: qq104 :: qq105 :: qq106 :: qq107 :: qq108 :: qq109 :: qq110 :: qq111 :: qq112 :: qq113 :: qq114 :: qq115 :: qq116 :: qq117 :: qq118 :: qq119 :: qq120 :: qq121 :: qq122 :: qq123 :: qq124 :: qq125 :: qq126 :: qq127 :: qq128 :: qq129 :: qq130 :: qq131 :: qq132 :: qq133 :: qq134 :: qq135 :: qq136 :: qq137 :: qq138 :: qq139 :: qq140 :: qq141 :: qq142 :: qq143 :: qq144 :: qq145 :: qq146 :: qq147 :: qq148 :: qq149 :: qq150 :: qq151 :: qq152 :: qq153 :: qq154 :: qq155 :: qq156 :: qq157 :: qq158 :: qq159 :: qq160 :: qq161 :: qq162 :: qq163 :: qq164 :: qq165 :: qq166 :: qq167 :: qq168 :: qq169 :: qq170 :: qq171 :: qq172 :: qq173 :: qq174 :: qq175 :: qq176 :: qq177 :: qq178 :: qq179 :: qq180 :: qq181 :: qq182 :: qq183 :: qq184 :: qq185 :: qq186 :: qq187 :: qq188 :: qq189 :: qq190 :: qq191 :: qq192 :: qq193 :: qq194 :: qq195 :: qq196 :: qq197 :: qq198 :: qq199 :: qq200 :: qq201 :: qq202 :: qq203 :: qq204 :: qq205 :: qq206 :: qq207 :: qq208 :: qq209 :: qq210 :: qq211 :: qq212 :: qq213 :: qq214 :: qq215 :: qq216 :: qq217 :: qq218 :: qq219 :: qq220 :: qq221 :: qq222 :: qq223 :: qq224 :: qq225 :: qq226 :: qq227 :: qq228 :: qq229 :: qq230 :: qq231 :: qq232 :: qq233 :: qq234 :: qq235 :: qq236 :: qq237 :: qq238 :: qq239 :: qq240 :: qq241 :: qq242 :: qq243 :: qq244 :: qq245 :: qq246 :: qq247 :: qq248 :: qq249 :: qq250 :: qq251 :: qq252 :: qq253 :: qq254 :: qq255 :: qq256 :: qq257 :: qq258 :: qq259 :: qq260 :: qq261 :: qq262 :: qq263 :: qq264 :: qq265 :: qq266 :: qq267 :: qq268 :: qq269 :: qq270 :: qq271 :: qq272 :: qq273 :: qq274 :: qq275 :: qq276 :: qq277 :: qq278 :: qq279 :: qq280 :: qq281 :: qq282 :: qq283 :: qq284 :: qq285 :: qq286 :: qq287 :: qq288 :: qq289 :: qq290 :: qq291 :: qq292 :: qq293 :: qq294 :: qq295 :: qq296 :: qq297 :: qq298 :: qq299 :: []), []⟩ W6 := by
  have HA := Lib.hid hA0
  clear hA0
  conv => arg 2; whnf
  go_wp2_with fail
  go_loopw [11, 17] (fun mv iv wr => ∃ i : Nat, iv = .int .i64 (i : Int) ∧ i ≤ xs.length ∧ i ≤ 30 ∧ WpSt w ds a nn ss gk pd i mv wr) (fun _ iv _ => xs.length - (intOf iv).toNat)
  case atStart => exact ⟨0, rfl, by omega, by omega, gl, h4, l, _, _, _, _, _, _, _, _, rfl, LP6, KY6, LXP, G4⟩
  case round =>
    clear LP6 KY6 LXP G4
    obtain ⟨i, rfl, hi, hi30, gl, h', l, Z1, z1, Z2, z2, Z3, z3, Z4, z4, rfl, LP, KY, PX, G⟩ := hrel
    have hsz := LP.out.dp.below.size
    by_cases hil4 : i < 30
    case neg =>
      by_cases hil : i < xs.length
      · go_wp2_with fail
        exact Met.intro (HJ0.out _ _ _ _ _ _ _ _ _ _ _ _ _ _ _ _ _ _ _ _ _ _ _ _ _ _ _ _ _ _ _ _ _ _ _ _ _ _ _ _ _ _ _ _ _ _ _ _ _ _ _ _ _ _ _ _ _ _ _ _ _ _ _ _ _ _ _ _ _ _ _ _ _ _ _ _ _ _ _ _ _ _ _ _ _ _ _ _ _ _ _ _ _ _ _ _ _ _ _ _ _ _ _ _ _ _ _ _ _ _ _ _ _ _ _ _ _ _ _ _ _ _ _ _ _ _ _ _ _ _ _ _ _ _ _ _ _ _ _ _ _ _ _ _ _ _ _ _ _ _ _ _ _ _ _ _ _ _ _ _ _ _ _ _ _ _ _ _ _ _ _ _ _ _ _ _ _ _ _ _ _ _ _ _ _ _ _ _ _ _ _ _ _ _ _ _ _ _ _ LP.out.dp.below)
      · go_wp2_with fail
        exact Met.intro (HJ0.out _ _ _ _ _ _ _ _ _ _ _ _ _ _ _ _ _ _ _ _ _ _ _ _ _ _ _ _ _ _ _ _ _ _ _ _ _ _ _ _ _ _ _ _ _ _ _ _ _ _ _ _ _ _ _ _ _ _ _ _ _ _ _ _ _ _ _ _ _ _ _ _ _ _ _ _ _ _ _ _ _ _ _ _ _ _ _ _ _ _ _ _ _ _ _ _ _ _ _ _ _ _ _ _ _ _ _ _ _ _ _ _ _ _ _ _ _ _ _ _ _ _ _ _ _ _ _ _ _ _ _ _ _ _ _ _ _ _ _ _ _ _ _ _ _ _ _ _ _ _ _ _ _ _ _ _ _ _ _ _ _ _ _ _ _ _ _ _ _ _ _ _ _ _ _ _ _ _ _ _ _ _ _ _ _ _ _ _ _ _ _ _ _ _ _ _ _ _ _ LP.out.dp.below)
    by_cases hil : i < xs.length
    case neg =>
      go_wp2_with fail
      exact Met.intro (HJ0.out _ _ _ _ _ _ _ _ _ _ _ _ _ _ _ _ _ _ _ _ _ _ _ _ _ _ _ _ _ _ _ _ _ _ _ _ _ _ _ _ _ _ _ _ _ _ _ _ _ _ _ _ _ _ _ _ _ _ _ _ _ _ _ _ _ _ _ _ _ _ _ _ _ _ _ _ _ _ _ _ _ _ _ _ _ _ _ _ _ _ _ _ _ _ _ _ _ _ _ _ _ _ _ _ _ _ _ _ _ _ _ _ _ _ _ _ _ _ _ _ _ _ _ _ _ _ _ _ _ _ _ _ _ _ _ _ _ _ _ _ _ _ _ _ _ _ _ _ _ _ _ _ _ _ _ _ _ _ _ _ _ _ _ _ _ _ _ _ _ _ _ _ _ _ _ _ _ _ _ _ _ _ _ _ _ _ _ _ _ _ _ _ _ _ _ _ _ _ _ LP.out.dp.below)
    obtain ⟨b, o, rfl, hbl, hcell⟩ := HA.out (by omega)
    obtain ⟨k0, k1, k2, k3, k4⟩ := hcell i hil
    have old : ∀ p : Addr, p.block < w.heap.size → wr.cell? p = w.cell? p := fun p hp => LP.out.dp.below.cell hp
    have x0 := (old ⟨b, o + i * 5, none⟩ hbl).trans k0
    have x1 := (old ⟨b, o + i * 5 + 1, none⟩ hbl).trans k1
    have x2 := (old ⟨b, o + i * 5 + 2, none⟩ hbl).trans k2
    have x3 := (old ⟨b, o + i * 5 + 3, none⟩ hbl).trans k3
    have x4 := (old ⟨b, o + i * 5 + 4, none⟩ hbl).trans k4
    have HXI := Lib.hid (HX.out _ (List.getElem_mem hil))
    clear hcell k0 k1 k2 k3 k4 old
    generalize xs[i] = x at *
    go_wp2_with fail
    refine (few08_any w.heap.size x wr (HXI.out.2.2.2.2.later LP.out.dp.below) hsz).mono ?_
    rintro e w4 ⟨vl, rfl, hsv, hbl4⟩
    obtain ⟨Al, cl, rfl, -⟩ := hsv.at
    have LP4 := Lib.hid (LP.out.later hbl4)
    have KY4 := Lib.hid (KY.out.later hbl4)
    have SV := Lib.hid hsv
    have KI := Lib.hid HXI.out.2.1
    have LI : Hid (∀ y ∈ x.left.take 60, InI y.1 ∧ InI y.2) := fun y hy => HXI.out.2.2.2.1 y (List.mem_of_mem_take hy)
    have LLE : Hid ((x.left.take 60).length ≤ 1000000) := by rw [Hid, List.length_take]; omega
    have SQ := Lib.hid HXI.out.2.2.1
    obtain ⟨kind, limit, seq0, body0, left0, v0⟩ := x
    simp only at SV KI LI LLE SQ x0 x1 x2 x3 x4 ⊢
    have TL : Hid ((body0.take 1500).length ≤ 1099511627776) := by rw [Hid, List.length_take]; omega
    generalize body0.take 1500 = t at *
    generalize left0.take 60 = lf at *
    clear hsv hbl4 HXI x0 x1 x2 x3 x4 LP KY
    have QX := (Below.refl w4.heap.size w4).alloc (Nat.le_refl _) (.cells #[.int .i64 kind, .int .i64 limit, .int .u64 (seq0 : Int), .string (st t), .slice Al lf.length cl] 49)
    have LP5 := Lib.hid (LP4.out.later QX)
    have KY5 := Lib.hid (KY4.out.later QX)
    have BX := Lib.hid (Blk.new w4 49 #[.int .i64 kind, .int .i64 limit, .int .u64 (seq0 : Int), .string (st t), .slice Al lf.length cl])
    have SV5 := Lib.hid (Sv.anew SV.out LP4.out.dp.below LP5.out.dp.below)
    have hgx8 := LP4.out.dp.below.size
    clear QX SV LP4 KY4
    go_upto_region 15 with (fail)
    generalize hW5 : w4.alloc _ = w5 at *
    clear hW5
    have hgx9 : w.heap.size ≤ w4.heap.size := hgx8
    generalize w4.heap.size = gx at *
    have x2 : w5.cell? ⟨gx, 2, none⟩ = some (.int .u64 (seq0 : Int)) := BX.out.cell 2
    have xf2 := BX.out.free 2
    go_upto_if 140 with (fail)
    go_cut [] from 119 to 142 (fun wx => ∃ seq : Nat, Hid (seq < U64) ∧ Hid (Lp w wx gl h' l) ∧ Hid (Ky w wx #[.int .i64 ds, .int .i64 a, .int .i64 (nn : Int), .int .i64 (ss : Int)] gk l Z1 z1 Z2 z2 Z3 z3 Z4 z4) ∧ Hid (Blk wx gx 49 #[.int .i64 kind, .int .i64 limit, .int .u64 (seq : Int), .string (st t), .slice Al lf.length cl]) ∧ Hid (Sv (fun b => b < w.heap.size) wx (.slice Al lf.length cl) lf))
    case first =>
      have hgx : w.heap.size ≤ gx := hgx9
      by_cases hq : 4611686018427387904 < seq0
      · have hq1 : (4611686018427387904 : Int) < (seq0 : Int) := by omega
        have hs : ∀ {ks : List (Option TypeId)}, some 49 ∉ ks → SameK ks w5 (w5.setCell ⟨gx, 2, none⟩ (.int .u64 0)) := fun hk => SameK.setCell (p := ⟨gx, 2, none⟩) BX.out hk _
        have LPc := Lib.hid (LP5.out.same (hs (by decide)) (LP5.out.dp.below.setCell hgx _))
        have KYc := Lib.hid (KY5.out.same (hs (by decide)))
        have BXc := Lib.hid (BX.out.put 2 (.int .u64 0))
        have SVc := Lib.hid (Sv.anew SV5.out LP5.out.dp.below LPc.out.dp.below)
        clear hs hq
        go_wp2_with fail
        go_meet
        exact ⟨0, by rw [Hid]; unfold U64; omega, LPc, KYc, BXc, SVc⟩
      · have hq1 : ¬ (4611686018427387904 : Int) < (seq0 : Int) := by omega
        go_wp2_with fail
        go_meet
        exact ⟨seq0, SQ, LP5, KY5, BX, SV5⟩
    obtain ⟨seq, HSQ, LP6, KY6, BX6, SV6⟩ := hcut
    clear LP5 KY5 BX SV5 x2 xf2 SQ
    generalize wc = w6 at *
    have x0 : (w6).cell? ⟨gx, 0, none⟩ = some (.int .i64 kind) := BX6.out.cell 0
    have x1 : (w6).cell? ⟨gx, 1, none⟩ = some (.int .i64 limit) := BX6.out.cell 1
    have x2 : (w6).cell? ⟨gx, 2, none⟩ = some (.int .u64 (seq : Int)) := BX6.out.cell 2
    have x3 : (w6).cell? ⟨gx, 3, none⟩ = some (.string (st t)) := BX6.out.cell 3
    have x4 : (w6).cell? ⟨gx, 4, none⟩ = some (.slice Al lf.length cl) := BX6.out.cell 4
    have xf0 : (w6).frozen? ⟨gx, 0, none⟩ = false := BX6.out.free 0
    have xf1 : (w6).frozen? ⟨gx, 1, none⟩ = false := BX6.out.free 1
    have xf2 : (w6).frozen? ⟨gx, 2, none⟩ = false := BX6.out.free 2
    have xf3 : (w6).frozen? ⟨gx, 3, none⟩ = false := BX6.out.free 3
    have xf4 : (w6).frozen? ⟨gx, 4, none⟩ = false := BX6.out.free 4
    clear xf0 xf1 xf2 xf3 xf4
    have HPE : Hid (l.D.pend.length ≤ 200000) := by have := PX.out.pend; rw [Hid]; omega
    go_upto_block 2 with (fail)
    clear x0 x1 x2 x3 x4
    go_cut [11] from 119 to 142 (fun mv wx => WpSt w ds a nn ss gk pd (i + 1) mv wx)
    case first =>
      rename_i J K' hJ hK
      exact wp_sw _ _ _ _ _ _ _ _ _ _ _ _ _ _ _ _ _ _ _ _ _ _ _ _ _ _ _ _ _ _ _ _ _ _ _ _ _ _ _ _ _ _ _ _ _ _ _ _ _ _ _ _ _ _ _ _ _ _ _ _ _ _ _ _ _ _ _ _ _ _ _ _ _ _ _ _ _ _ _ _ _ _ _ _ _ _ _ _ _ _ _ _ _ _ _ _ _ _ _ _ _ _ _ _ _ _ _ _ _ _ _ _ _ _ _ _ _ _ _ _ _ _ _ _ _ _ _ _ _ _ _ _ _ _ _ _ _ _ _ _ _ _ _ _ _ _ _ _ _ _ _ _ _ _ _ _ _ _ _ _ _ _ _ _ _ _ _ _ _ _ _ _ _ _ _ _ _ _ _ _ _ _ _ _ _ _ _ _ _ _ _ _ _ _ _ _ _ _ _ _ _ _ _ _ _ _ _ _ _ _ _ _ _ _ _ _ _ _ _ _ _ _ _ _ _ _ _ _ _ _ _ _ _ _ _ _ _ _ _ _ _ _ _ _ _ _ _ _ _ _ _ _ _ _ _ _ _ _ _ _ _ _ _ _ _ _ _ _ _ _ _ _ _ _ _ _ _ _ _ _ _ _ _ _ _ _ _ _ _ _ _ _ _ _ _ _ _ _ _ _ _ _ _ _ _ _ _ _ _ _ _ _ _ _ _ _ _ _ _ _ _ _ _ _ _ hK (Lib.hid fun u6 u11 u19 u20 u21 u22 u23 u24 u25 u26 u27 u28 u29 u30 u31 u119 u120 u121 u122 u123 u124 u125 u126 u127 u128 u129 u130 u131 u132 u133 u134 u135 u136 u137 u138 u139 u140 u141 u142 u144 u145 u146 u147 u148 u149 u150 u151 u152 u153 u154 u155 u156 u157 u158 u159 u160 u161 u162 u163 u164 u165 u166 u167 u168 u169 u170 u171 u172 u173 u174 u175 u176 u177 u178 u179 u180 u181 u182 u183 u184 u185 u186 u187 u188 u189 u190 u191 u192 u193 u194 u195 u196 u197 u198 u199 u200 u201 u202 u203 u204 u205 u206 u207 u208 u209 u210 u211 u212 u213 u214 u215 u216 u217 u218 u219 u220 u221 u222 u223 u224 u225 u226 u227 u228 u229 u230 u231 u232 u233 u234 u235 u236 u237 u238 u239 u240 u241 u242 u243 u244 u245 u246 u247 u248 u249 u250 u251 u252 u253 u254 u255 u256 u257 u258 u259 u260 u261 w' h => hJ _ _ ⟨u6, u11, u19, u20, u21, u22, u23, u24, u25, u26, u27, u28, u29, u30, u31, u119, u120, u121, u122, u123, u124, u125, u126, u127, u128, u129, u130, u131, u132, u133, u134, u135, u136, u137, u138, u139, u140, u141, u142, u144, u145, u146, u147, u148, u149, u150, u151, u152, u153, u154, u155, u156, u157, u158, u159, u160, u161, u162, u163, u164, u165, u166, u167, u168, u169, u170, u171, u172, u173, u174, u175, u176, u177, u178, u179, u180, u181, u182, u183, u184, u185, u186, u187, u188, u189, u190, u191, u192, u193, u194, u195, u196, u197, u198, u199, u200, u201, u202, u203, u204, u205, u206, u207, u208, u209, u210, u211, u212, u213, u214, u215, u216, u217, u218, u219, u220, u221, u222, u223, u224, u225, u226, u227, u228, u229, u230, u231, u232, u233, u234, u235, u236, u237, u238, u239, u240, u241, u242, u243, u244, u245, u246, u247, u248, u249, u250, u251, u252, u253, u254, u255, u256, u257, u258, u259, u260, u261, h, rfl⟩) HB HN HSQ LP6 KY6 BX6 SV6 PX G HPE TL LI LLE hgx9
    case rest =>
      obtain ⟨gl9, h9, l9, Y1, y1, Y2, y2, Y3, y3, Y4, y4, rfl, LP9, KY9, PX9, G9⟩ := hcut
      clear LP6 KY6 BX6 SV6 PX G HPE TL LI LLE HSQ
      generalize wc = w9 at *
      have hL1 : Hid (∀ wg, Below w9.heap.size w9 wg → Calls Tryz.prog 20 #[.pointer (some ⟨gl9, 0, none⟩)] wg fun e w' => e = .returned (.int .u64 (l9.last : Int)) ∧ wg = w') := fun wg q => llast_lp (LP9.out.later q)
      have hL2 : Hid (∀ wg, Below w9.heap.size w9 wg → Calls Tryz.prog 21 #[.pointer (some ⟨gl9, 0, none⟩)] wg fun e w' => e = .returned (.int .i64 (l9.live.length : Int)) ∧ wg = w') := fun wg q => llive_lp (LP9.out.later q)
      have hL3 : Hid (∀ wg, Below w9.heap.size w9 wg → Calls Tryz.prog 22 #[.pointer (some ⟨gl9, 0, none⟩)] wg fun e w' => e = .returned (.int .u64 (l9.synced : Int)) ∧ wg = w') := fun wg q => lsynced_lp (LP9.out.later q)
      have hL4 : Hid (∀ wg, Below w9.heap.size w9 wg → Calls Tryz.prog 23 #[.pointer (some ⟨pd, 0, none⟩)] wg fun e w' => e = .returned (.int .i64 (l9.D.nv : Int)) ∧ wg = w') := fun wg q => by
        have := dused_any h9 l9.D wg (LP9.out.later q).dp.dk
        rw [G9.out] at this
        exact this
      have hL5 : Hid (∀ wg, Below w9.heap.size w9 wg → Calls Tryz.prog 24 #[.pointer (some ⟨pd, 0, none⟩)] wg fun e w' => e = .returned (.int .i64 (l9.D.pend.length : Int)) ∧ wg = w') := fun wg q => by
        have := dpending_any h9 l9.D wg (LP9.out.later q).dp.dk
        rw [G9.out] at this
        exact this
      have m2 : w9.cell? ⟨gk, 2, none⟩ = some (.slice Y1 l9.D.nv y1) := KY9.out.kv.blk.cell 2
      have m4 : w9.cell? ⟨gk, 4, none⟩ = some (.slice Y3 l9.D.pend.length y3) := KY9.out.kv.blk.cell 4
      have m8 : w9.cell? ⟨gk, 8, none⟩ = some (.slice Y4 l9.live.length y4) := KY9.out.kv.blk.cell 8
      have m10 : w9.cell? ⟨gk, 10, none⟩ = some (.int .u64 (l9.last : Int)) := KY9.out.kv.blk.cell 10
      have m11 : w9.cell? ⟨gk, 11, none⟩ = some (.int .u64 (l9.synced : Int)) := KY9.out.kv.blk.cell 11
      go_wp2_with fail
      refine wp_region_grow_lit (by kernel_rfl) (by kernel_rfl) ?_
      apply Exists.intro
      apply And.intro
      · repeat (first
          | (apply wpGrow_skip rfl
             intro K hK
             go_simp
             refine hK _ ?_
             clear hK K)
          | (apply wpGrow_is rfl
             · intro wg hwg _
               have c0 := cell_later hwg m2
               have c1 := cell_later hwg m4
               have c2 := cell_later hwg m8
               have c3 := cell_later hwg m10
               have c4 := cell_later hwg m11
               unfold grows
               go_simp
               first
                 | exact grows_value _ _
                 | (exact grows_same (hL1.out wg hwg))
                 | (exact grows_same (hL2.out wg hwg))
                 | (exact grows_same (hL3.out wg hwg))
                 | (exact grows_same (hL4.out wg hwg))
                 | (exact grows_same (hL5.out wg hwg))
             intro K hK
             go_simp
             refine hK _ ?_
             clear hK K))
        refine wpGrow_end (fun wg hwg _ => ?_)
        have LZ := Lib.hid (LP9.out.later hwg)
        have KZ := Lib.hid (KY9.out.later hwg)
        clear m2 m4 m8 m10 m11 hL1 hL2 hL3 hL4 hL5
        go_wp2_with fail
        go_roundw
        case rel => exact ⟨i + 1, by go_num, by omega, by omega, gl9, h9, l9, Y1, y1, Y2, y2, Y3, y3, Y4, y4, rfl, LZ, KZ, PX9, G9⟩
        case measure => simp [intOf]; omega
      · apply And.intro
        · repeat (first | exact trivial | (refine ⟨Stays.is _, ?_⟩) | (refine ⟨Stays.bs _, ?_⟩) | (refine ⟨Stays.pg _ _ _, ?_⟩))
        · rfl
end Go.Proofs.YtojlldalhhibmaaGreatDoor
