/- law08.WalPlays: what comes behind an act. Conditions: a log in use; the table lies as the program lays it. -/
import Derived.Test.YtegeaemkkbenfaaDoorWPlayB
import Derived.Deep.CutRange
namespace Go.Proofs.YtegeaemkkbenfaaDoor.Ownd
open Go.Shelf Go.RowKit Go.Proofs.YtegeaemkkbenfaaDoorW.PrintWords Go.Proofs.YtegeaemkkbenfaaDoorW.PrintLast Go.Proofs.YtegeaemkkbenfaaDoorW.PrintMore
set_option linter.unusedVariables false
set_option linter.unusedSimpArgs false
set_option maxHeartbeats 8000000 in
set_option maxRecDepth 100000 in
theorem tail_walk {W wc : World} (hT : Tab W) {d g gw gz hf k q : Nat} {sz so : Value} {l : List ByteArray} {R : List Thing} (hk2 : k < 30) (h1 : 1 ≤ hf)
    (hM : ActM W wc d g gw gz hf k q sz l so R)
    (z0 z2 z3 z4 z6 z8 z9 z12 z13 z14 z17 z18 z19 z20 z21 z22 z23 z24 z25 z26 z27 z28 z29 z30 z31 z32 z33 z34 z35 z36 z37 z38 z39 z40 z41 z42 z43 z44 z45 z46 z47 z48 z49 z50 z51 z52 z53 z54 z55 z56 z57 z58 z59 z60 z61 z62 z63 z64 z65 z66 z67 z68 z69 z70 z71 z72 z73 z74 z75 z76 z77 z78 z79 z80 z81 z82 z83 z84 z85 z86 z87 z88 z89 z90 z91 z92 z93 z94 z95 z96 z97 z98 z99 z100 z101 z102 z103 z104 z105 z106 z107 z108 z109 z110 z111 z112 z113 z114 z115 z116 z117 z118 z119 z120 z121 z122 z123 z124 z125 z126 z127 z128 z129 z130 z131 z132 z133 z134 z135 z136 z137 z138 z139 z140 z141 z142 z143 z144 z145 z146 z147 z148 z149 z150 z151 z152 z153 z154 z155 z156 z157 z158 z159 z160 z161 z162 z163 z164 z165 z166 z167 z168 z169 z170 z171 z172 z173 z174 z175 z176 z177 z178 z179 z180 z181 z182 z183 z184 z185 z186 z187 z188 z189 z190 z191 z192 z193 z194 z195 z196 z197 z198 z199 z200 z201 z202 z203 z204 z205 z206 z207 z208 z209 z210 z211 z212 z213 z214 z215 z216 z217 z218 z219 z220 z221 z222 z223 z224 z225 z226 z227 z228 z229 z230 z231 z232 z233 z234 z235 z236 z237 z238 z239 z240 z241 z242 z243 z244 z245 z246 z247 z248 z249 z250 z251 z252 z253 z254 z255 z256 : Value) (Q : Exit → Act → World → Prop)
    (hQ1 : ∀ (v203 v204 v205 v206 v207 : Value) (wx : World), PlayM W wx d g gw hf (k + 1) R → Q (.exit 1) { tmps := (z0 :: .int .i64 hf :: z2 :: z3 :: z4 :: .pointer (some ⟨d, 0, none⟩) :: z6 :: .pointer (some ⟨g, 0, none⟩) :: z8 :: z9 :: .pointer (some ⟨gw, 0, none⟩) :: .int .i64 k :: z12 :: z13 :: z14 :: .pointer (some ⟨gz, 0, none⟩) :: so :: z17 :: z18 :: z19 :: z20 :: z21 :: z22 :: z23 :: z24 :: z25 :: z26 :: z27 :: z28 :: z29 :: z30 :: z31 :: z32 :: z33 :: z34 :: z35 :: z36 :: z37 :: z38 :: z39 :: z40 :: z41 :: z42 :: z43 :: z44 :: z45 :: z46 :: z47 :: z48 :: z49 :: z50 :: z51 :: z52 :: z53 :: z54 :: z55 :: z56 :: z57 :: z58 :: z59 :: z60 :: z61 :: z62 :: z63 :: z64 :: z65 :: z66 :: z67 :: z68 :: z69 :: z70 :: z71 :: z72 :: z73 :: z74 :: z75 :: z76 :: z77 :: z78 :: z79 :: z80 :: z81 :: z82 :: z83 :: z84 :: z85 :: z86 :: z87 :: z88 :: z89 :: z90 :: z91 :: z92 :: z93 :: z94 :: z95 :: z96 :: z97 :: z98 :: z99 :: z100 :: z101 :: z102 :: z103 :: z104 :: z105 :: z106 :: z107 :: z108 :: z109 :: z110 :: z111 :: z112 :: z113 :: z114 :: z115 :: z116 :: z117 :: z118 :: z119 :: z120 :: z121 :: z122 :: z123 :: z124 :: z125 :: z126 :: z127 :: z128 :: z129 :: z130 :: z131 :: z132 :: z133 :: z134 :: z135 :: z136 :: z137 :: z138 :: z139 :: z140 :: z141 :: z142 :: z143 :: z144 :: z145 :: z146 :: z147 :: z148 :: z149 :: z150 :: z151 :: z152 :: z153 :: z154 :: z155 :: z156 :: z157 :: z158 :: z159 :: z160 :: z161 :: z162 :: z163 :: z164 :: z165 :: z166 :: z167 :: z168 :: z169 :: z170 :: z171 :: z172 :: z173 :: z174 :: z175 :: z176 :: z177 :: z178 :: z179 :: z180 :: z181 :: z182 :: z183 :: z184 :: z185 :: z186 :: z187 :: z188 :: z189 :: z190 :: z191 :: z192 :: z193 :: z194 :: z195 :: z196 :: z197 :: z198 :: z199 :: z200 :: z201 :: z202 :: v203 :: v204 :: v205 :: v206 :: v207 :: z208 :: z209 :: z210 :: z211 :: z212 :: z213 :: z214 :: z215 :: z216 :: z217 :: z218 :: z219 :: z220 :: z221 :: z222 :: z223 :: z224 :: z225 :: z226 :: z227 :: z228 :: z229 :: z230 :: z231 :: z232 :: z233 :: z234 :: z235 :: z236 :: z237 :: z238 :: z239 :: z240 :: z241 :: z242 :: z243 :: z244 :: z245 :: z246 :: z247 :: z248 :: z249 :: z250 :: z251 :: z252 :: z253 :: z254 :: z255 :: z256 :: ([] : List Value)).toArray, defers := [] } wx)
    (hQ2 : ∀ (g2 : Nat) (v4 v21 v22 v23 v24 v25 v203 v204 v205 v206 v207 v208 v209 v210 v211 v212 v213 v214 v215 v216 v217 v218 v219 v220 v221 v222 v223 v224 v225 v226 v227 v228 v229 v230 v231 v232 v233 v234 v235 v236 v237 v238 v239 v240 v241 v242 v243 v244 v245 v246 v247 v248 v249 v250 v251 v252 v253 v254 v255 v256 : Value) (wx : World), PlayM W wx d g2 gw hf (k + 1) R → Q .normal { tmps := (z0 :: .int .i64 hf :: z2 :: z3 :: v4 :: .pointer (some ⟨d, 0, none⟩) :: z6 :: .pointer (some ⟨g2, 0, none⟩) :: z8 :: z9 :: .pointer (some ⟨gw, 0, none⟩) :: .int .i64 k :: z12 :: z13 :: z14 :: .pointer (some ⟨gz, 0, none⟩) :: so :: z17 :: z18 :: z19 :: z20 :: v21 :: v22 :: v23 :: v24 :: v25 :: z26 :: z27 :: z28 :: z29 :: z30 :: z31 :: z32 :: z33 :: z34 :: z35 :: z36 :: z37 :: z38 :: z39 :: z40 :: z41 :: z42 :: z43 :: z44 :: z45 :: z46 :: z47 :: z48 :: z49 :: z50 :: z51 :: z52 :: z53 :: z54 :: z55 :: z56 :: z57 :: z58 :: z59 :: z60 :: z61 :: z62 :: z63 :: z64 :: z65 :: z66 :: z67 :: z68 :: z69 :: z70 :: z71 :: z72 :: z73 :: z74 :: z75 :: z76 :: z77 :: z78 :: z79 :: z80 :: z81 :: z82 :: z83 :: z84 :: z85 :: z86 :: z87 :: z88 :: z89 :: z90 :: z91 :: z92 :: z93 :: z94 :: z95 :: z96 :: z97 :: z98 :: z99 :: z100 :: z101 :: z102 :: z103 :: z104 :: z105 :: z106 :: z107 :: z108 :: z109 :: z110 :: z111 :: z112 :: z113 :: z114 :: z115 :: z116 :: z117 :: z118 :: z119 :: z120 :: z121 :: z122 :: z123 :: z124 :: z125 :: z126 :: z127 :: z128 :: z129 :: z130 :: z131 :: z132 :: z133 :: z134 :: z135 :: z136 :: z137 :: z138 :: z139 :: z140 :: z141 :: z142 :: z143 :: z144 :: z145 :: z146 :: z147 :: z148 :: z149 :: z150 :: z151 :: z152 :: z153 :: z154 :: z155 :: z156 :: z157 :: z158 :: z159 :: z160 :: z161 :: z162 :: z163 :: z164 :: z165 :: z166 :: z167 :: z168 :: z169 :: z170 :: z171 :: z172 :: z173 :: z174 :: z175 :: z176 :: z177 :: z178 :: z179 :: z180 :: z181 :: z182 :: z183 :: z184 :: z185 :: z186 :: z187 :: z188 :: z189 :: z190 :: z191 :: z192 :: z193 :: z194 :: z195 :: z196 :: z197 :: z198 :: z199 :: z200 :: z201 :: z202 :: v203 :: v204 :: v205 :: v206 :: v207 :: v208 :: v209 :: v210 :: v211 :: v212 :: v213 :: v214 :: v215 :: v216 :: v217 :: v218 :: v219 :: v220 :: v221 :: v222 :: v223 :: v224 :: v225 :: v226 :: v227 :: v228 :: v229 :: v230 :: v231 :: v232 :: v233 :: v234 :: v235 :: v236 :: v237 :: v238 :: v239 :: v240 :: v241 :: v242 :: v243 :: v244 :: v245 :: v246 :: v247 :: v248 :: v249 :: v250 :: v251 :: v252 :: v253 :: v254 :: v255 :: v256 :: ([] : List Value)).toArray, defers := [] } wx) :
    Code.wp Tryd.prog (codeAt Tryd.f7 [1, 1, 1, 1, 1, 1, 1, 1, 0, 1, 4, 4, 1, 0, 4, 1, 1, 1, 1, 1, 1, 1]) Q { tmps := (z0 :: .int .i64 hf :: z2 :: z3 :: z4 :: .pointer (some ⟨d, 0, none⟩) :: z6 :: .pointer (some ⟨g, 0, none⟩) :: z8 :: z9 :: .pointer (some ⟨gw, 0, none⟩) :: .int .i64 k :: z12 :: z13 :: z14 :: .pointer (some ⟨gz, 0, none⟩) :: so :: z17 :: z18 :: z19 :: z20 :: z21 :: z22 :: z23 :: z24 :: z25 :: z26 :: z27 :: z28 :: z29 :: z30 :: z31 :: z32 :: z33 :: z34 :: z35 :: z36 :: z37 :: z38 :: z39 :: z40 :: z41 :: z42 :: z43 :: z44 :: z45 :: z46 :: z47 :: z48 :: z49 :: z50 :: z51 :: z52 :: z53 :: z54 :: z55 :: z56 :: z57 :: z58 :: z59 :: z60 :: z61 :: z62 :: z63 :: z64 :: z65 :: z66 :: z67 :: z68 :: z69 :: z70 :: z71 :: z72 :: z73 :: z74 :: z75 :: z76 :: z77 :: z78 :: z79 :: z80 :: z81 :: z82 :: z83 :: z84 :: z85 :: z86 :: z87 :: z88 :: z89 :: z90 :: z91 :: z92 :: z93 :: z94 :: z95 :: z96 :: z97 :: z98 :: z99 :: z100 :: z101 :: z102 :: z103 :: z104 :: z105 :: z106 :: z107 :: z108 :: z109 :: z110 :: z111 :: z112 :: z113 :: z114 :: z115 :: z116 :: z117 :: z118 :: z119 :: z120 :: z121 :: z122 :: z123 :: z124 :: z125 :: z126 :: z127 :: z128 :: z129 :: z130 :: z131 :: z132 :: z133 :: z134 :: z135 :: z136 :: z137 :: z138 :: z139 :: z140 :: z141 :: z142 :: z143 :: z144 :: z145 :: z146 :: z147 :: z148 :: z149 :: z150 :: z151 :: z152 :: z153 :: z154 :: z155 :: z156 :: z157 :: z158 :: z159 :: z160 :: z161 :: z162 :: z163 :: z164 :: z165 :: z166 :: z167 :: z168 :: z169 :: z170 :: z171 :: z172 :: z173 :: z174 :: z175 :: z176 :: z177 :: z178 :: z179 :: z180 :: z181 :: z182 :: z183 :: z184 :: z185 :: z186 :: z187 :: z188 :: z189 :: z190 :: z191 :: z192 :: z193 :: z194 :: z195 :: z196 :: z197 :: z198 :: z199 :: z200 :: z201 :: z202 :: z203 :: z204 :: z205 :: z206 :: z207 :: z208 :: z209 :: z210 :: z211 :: z212 :: z213 :: z214 :: z215 :: z216 :: z217 :: z218 :: z219 :: z220 :: z221 :: z222 :: z223 :: z224 :: z225 :: z226 :: z227 :: z228 :: z229 :: z230 :: z231 :: z232 :: z233 :: z234 :: z235 :: z236 :: z237 :: z238 :: z239 :: z240 :: z241 :: z242 :: z243 :: z244 :: z245 :: z246 :: z247 :: z248 :: z249 :: z250 :: z251 :: z252 :: z253 :: z254 :: z255 :: z256 :: ([] : List Value)).toArray, defers := [] } wc := by
  have HT := Aside0.mk hT
  have HQA := Aside0.mk hQ1
  have HQB := Aside0.mk hQ2
  clear hT hQ1 hQ2
  obtain ⟨T2, L2, l2, q2, sw, o, hM, hAf, hq2, hll2, hol⟩ := hM
  conv in (codeAt _ _) => whnf
  have HM := Aside0.mk hM
  have HQ2 := Aside0.mk hq2
  have HL2 := Aside0.mk hll2
  have HOL := Aside0.mk hol
  clear hM hq2 hll2 hol
  rcases hAf with ⟨hoff, hu2, hE2⟩ | ⟨hoff, told, hk2, hm2⟩
  · have HOF := Aside0.mk (off_HL HM.out)
    rw [show T2.dev.off = false from hoff] at HOF
    have HU2 := Aside0.mk (And.intro hu2 hE2)
    clear hoff hu2 hE2
    go_wp2_with (first
      | (go_at_call 24; refine HOF.out.mono ?_; rintro e w14 ⟨rfl, h14⟩; rw [h14]; clear h14)
      | (go_at_call 18; refine (on_use HM.out).mono ?_; rintro e w15 ⟨rfl, h15⟩; have H15 := Aside0.mk h15; clear h15 HM))
    exact HQA.out _ _ _ _ _ _ ⟨T2.on, L2, l2, q2, sw, ((((H15.out.front 1 rfl).drop1.front 4 rfl).drop1).front 3 rfl).drop1, HU2.out.1.turnOn, HQ2.out, rfl, pl_e1 HU2.out.2, HL2.out⟩
  · have HOF := Aside0.mk (off_HL HM.out)
    rw [show T2.dev.off = true from hoff] at HOF
    have HK2 := Aside0.mk hk2
    have HM2 := Aside0.mk hm2
    clear hoff hk2 hm2
    go_upto_region 51 with (first
      | (go_at_call 24; refine HOF.out.mono ?_; rintro e w14 ⟨rfl, h14⟩; rw [h14]; clear h14)
      | (go_at_call 18; refine (on_use HM.out).mono ?_; rintro e w15 ⟨rfl, h15⟩; have H15 := Aside0.mk h15; clear h15 HM)
      | (go_at_call 11; refine (open_use H15.out HK2.out HT.out).mono ?_; rintro e w16 ⟨g2, A9, c9, rfl, L9, h16, ho9, hg9, -, -, -⟩; have H16 := Aside0.mk h16; have HO9 := Aside0.mk ho9; have HG9 := Aside0.mk hg9; clear h16 ho9 hg9 H15 HK2))
    clear HOF
    have hll3 := HL2.out
    have HTL : Aside0 (told.length ≤ 1000000) := ⟨by
      rcases HM2.out with h | ⟨s, _, h⟩
      · have := h.1.2; omega
      · rw [h]; show 1 ≤ _; omega⟩
    obtain ⟨Ao, co, rfl, -, -⟩ := H16.out.row 3 rfl
    obtain ⟨Aw2, cw2, rfl, -, -⟩ := H16.out.row 5 rfl
    obtain ⟨Az, cz, rfl, -, -⟩ := H16.out.row 7 rfl
    go_upto_region 53 with fail
    have hup := Tryd.underlying50
    go_cut [24] from 219 to 226 (fun s24 wx => ∃ b : Bool, s24 = .bool b ∧ (b = true ∨ ∃ s, o = [s] ∧ told = [s]) ∧ Aside0 (HL W wx ([] ++ (d, TD.dev T2.on) :: []) (LT g2 d L9 :: ST (.slice A9 told.length c9) told :: LT g d L2 :: ST (.slice Ao o.length co) o :: WT gw (.slice Aw2 l2.length cw2) q2 :: ST (.slice Aw2 l2.length cw2) l2 :: WT gz (.slice Az l.length cz) q :: ST (.slice Az l.length cz) l :: R)))
    case first =>
      have cw0 : w16.cell? ⟨gw, 0, none⟩ = some (.slice Aw2 l2.length cw2) := H16.out.cell 4 rfl 0
      have cw1 : w16.cell? ⟨gw, 1, none⟩ = some (.int .i64 q2) := H16.out.cell 4 rfl 1
      have HMA := Aside0.mk (may_use H16.out 1 5 q2 rfl rfl HTL.out)
      have HMB := Aside0.mk (fun (w' : World) (h : HL W w' ([] ++ (d, TD.dev T2.on) :: []) (LT g2 d L9 :: .row Kd.string 9 (.slice A9 told.length c9) told :: LT g d L2 :: ST (.slice Ao o.length co) o :: WT gw (.slice Aw2 l2.length cw2) q2 :: ST (.slice Aw2 l2.length cw2) l2 :: WT gz (.slice Az l.length cz) q :: ST (.slice Az l.length cz) l :: R)) => may_use h 1 7 q rfl rfl HTL.out)
      by_cases hmay : MayB l2 q2 told
      · go_wp2_with (go_at_call 25; refine HMA.out.mono ?_; rintro e w17 ⟨r1, rfl, hr1, h17⟩; obtain rfl := hr1.mpr hmay; have H17 := Aside0.mk h17; clear h17 HMA hr1 H16)
        go_meet
        case rel => exact ⟨true, rfl, .inl rfl, H17⟩
      · go_wp2_with (first
          | (go_at_call 25; refine HMA.out.mono ?_; rintro e w17 ⟨r1, rfl, hr1, h17⟩; obtain rfl : r1 = false := (by cases r1 with | false => rfl | true => exact absurd (hr1.mp rfl) hmay); have H17 := Aside0.mk h17; have cz0 : w17.cell? ⟨gz, 0, none⟩ = some (.slice Az l.length cz) := h17.cell 6 rfl 0; have cz1 : w17.cell? ⟨gz, 1, none⟩ = some (.int .i64 q) := h17.cell 6 rfl 1; clear h17 HMA hr1 H16)
          | (go_at_call 25; refine (HMB.out _ H17.out).mono ?_; rintro e w18 ⟨r2, rfl, hr2, h18⟩; have H18 := Aside0.mk h18; clear h18 HMB hr2 H17))
        go_meet
        case rel => exact ⟨r2, rfl, .inr (HM2.out.resolve_left hmay), H18⟩
    case rest =>
      obtain ⟨b, rfl, hb, HC⟩ := hcut
      clear H16 HM2
      go_upto_block 3 with fail
      go_cut [24, 25] from 227 to 247 (fun s24 s25 wx => s24 = .bool true ∧ Aside0 (HL W wx ([] ++ (d, TD.dev T2.on) :: []) (LT g2 d L9 :: ST (.slice A9 told.length c9) told :: LT g d L2 :: ST (.slice Ao o.length co) o :: WT gw (.slice Aw2 l2.length cw2) q2 :: ST (.slice Aw2 l2.length cw2) l2 :: WT gz (.slice Az l.length cz) q :: ST (.slice Az l.length cz) l :: R)))
      case first =>
        go_wp2_with fail
        go_loopg [24, 25] o.length (fun gg s24 s25 wr => ∃ (j : Nat) (b : Bool), j ≤ o.length ∧ o.length - j ≤ gg ∧ s24 = .bool b ∧ s25 = .int .i64 j ∧ (b = true ∨ (j = 0 ∧ ∃ s, o = [s] ∧ told = [s])) ∧ Aside0 (HL W wr ([] ++ (d, TD.dev T2.on) :: []) (LT g2 d L9 :: ST (.slice A9 told.length c9) told :: LT g d L2 :: ST (.slice Ao o.length co) o :: WT gw (.slice Aw2 l2.length cw2) q2 :: ST (.slice Aw2 l2.length cw2) l2 :: WT gz (.slice Az l.length cz) q :: ST (.slice Az l.length cz) l :: R)))
        case atStart => exact ⟨0, b, Nat.zero_le _, Nat.le_refl _, rfl, rfl, hb.imp id (fun h => ⟨rfl, h⟩), HC⟩
        case round =>
          clear HC hb
          clear b
          obtain ⟨j, b, hj, hjg, rfl, rfl, hb, HC⟩ := hrel
          have hol := HOL.out
          by_cases hjl : j < o.length
          · have hwj := pl_w hjl hol
            have d1 := sz_lt hjl
            by_cases h1 : told.length = 1
            · have d2 := pl_one h1
              clear h1
              cases b with
              | true =>
                go_upto_region 57 with fail
                go_quiet (fail)
                have H2 := Aside0.mk (HC.out.below (pw_below_drewN (Below.refl _ _) nq))
                clear HC
                go_wp2_with fail
                go_roundg (o.length - (j + 1))
                case measure => exact sz_m hjl hjg
                case rel => exact ⟨j + 1, true, hjl, Nat.le_refl _, rfl, by first | rfl | rw [hwj], .inl rfl, H2⟩
              | false =>
                obtain ⟨rfl, s, rfl, rfl⟩ := hb.resolve_left (by simp)
                obtain ⟨b1, rfl, hc1, -, z1⟩ := HC.out.str_at 1 rfl 0 (Nat.succ_pos _)
                obtain ⟨b2, rfl, hc2, -, z2⟩ := HC.out.str_at 3 rfl 0 (Nat.succ_pos _)
                replace z1 : wr.cell? ⟨b1, 0, none⟩ = some (.string s) := z1
                replace z2 : wr.cell? ⟨b2, 0, none⟩ = some (.string s) := z2
                replace hc1 : 1 ≤ c9 := hc1
                replace hc2 : 1 ≤ co := hc2
                go_upto_region 57 with fail
                go_quiet (fail)
                have H2 := Aside0.mk (HC.out.below (pw_below_drewN (Below.refl _ _) nq))
                clear HC
                go_wp2_with fail
                go_roundg 0
                case measure => exact Nat.lt_of_lt_of_le (Nat.succ_pos 0) hjg
                case rel => exact ⟨1, true, Nat.le_refl _, Nat.le_refl _, rfl, rfl, .inl rfl, H2⟩
            · have d2 := pl_none h1
              obtain rfl : b = true := hb.elim id (fun h => by obtain ⟨_, s, _, h3⟩ := h; rw [h3] at h1; exact absurd rfl h1)
              go_wp2_with fail
              go_meet
              case rel => exact ⟨rfl, HC⟩
          · have d1 := pl_no hjl
            obtain rfl : b = true := hb.elim id (fun h => by obtain ⟨h2, s, h3, _⟩ := h; rw [h2, h3] at hjl; exact absurd (Nat.succ_pos _) hjl)
            go_wp2_with fail
            go_meet
            case rel => exact ⟨rfl, HC⟩
      case rest =>
        obtain ⟨rfl, HD⟩ := hcut
        clear HC hb
        have HSW := Aside0.mk (switch_use HD.out HO9.out rfl HG9.out (pl_g hk2) (k : Int) chAgain rightAgain (by decide) (pl_hf h1) HT.out)
        go_upto_region 13 with (first
          | (go_at_call 12; refine HSW.out.mono ?_; rintro e w20 ⟨rfl, T10, L10, h20, hu10, hf10, hE10⟩; have H20 := Aside0.mk h20; have HX := Aside0.mk (And.intro hu10 (And.intro hf10 hE10)); clear h20 hu10 hf10 hE10 HSW HD)
          | (refine gate_ (.store 50 (.tmp 10) (.tmp 256)) rfl ?_; refine Aside0.out ?_))
        refine ⟨?_⟩
        have h21 := H20.out.lit [chAgain] (one_len _)
        refine h21.store_all 5 rfl rfl rfl 50 (.tmp 10) (.tmp 256) rfl #[.slice (some ⟨w20.heap.size, 0, none⟩) 1 1, .int .i64 1] rfl rfl size_RLog rfl (by simp [Value.oneCell']) ?_
        intro w21 h22
        have H22 := Aside0.mk h22
        clear h21 h22 H20
        go_wp2_with fail
        exact HQB.out _ _ _ _ _ _ _ _ _ _ _ _ _ _ _ _ _ _ _ _ _ _ _ _ _ _ _ _ _ _ _ _ _ _ _ _ _ _ _ _ _ _ _ _ _ _ _ _ _ _ _ _ _ _ _ _ _ _ _ _ _ _ ⟨T10, L10, [chAgain], 1, _, ((((((((H22.out.front 8 rfl).drop1.front 7 rfl).drop1.front 6 rfl).drop1.front 4 rfl).drop1.front 3 rfl).drop1.front 2 rfl).drop1).front 2 rfl).front 2 rfl, HX.out.1, Nat.le_refl _, HX.out.2.1, pl_e2 HX.out.2.2, pl_k⟩
end Go.Proofs.YtegeaemkkbenfaaDoor.Ownd

/- law08.WalPlays: one round. Conditions: the acts are read at the slice that is handed in; the table lies as the program lays it. -/
namespace Go.Proofs.YtegeaemkkbenfaaDoor.Ownd
open Go.Shelf Go.RowKit Go.Proofs.YtegeaemkkbenfaaDoorW.PrintWords Go.Proofs.YtegeaemkkbenfaaDoorW.PrintLast Go.Proofs.YtegeaemkkbenfaaDoorW.PrintMore
set_option linter.unusedVariables false
set_option linter.unusedSimpArgs false
set_option maxHeartbeats 8000000 in
set_option maxRecDepth 100000 in
theorem round_walk {W wr : World} (hT : Tab W) {A : Option Addr} {ca : Nat} {L0 : List WA} (hA : Kd.C kWA W A L0.length L0) (hca : L0.length ≤ ca) {d g gw hf k : Nat} {R : List Thing} (h1 : 1 ≤ hf) (h2 : hf ≤ 8) (hk1 : k < L0.length) (hk2 : k < 30)
    (hM : PlayM W wr d g gw hf k R)
    (z2 z3 z4 z6 z8 z9 z12 z13 z14 z15 z16 z17 z18 z19 z20 z21 z22 z23 z24 z25 z26 z27 z28 z29 z30 z31 z32 z33 z34 z35 z36 z37 z38 z39 z40 z41 z42 z43 z44 z45 z46 z47 z48 z49 z50 z51 z52 z53 z54 z55 z56 z57 z58 z59 z60 z61 z62 z63 z64 z65 z66 z67 z68 z69 z70 z71 z72 z73 z74 z75 z76 z77 z78 z79 z80 z81 z82 z83 z84 z85 z86 z87 z88 z89 z90 z91 z92 z93 z94 z95 z96 z97 z98 z99 z100 z101 z102 z103 z104 z105 z106 z107 z108 z109 z110 z111 z112 z113 z114 z115 z116 z117 z118 z119 z120 z121 z122 z123 z124 z125 z126 z127 z128 z129 z130 z131 z132 z133 z134 z135 z136 z137 z138 z139 z140 z141 z142 z143 z144 z145 z146 z147 z148 z149 z150 z151 z152 z153 z154 z155 z156 z157 z158 z159 z160 z161 z162 z163 z164 z165 z166 z167 z168 z169 z170 z171 z172 z173 z174 z175 z176 z177 z178 z179 z180 z181 z182 z183 z184 z185 z186 z187 z188 z189 z190 z191 z192 z193 z194 z195 z196 z197 z198 z199 z200 z201 z202 z203 z204 z205 z206 z207 z208 z209 z210 z211 z212 z213 z214 z215 z216 z217 z218 z219 z220 z221 z222 z223 z224 z225 z226 z227 z228 z229 z230 z231 z232 z233 z234 z235 z236 z237 z238 z239 z240 z241 z242 z243 z244 z245 z246 z247 z248 z249 z250 z251 z252 z253 z254 z255 z256 : Value) (Q : Exit → Act → World → Prop) (hP : ∀ c a n v w, Q (.panic c) (Act.put a (some n) v) w → Q (.panic c) a w)
    (hQ : ∀ (g2 : Nat) (v4 v12 v13 v14 v15 v16 v17 v18 v19 v20 v21 v22 v23 v24 v25 v68 v69 v70 v71 v72 v73 v74 v75 v76 v77 v78 v79 v80 v81 v82 v83 v84 v85 v86 v87 v88 v89 v90 v91 v92 v93 v94 v95 v96 v97 v98 v99 v100 v101 v102 v103 v104 v105 v106 v107 v108 v109 v110 v111 v112 v113 v114 v115 v116 v117 v118 v119 v120 v121 v122 v123 v124 v125 v126 v127 v128 v129 v130 v131 v132 v133 v134 v135 v136 v137 v138 v139 v140 v141 v142 v143 v144 v145 v146 v147 v148 v149 v150 v151 v152 v153 v154 v155 v156 v157 v158 v159 v160 v161 v162 v163 v164 v165 v166 v167 v168 v169 v170 v171 v172 v173 v174 v175 v176 v177 v178 v179 v180 v181 v182 v183 v184 v185 v186 v187 v188 v189 v190 v191 v192 v193 v194 v195 v196 v197 v198 v199 v200 v201 v202 v203 v204 v205 v206 v207 v208 v209 v210 v211 v212 v213 v214 v215 v216 v217 v218 v219 v220 v221 v222 v223 v224 v225 v226 v227 v228 v229 v230 v231 v232 v233 v234 v235 v236 v237 v238 v239 v240 v241 v242 v243 v244 v245 v246 v247 v248 v249 v250 v251 v252 v253 v254 v255 v256 : Value) (wx : World), PlayM W wx d g2 gw hf (k + 1) R → Q .normal { tmps := (.slice A L0.length ca :: .int .i64 hf :: z2 :: z3 :: v4 :: .pointer (some ⟨d, 0, none⟩) :: z6 :: .pointer (some ⟨g2, 0, none⟩) :: z8 :: z9 :: .pointer (some ⟨gw, 0, none⟩) :: .int .i64 k :: v12 :: v13 :: v14 :: v15 :: v16 :: v17 :: v18 :: v19 :: v20 :: v21 :: v22 :: v23 :: v24 :: v25 :: z26 :: z27 :: z28 :: z29 :: z30 :: z31 :: z32 :: z33 :: z34 :: z35 :: z36 :: z37 :: z38 :: z39 :: z40 :: z41 :: z42 :: z43 :: z44 :: z45 :: z46 :: z47 :: z48 :: z49 :: z50 :: z51 :: z52 :: z53 :: z54 :: z55 :: z56 :: z57 :: z58 :: z59 :: z60 :: z61 :: z62 :: z63 :: z64 :: z65 :: z66 :: z67 :: v68 :: v69 :: v70 :: v71 :: v72 :: v73 :: v74 :: v75 :: v76 :: v77 :: v78 :: v79 :: v80 :: v81 :: v82 :: v83 :: v84 :: v85 :: v86 :: v87 :: v88 :: v89 :: v90 :: v91 :: v92 :: v93 :: v94 :: v95 :: v96 :: v97 :: v98 :: v99 :: v100 :: v101 :: v102 :: v103 :: v104 :: v105 :: v106 :: v107 :: v108 :: v109 :: v110 :: v111 :: v112 :: v113 :: v114 :: v115 :: v116 :: v117 :: v118 :: v119 :: v120 :: v121 :: v122 :: v123 :: v124 :: v125 :: v126 :: v127 :: v128 :: v129 :: v130 :: v131 :: v132 :: v133 :: v134 :: v135 :: v136 :: v137 :: v138 :: v139 :: v140 :: v141 :: v142 :: v143 :: v144 :: v145 :: v146 :: v147 :: v148 :: v149 :: v150 :: v151 :: v152 :: v153 :: v154 :: v155 :: v156 :: v157 :: v158 :: v159 :: v160 :: v161 :: v162 :: v163 :: v164 :: v165 :: v166 :: v167 :: v168 :: v169 :: v170 :: v171 :: v172 :: v173 :: v174 :: v175 :: v176 :: v177 :: v178 :: v179 :: v180 :: v181 :: v182 :: v183 :: v184 :: v185 :: v186 :: v187 :: v188 :: v189 :: v190 :: v191 :: v192 :: v193 :: v194 :: v195 :: v196 :: v197 :: v198 :: v199 :: v200 :: v201 :: v202 :: v203 :: v204 :: v205 :: v206 :: v207 :: v208 :: v209 :: v210 :: v211 :: v212 :: v213 :: v214 :: v215 :: v216 :: v217 :: v218 :: v219 :: v220 :: v221 :: v222 :: v223 :: v224 :: v225 :: v226 :: v227 :: v228 :: v229 :: v230 :: v231 :: v232 :: v233 :: v234 :: v235 :: v236 :: v237 :: v238 :: v239 :: v240 :: v241 :: v242 :: v243 :: v244 :: v245 :: v246 :: v247 :: v248 :: v249 :: v250 :: v251 :: v252 :: v253 :: v254 :: v255 :: v256 :: ([] : List Value)).toArray, defers := [] } wx) :
    Code.wp Tryd.prog (codeAt Tryd.f7 [1, 1, 1, 1, 1, 1, 1, 1, 0, 1, 4, 4, 1, 0]) Q { tmps := (.slice A L0.length ca :: .int .i64 hf :: z2 :: z3 :: z4 :: .pointer (some ⟨d, 0, none⟩) :: z6 :: .pointer (some ⟨g, 0, none⟩) :: z8 :: z9 :: .pointer (some ⟨gw, 0, none⟩) :: .int .i64 k :: z12 :: z13 :: z14 :: z15 :: z16 :: z17 :: z18 :: z19 :: z20 :: z21 :: z22 :: z23 :: z24 :: z25 :: z26 :: z27 :: z28 :: z29 :: z30 :: z31 :: z32 :: z33 :: z34 :: z35 :: z36 :: z37 :: z38 :: z39 :: z40 :: z41 :: z42 :: z43 :: z44 :: z45 :: z46 :: z47 :: z48 :: z49 :: z50 :: z51 :: z52 :: z53 :: z54 :: z55 :: z56 :: z57 :: z58 :: z59 :: z60 :: z61 :: z62 :: z63 :: z64 :: z65 :: z66 :: z67 :: z68 :: z69 :: z70 :: z71 :: z72 :: z73 :: z74 :: z75 :: z76 :: z77 :: z78 :: z79 :: z80 :: z81 :: z82 :: z83 :: z84 :: z85 :: z86 :: z87 :: z88 :: z89 :: z90 :: z91 :: z92 :: z93 :: z94 :: z95 :: z96 :: z97 :: z98 :: z99 :: z100 :: z101 :: z102 :: z103 :: z104 :: z105 :: z106 :: z107 :: z108 :: z109 :: z110 :: z111 :: z112 :: z113 :: z114 :: z115 :: z116 :: z117 :: z118 :: z119 :: z120 :: z121 :: z122 :: z123 :: z124 :: z125 :: z126 :: z127 :: z128 :: z129 :: z130 :: z131 :: z132 :: z133 :: z134 :: z135 :: z136 :: z137 :: z138 :: z139 :: z140 :: z141 :: z142 :: z143 :: z144 :: z145 :: z146 :: z147 :: z148 :: z149 :: z150 :: z151 :: z152 :: z153 :: z154 :: z155 :: z156 :: z157 :: z158 :: z159 :: z160 :: z161 :: z162 :: z163 :: z164 :: z165 :: z166 :: z167 :: z168 :: z169 :: z170 :: z171 :: z172 :: z173 :: z174 :: z175 :: z176 :: z177 :: z178 :: z179 :: z180 :: z181 :: z182 :: z183 :: z184 :: z185 :: z186 :: z187 :: z188 :: z189 :: z190 :: z191 :: z192 :: z193 :: z194 :: z195 :: z196 :: z197 :: z198 :: z199 :: z200 :: z201 :: z202 :: z203 :: z204 :: z205 :: z206 :: z207 :: z208 :: z209 :: z210 :: z211 :: z212 :: z213 :: z214 :: z215 :: z216 :: z217 :: z218 :: z219 :: z220 :: z221 :: z222 :: z223 :: z224 :: z225 :: z226 :: z227 :: z228 :: z229 :: z230 :: z231 :: z232 :: z233 :: z234 :: z235 :: z236 :: z237 :: z238 :: z239 :: z240 :: z241 :: z242 :: z243 :: z244 :: z245 :: z246 :: z247 :: z248 :: z249 :: z250 :: z251 :: z252 :: z253 :: z254 :: z255 :: z256 :: ([] : List Value)).toArray, defers := [] } wr := by
  have HT := Aside0.mk hT
  have HA := Aside0.mk hA
  have HQA := Aside0.mk hQ
  have HPA := Aside0.mk hP
  clear hT hA hQ hP
  obtain ⟨T, L, l, q, sv, hO, hu, hq, hfu, hE, hll⟩ := hM
  have HO := Aside0.mk hO
  have HU := Aside0.mk hu
  have HE := Aside0.mk hE
  have HL1 := Aside0.mk hll
  have HQ := Aside0.mk hq
  clear hO hu hE hll hq hfu
  conv in (codeAt _ _) => whnf
  obtain ⟨ad, rfl, x0, x1, x2, B, cb, x3, hcb, hCB⟩ := at_WA HA.out k hk1 rfl
  have hl1 := World.block_lt_of_cell? W _ x1
  have HCB := Aside0.mk hCB
  have HCc := Aside0.mk hcb
  have y0 := reread3 HO.out.bel x0 hl1
  have y1 := reread3 HO.out.bel x1 hl1
  have y2 := reread3 HO.out.bel x2 hl1
  have y3 := reread3 HO.out.bel x3 hl1
  clear x0 x1 x2 x3 hCB hcb hl1
  generalize L0[k] = x at y0 y1 y2 y3 HCB HCc
  obtain ⟨x0, x1, x2, kp0⟩ := x
  dsimp only at y0 y1 y2 y3 HCB HCc
  have d1 := sz_lt hk1
  have d2 := rd_d30 hk2
  have hw := rd_w30 hk2
  have hup := Tryd.underlying46
  have H1 := Aside0.mk (HO.out.alloc (.cells #[.int .i64 0, .string ⟨#[]⟩, .int .i64 0, .slice none 0 0] 46))
  go_upto_region 15 with (refine gate_ (.store 46 (.tmp 12) (.tmp 71)) rfl ?_; refine Aside0.out ?_)
  refine ⟨?_⟩
  refine H1.out.store_all 0 rfl rfl rfl 46 (.tmp 12) (.tmp 71) rfl #[.int .i64 x0, .string x1, .int .i64 x2, .slice B kp0.length cb] rfl rfl size_Act rfl (by simp [Value.oneCell']) ?_
  intro w9 h9
  have H9 := Aside0.mk (HL.swap h9)
  clear h9 H1 HO y0 y1 y2 y3
  generalize wr.heap.size = gx at H9 ⊢
  have c0 : w9.cell? ⟨gx, 0, none⟩ = some (.int .i64 x0) := H9.out.cell 1 rfl 0
  have c1 : w9.cell? ⟨gx, 1, none⟩ = some (.string x1) := H9.out.cell 1 rfl 1
  have c2 : w9.cell? ⟨gx, 2, none⟩ = some (.int .i64 x2) := H9.out.cell 1 rfl 2
  have c3 : w9.cell? ⟨gx, 3, none⟩ = some (.slice B kp0.length cb) := H9.out.cell 1 rfl 3
  go_upto_region 16 with (go_at_call 20; refine (text_calls x0 x2 (.slice B kp0.length cb) x1 k (Nat.lt_trans hk2 (by decide))).mono ?_; rintro e w10 ⟨rfl, h10⟩; have H10 := Aside0.mk (H9.out.below h10); clear h10)
  clear c0 c1 c2 c3 H9 hup d1 d2
  have hsz := tx_size x1 k
  have hrt := tx_right x1 k
  generalize tx x1 k = t at hsz hrt ⊢
  have c3 : (w10.alloc (.cells #[] 3)).cell? ⟨gx, 3, none⟩ = some (.slice B kp0.length cb) := (H10.out.below (below_alloc (Below.refl _ _) _)).cell 1 rfl 3
  have hk9 : min (kp0.length : Int) 9 = ((min kp0.length 9 : Nat) : Int) := by omega
  have hk0 : (0 : Int) ≤ ((min kp0.length 9 : Nat) : Int) := by omega
  have hcc := HCc.out
  have hk1' : ((min kp0.length 9 : Nat) : Int) ≤ (cb : Int) := by omega
  have hk2' : ((min kp0.length 9 : Nat) : Int) ≤ (kp0.length : Int) := by omega
  have hmx : min kp0.length 9 ≤ cb := by omega
  have HK2 := Aside0.mk (C_takes (Kd.Heap.C (Kd.heap_int _) (fun k hk => H10.out.bel.block k hk) HCB.out))
  clear HCB HCc hcc
  generalize hq9 : min kp0.length 9 = q9 at hk9 hk0 hk1' hk2' hmx HK2
  have hq9' : q9 ≤ 9 := hq9 ▸ Nat.min_le_right _ _
  clear hq9
  generalize kp0.take q9 = kp at HK2
  have hkq : kp.length = q9 := HK2.out.1
  subst hkq
  have hR := Aside0.mk (Kd.F_alloc (Kd.C_F (Kd.heap_int _) HK2.out) (.cells #[] 3))
  go_upto_region 17 with (refine gate_ (.call { callee := .builtin .append, args := #[.tmp 75, .tmp 82], argTypes := #[44, 44] }) rfl ?_; refine Aside0.out ?_)
  refine ⟨?_⟩
  refine Kd.N_append_rows (Kd.int .i64) (w0 := w10) w10.heap.size rfl (.tmp 75) (.tmp 82) 44 3 (.int .i64 0) 8 rfl Tryd.underlying44 infoI rfl (by decide) (by decide) (.slice (some ⟨w10.heap.size, 0, none⟩) 0 0) [] kp B kp.length cb (fun k => w10.heap.size ≤ k ∨ k < w10.heap.size) (fun k => k < w10.heap.size) rfl rfl (N_empty (Kd.int .i64) 3 w10 (fun k => w10.heap.size ≤ k ∨ k < w10.heap.size) (Or.inl (Nat.le_refl _))) hR.out (fun k hk => ⟨Or.inr hk, fun he => by simp [Value.ownBlock] at he; omega⟩) (fun k hk => Or.inl (by simp at hk; omega)) (below_alloc (Below.refl _ _) _) (by simp) (fbytes9 hq9') ?_
  intro v1 w11 hN1 hb1 hg1 hat1
  have H11 := Aside0.mk (H10.out.row_new hb1 (N_flat flatI hN1 (fun k hk => Kd.N_base hN1 k hk))).swap
  obtain ⟨A11, c11, rfl, -, -⟩ := Kd.N_reads hN1
  clear hN1 hb1 hg1 hat1 H10 hR HK2
  have H12 : Aside0 (HL W w11 ([] ++ (d, TD.dev T) :: []) (LT g d L :: .row (Kd.int .i64) 3 (.slice A11 kp.length c11) kp :: .box gx (.cells #[.int .i64 x0, .string x1, .int .i64 x2, .slice B kp0.length cb] 46 (0, 0)) :: WT gw sv q :: ST sv l :: R)) := ⟨H11.out⟩
  clear hk9 hk0 hk1' hk2' hmx c3 H11
  go_upto_region 17 with fail
  have c2 : w11.cell? ⟨gx, 2, none⟩ = some (.int .i64 x2) := H12.out.cell 2 rfl 2
  go_upto_if 86 with fail
  go_cut [] from 68 to 93 (fun wx => Aside0 (∃ T, HL W wx ([] ++ (d, TD.dev T) :: []) (LT g d L :: .row (Kd.int .i64) 3 (.slice A11 kp.length c11) kp :: .box gx (.cells #[.int .i64 x0, .string x1, .int .i64 x2, .slice B kp0.length cb] 46 (0, 0)) :: WT gw sv q :: ST sv l :: R) ∧ InUse T L 1 hf l q))
  case first =>
    by_cases h2 : 0 < x2
    · have ha := and7 x2
      obtain ⟨m, hm1, hm2, hm⟩ := full_h x2
      have HRD := H12.out.reads 1 rfl
      have HFU := Aside0.mk (fuse_any H12.out (m : Int) A11 c11 kp HRD.1 (Nat.le_trans hq9' (by decide)) HRD.2)
      clear HRD
      go_wp2_with (go_at_call 21; refine HFU.out.mono ?_; rintro e w12 ⟨rfl, h12⟩; have H13 := Aside0.mk h12; clear h12 H12 HFU)
      go_meet
      case rel => exact ⟨_, H13.out, HU.out.fused _ _⟩
    · go_wp2_with fail
      go_meet
      case rel => exact ⟨_, H12.out, HU.out⟩
  case rest =>
    obtain ⟨T1, hO, hu⟩ := hcut.out
    have HO := Aside0.mk hO
    have HU1 := Aside0.mk hu
    clear hO hu hcut H12 HU c2
    obtain ⟨Aw, cw, rfl, -, -⟩ := HO.out.row 4 rfl
    have HLN : Aside0 ((([] : List ByteArray).length + l.length) * 16 ≤ 140737488355328) := ⟨by have := HL1.out; rw [List.length_nil]; omega⟩
    go_upto_region 19 with fail
    go_cut [15] from 94 to 100 (fun s15 wx => ∃ gz sz, s15 = .pointer (some ⟨gz, 0, none⟩) ∧ Aside0 (HL W wx ([] ++ (d, TD.dev T1) :: []) (WT gz sz q :: ST sz l :: LT g d L :: .row (Kd.int .i64) 3 (.slice A11 kp.length c11) kp :: .box gx (.cells #[.int .i64 x0, .string x1, .int .i64 x2, .slice B kp0.length cb] 46 (0, 0)) :: WT gw (.slice Aw l.length cw) q :: ST (.slice Aw l.length cw) l :: R)))
    case first =>
      refine was_walk (Nat.le_trans HL1.out (by omega)) HO.out _ _ _ _ _ _ _ _ _ _ _ _ _ _ _ _ _ _ _ _ _ _ _ _ _ _ _ _ _ _ _ _ _ _ _ _ _ _ _ _ _ _ _ _ _ _ _ _ _ _ _ _ _ _ _ _ _ _ _ _ _ _ _ _ _ _ _ _ _ _ _ _ _ _ _ _ _ _ _ _ _ _ _ _ _ _ _ _ _ _ _ _ _ _ _ _ _ _ _ _ _ _ _ _ _ _ _ _ _ _ _ _ _ _ _ _ _ _ _ _ _ _ _ _ _ _ _ _ _ _ _ _ _ _ _ _ _ _ _ _ _ _ _ _ _ _ _ _ _ _ _ _ _ _ _ _ _ _ _ _ _ _ _ _ _ _ _ _ _ _ _ _ _ _ _ _ _ _ _ _ _ _ _ _ _ _ _ _ _ _ _ _ _ _ _ _ _ _ _ _ _ _ _ _ _ _ _ _ _ _ _ _ _ _ _ _ _ _ _ _ _ _ _ _ _ _ _ _ _ _ _ _ _ _ _ _ _ _ _ _ _ _ _ _ _ _ _ _ _ _ _ _ _ _ _ _ _ (fun c a n v w h => HPA.out c a n v w h) ?_
      intro gz sz v94 v95 v96 v97 v98 v99 v100 wx h
      go_wp2_with fail
      go_meet
      case rel => exact ⟨gz, sz, rfl, ⟨h⟩⟩
    case rest =>
      obtain ⟨gz, sz, rfl, HC⟩ := hcut
      have HO2 := Aside0.mk (HC.out.front 2 rfl)
      have HC2 : Aside0 (HL W wc ([] ++ (d, TD.dev T1) :: []) (LT g d L :: WT gz sz q :: ST sz l :: .row (Kd.int .i64) 3 (.slice A11 kp.length c11) kp :: .box gx (.cells #[.int .i64 x0, .string x1, .int .i64 x2, .slice B kp0.length cb] 46 (0, 0)) :: WT gw (.slice Aw l.length cw) q :: ST (.slice Aw l.length cw) l :: R)) := ⟨HO2.out⟩
      clear HC HO2 HO HLN
      have c0 : wc.cell? ⟨gx, 0, none⟩ = some (.int .i64 x0) := HC2.out.cell 4 rfl 0
      go_upto_block 2 with fail
      clear c0
      generalize Int.tmod (wrap64 (Int.tmod x0 8 + 8)) 8 = v
      go_cut [4, 16, 17, 18, 19, 20] from 106 to 202 (fun s4 s16 s17 s18 s19 s20 wx => Aside0 (ActM W wx d g gw gz hf k q sz l s16 R))
      case first =>
        refine act_walk HT.out hk2 h1 h2 HL1.out HQ.out HE.out HU1.out hsz hrt HC2.out _ _ _ _ _ _ _ _ _ _ _ _ _ _ _ _ _ _ _ _ _ _ _ _ _ _ _ _ _ _ _ _ _ _ _ _ _ _ _ _ _ _ _ _ _ _ _ _ _ _ _ _ _ _ _ _ _ _ _ _ _ _ _ _ _ _ _ _ _ _ _ _ _ _ _ _ _ _ _ _ _ _ _ _ _ _ _ _ _ _ _ _ _ _ _ _ _ _ _ _ _ _ _ _ _ _ _ _ _ _ _ _ _ _ _ _ _ _ _ _ _ _ _ _ _ _ _ _ _ _ _ _ _ _ _ _ _ _ _ _ _ _ _ _ _ _ _ _ _ _ _ _ _ _ _ _ _ _ _ _ _ _ _ _ _ _ _ _ _ _ _ _ _ _ _ _ _ _ _ _ _ _ _ _ _ _ _ _ _ _ _ _ _ _ _ _ _ _ _ _ _ _ _ _ _ _ _ _ _ _ _ _ _ _ _ _ _ _ _ _ _ _ _ _ _ _ _ _ _ _ _ _ _ _ _ _ _ _ _ _ _ _ _ _ _ _ _ _ _ ?_
        intro v4 v16 v17 v18 v19 v20 v106 v107 v108 v109 v110 v111 v112 v113 v114 v115 v116 v117 v118 v119 v120 v121 v122 v123 v124 v125 v126 v127 v128 v129 v130 v131 v132 v133 v134 v135 v136 v137 v138 v139 v140 v141 v142 v143 v144 v145 v146 v147 v148 v149 v150 v151 v152 v153 v154 v155 v156 v157 v158 v159 v160 v161 v162 v163 v164 v165 v166 v167 v168 v169 v170 v171 v172 v173 v174 v175 v176 v177 v178 v179 v180 v181 v182 v183 v184 v185 v186 v187 v188 v189 v190 v191 v192 v193 v194 v195 v196 v197 v198 v199 v200 v201 v202 wx hrel
        go_wp2_with fail
        go_meet
        case rel => exact ⟨hrel⟩
      case rest =>
        refine ‹∀ (a : Act) (w : World), Code.wp _ _ _ a w → _› _ _ ?_
        refine tail_walk HT.out hk2 h1 hcut.out _ _ _ _ _ _ _ _ _ _ _ _ _ _ _ _ _ _ _ _ _ _ _ _ _ _ _ _ _ _ _ _ _ _ _ _ _ _ _ _ _ _ _ _ _ _ _ _ _ _ _ _ _ _ _ _ _ _ _ _ _ _ _ _ _ _ _ _ _ _ _ _ _ _ _ _ _ _ _ _ _ _ _ _ _ _ _ _ _ _ _ _ _ _ _ _ _ _ _ _ _ _ _ _ _ _ _ _ _ _ _ _ _ _ _ _ _ _ _ _ _ _ _ _ _ _ _ _ _ _ _ _ _ _ _ _ _ _ _ _ _ _ _ _ _ _ _ _ _ _ _ _ _ _ _ _ _ _ _ _ _ _ _ _ _ _ _ _ _ _ _ _ _ _ _ _ _ _ _ _ _ _ _ _ _ _ _ _ _ _ _ _ _ _ _ _ _ _ _ _ _ _ _ _ _ _ _ _ _ _ _ _ _ _ _ _ _ _ _ _ _ _ _ _ _ _ _ _ _ _ _ _ _ _ _ _ _ _ _ _ _ _ _ _ _ _ _ _ _ _ _ ?_ ?_
        · intro v203 v204 v205 v206 v207 wx hp
          have HP := Aside0.mk hp
          clear hp
          go_wp2_with fail
          exact HQA.out _ _ _ _ _ _ _ _ _ _ _ _ _ _ _ _ _ _ _ _ _ _ _ _ _ _ _ _ _ _ _ _ _ _ _ _ _ _ _ _ _ _ _ _ _ _ _ _ _ _ _ _ _ _ _ _ _ _ _ _ _ _ _ _ _ _ _ _ _ _ _ _ _ _ _ _ _ _ _ _ _ _ _ _ _ _ _ _ _ _ _ _ _ _ _ _ _ _ _ _ _ _ _ _ _ _ _ _ _ _ _ _ _ _ _ _ _ _ _ _ _ _ _ _ _ _ _ _ _ _ _ _ _ _ _ _ _ _ _ _ _ _ _ _ _ _ _ _ _ _ _ _ _ _ _ _ _ _ _ _ _ _ _ _ _ _ _ _ _ _ _ _ _ _ _ _ _ _ _ _ _ _ _ _ _ _ _ _ _ _ _ _ _ _ _ _ _ _ _ _ _ _ _ _ _ _ HP.out
        · intro g2 v4 v21 v22 v23 v24 v25 v203 v204 v205 v206 v207 v208 v209 v210 v211 v212 v213 v214 v215 v216 v217 v218 v219 v220 v221 v222 v223 v224 v225 v226 v227 v228 v229 v230 v231 v232 v233 v234 v235 v236 v237 v238 v239 v240 v241 v242 v243 v244 v245 v246 v247 v248 v249 v250 v251 v252 v253 v254 v255 v256 wx hp
          have HP := Aside0.mk hp
          clear hp
          go_wp2_with fail
          exact HQA.out _ _ _ _ _ _ _ _ _ _ _ _ _ _ _ _ _ _ _ _ _ _ _ _ _ _ _ _ _ _ _ _ _ _ _ _ _ _ _ _ _ _ _ _ _ _ _ _ _ _ _ _ _ _ _ _ _ _ _ _ _ _ _ _ _ _ _ _ _ _ _ _ _ _ _ _ _ _ _ _ _ _ _ _ _ _ _ _ _ _ _ _ _ _ _ _ _ _ _ _ _ _ _ _ _ _ _ _ _ _ _ _ _ _ _ _ _ _ _ _ _ _ _ _ _ _ _ _ _ _ _ _ _ _ _ _ _ _ _ _ _ _ _ _ _ _ _ _ _ _ _ _ _ _ _ _ _ _ _ _ _ _ _ _ _ _ _ _ _ _ _ _ _ _ _ _ _ _ _ _ _ _ _ _ _ _ _ _ _ _ _ _ _ _ _ _ _ _ _ _ _ _ _ _ _ _ HP.out
end Go.Proofs.YtegeaemkkbenfaaDoor.Ownd
