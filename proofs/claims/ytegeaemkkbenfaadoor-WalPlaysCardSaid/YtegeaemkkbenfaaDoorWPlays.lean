/- law08.WalPlays, walked: it says true. Conditions: the acts are read at the slice that is handed in; the table lies as the program lays it. -/
import Derived.Test.YtegeaemkkbenfaaDoorWPlayD
namespace Go.Proofs.YtegeaemkkbenfaaDoor.Ownd
open Go.Shelf Go.RowKit Go.Proofs.YtegeaemkkbenfaaDoorW.PrintWords Go.Proofs.YtegeaemkkbenfaaDoorW.PrintLast Go.Proofs.YtegeaemkkbenfaaDoorW.PrintMore
set_option linter.unusedVariables false
set_option linter.unusedSimpArgs false
set_option maxHeartbeats 8000000 in
set_option maxRecDepth 100000 in
theorem plays_calls {W : World} (hT : Tab W) (A : Option Addr) (ca : Nat) (L0 : List WA) (y : Int) (hA : Kd.C kWA W A L0.length L0) (hca : L0.length ≤ ca) : Calls Tryd.prog 7 #[.slice A L0.length ca, .int .i64 y] W fun ex W' => ex = .returned (.bool true) ∧ Below W.heap.size W W' := by
  have HT := Aside0.mk hT
  have HA := Aside0.mk hA
  clear hT hA
  have ha := and7 y
  obtain ⟨hf, h1, h2, hw⟩ := full_h y
  go_enter Tryd.func7, Tryd.ntmps7
  go_upto_region 4 with (first
    | (go_at_call 8; refine (speaks_calls HT.out).mono ?_; rintro e w1 ⟨rfl, hb1⟩; have H0 := Aside0.mk (HL.start2 hb1); clear hb1))
  clear ha hw
  have hn : (3 : Int) + 2 * (hf : Int) = ((3 + 2 * hf : Nat) : Int) := by omega
  have HN := Aside0.mk (new_HL H0.out (3 + 2 * hf) (by omega) (by omega))
  rw [← hn] at HN
  have hSite : Site (TD.new (3 + 2 * hf)) 1 hf := siteNew (by decide) (by omega) (by omega) (by omega)
  have HS := Aside0.mk hSite
  have HF := Aside0.mk (fun (d : Nat) (w' : World) (h : HL W w' ([] ++ (d, (TD.new (3 + 2 * hf)).dev) :: []) []) => format_use h HS.out chFirst rightFirst (by decide) (show 5 + 2 ≤ hf * 242 by omega) HT.out)
  clear hn hSite HS
  go_upto_region 10 with (first
    | (go_at_call 9; refine HN.out.mono ?_; rintro e w2 ⟨d, rfl, h2⟩; have H1 : Aside0 (HL W w2 ([] ++ (d, (TD.new (3 + 2 * hf)).dev) :: []) []) := ⟨h2⟩; clear h2 H0 HN)
    | (go_at_call 10; refine (HF.out _ _ H1.out).mono ?_; rintro e w3 ⟨rfl, T, h3, hk, hfu⟩; have H2 := Aside0.mk h3; have HK := Aside0.mk hk; have HFU := Aside0.mk hfu; clear h3 hk hfu H1 HF)
    | (go_at_call 11; refine (open_use H2.out HK.out HT.out).mono ?_; rintro e w4 ⟨g, A1, c, rfl, L, h4, ho, hg, -, -, -⟩; have H3 := Aside0.mk h4; have HO := Aside0.mk ho; have HG := Aside0.mk hg; clear h4 ho hg H2 HK)
    | (go_at_call 12; refine (switch_use H3.out HO.out HFU.out HG.out (by decide) 0 chBegin rightBg (by decide) (show 5 + 2 ≤ hf * 242 by omega) HT.out).mono ?_; rintro e w6 ⟨rfl, T6, L6, h6, hu6, hf6, hE6⟩; have H6 := Aside0.mk h6; have HU6 := Aside0.mk hu6; have HF6 := Aside0.mk hf6; have HE6 := Aside0.mk hE6; clear h6 hu6 hf6 hE6 H3 HO HFU HG))
  obtain ⟨R, hR⟩ : ∃ R : List Thing, [Thing.row Kd.string 9 (Value.slice A1 [chFirst].length c) [chFirst]] = R := ⟨_, rfl⟩
  rw [hR] at H6
  clear hR
  have hl0 := (H6.out.lit [chBegin] (by decide)).swap.alloc (.cells #[.slice none 0 0, .int .i64 0] 50)
  have H7 := Aside0.mk hl0.swap
  clear hl0 H6
  go_upto_region 11 with (refine gate_ (.store 50 (.tmp 10) (.tmp 57)) rfl ?_; refine Aside0.out ?_)
  refine ⟨?_⟩
  have e1 : (w6.alloc (.cells #[.string ⟨#[98, 101, 103, 105, 110]⟩] 9)).heap.size = w6.heap.size + 1 := Array.size_push _
  have H8 : Aside0 (HL W ((w6.alloc (.cells #[.string ⟨#[98, 101, 103, 105, 110]⟩] 9)).alloc (.cells #[.slice none 0 0, .int .i64 0] 50)) ([] ++ (d, TD.dev T6) :: []) (LT g d L6 :: .box (w6.heap.size + 1) (.cells #[.slice none 0 0, .int .i64 0] 50 (0, 0)) :: .row Kd.string 9 (.slice (some ⟨w6.heap.size, 0, none⟩) 1 1) [chBegin] :: R)) := by rw [← e1]; exact H7
  clear H7 e1
  refine H8.out.store_all 1 rfl rfl rfl 50 (.tmp 10) (.tmp 57) rfl #[.slice (some ⟨w6.heap.size, 0, none⟩) 1 1, .int .i64 1] rfl rfl size_RLog rfl (by simp [Value.oneCell']) ?_
  intro w8 h8
  have HP : Aside0 (PlayM W w8 d g (w6.heap.size + 1) hf 0 R) := ⟨T6, L6, [chBegin], 1, _, h8, HU6.out, Nat.le_refl _, HF6.out, by have := HE6.out; omega, Nat.le_refl _⟩
  clear h8 H8 HU6 HF6 HE6
  generalize w6.heap.size + 1 = gw at HP ⊢
  go_wp2_with fail
  go_loopg [7, 11] (min 30 L0.length) (fun gg s7 s11 wr => ∃ k g : Nat, k ≤ min 30 L0.length ∧ min 30 L0.length - k ≤ gg ∧ s7 = .pointer (some ⟨g, 0, none⟩) ∧ s11 = .int .i64 k ∧ Aside0 (PlayM W wr d g gw hf k R))
  case atStart => exact ⟨0, g, Nat.zero_le _, Nat.le_refl _, rfl, rfl, HP⟩
  case round =>
    clear HP
    obtain ⟨k, g, hk, hg, rfl, rfl, ⟨T, L, l, q, sv, hO, hu, hq, hfu, hE, hll⟩⟩ := hrel
    have HO := Aside0.mk hO
    have HU := Aside0.mk hu
    have HE := Aside0.mk hE
    have HL1 := Aside0.mk hll
    have HQ := Aside0.mk hq
    have HFU := Aside0.mk hfu
    clear hO hu hE hll hq hfu
    by_cases hlt : k < min 30 L0.length
    · have hk1 : k < L0.length := Nat.lt_of_lt_of_le hlt (Nat.min_le_right _ _)
      have hk2 : k < 30 := Nat.lt_of_lt_of_le hlt (Nat.min_le_left _ _)
      have d1 := sz_lt hk1
      have d2 := rd_d30 hk2
      have hw := rd_w30 hk2
      go_upto_block 1 with fail
      refine round_walk HT.out HA.out hca h1 h2 hk1 hk2 ⟨T, L, l, q, sv, HO.out, HU.out, HQ.out, HFU.out, HE.out, HL1.out⟩ _ _ _ _ _ _ _ _ _ _ _ _ _ _ _ _ _ _ _ _ _ _ _ _ _ _ _ _ _ _ _ _ _ _ _ _ _ _ _ _ _ _ _ _ _ _ _ _ _ _ _ _ _ _ _ _ _ _ _ _ _ _ _ _ _ _ _ _ _ _ _ _ _ _ _ _ _ _ _ _ _ _ _ _ _ _ _ _ _ _ _ _ _ _ _ _ _ _ _ _ _ _ _ _ _ _ _ _ _ _ _ _ _ _ _ _ _ _ _ _ _ _ _ _ _ _ _ _ _ _ _ _ _ _ _ _ _ _ _ _ _ _ _ _ _ _ _ _ _ _ _ _ _ _ _ _ _ _ _ _ _ _ _ _ _ _ _ _ _ _ _ _ _ _ _ _ _ _ _ _ _ _ _ _ _ _ _ _ _ _ _ _ _ _ _ _ _ _ _ _ _ _ _ _ _ _ _ _ _ _ _ _ _ _ _ _ _ _ _ _ _ _ _ _ _ _ _ _ _ _ _ _ _ _ _ _ _ _ _ _ _ _ _ _ _ _ _ _ _ _ _ _ (fun _ _ _ _ _ h => h) ?_
      intro g2 v4 v12 v13 v14 v15 v16 v17 v18 v19 v20 v21 v22 v23 v24 v25 v68 v69 v70 v71 v72 v73 v74 v75 v76 v77 v78 v79 v80 v81 v82 v83 v84 v85 v86 v87 v88 v89 v90 v91 v92 v93 v94 v95 v96 v97 v98 v99 v100 v101 v102 v103 v104 v105 v106 v107 v108 v109 v110 v111 v112 v113 v114 v115 v116 v117 v118 v119 v120 v121 v122 v123 v124 v125 v126 v127 v128 v129 v130 v131 v132 v133 v134 v135 v136 v137 v138 v139 v140 v141 v142 v143 v144 v145 v146 v147 v148 v149 v150 v151 v152 v153 v154 v155 v156 v157 v158 v159 v160 v161 v162 v163 v164 v165 v166 v167 v168 v169 v170 v171 v172 v173 v174 v175 v176 v177 v178 v179 v180 v181 v182 v183 v184 v185 v186 v187 v188 v189 v190 v191 v192 v193 v194 v195 v196 v197 v198 v199 v200 v201 v202 v203 v204 v205 v206 v207 v208 v209 v210 v211 v212 v213 v214 v215 v216 v217 v218 v219 v220 v221 v222 v223 v224 v225 v226 v227 v228 v229 v230 v231 v232 v233 v234 v235 v236 v237 v238 v239 v240 v241 v242 v243 v244 v245 v246 v247 v248 v249 v250 v251 v252 v253 v254 v255 v256 wx hp
      have HP := Aside0.mk hp
      clear hp HO HU HQ HFU HE HL1 d1 d2
      go_wp2_with fail
      go_roundg (min 30 L0.length - (k + 1))
      case measure => exact sz_m hlt hg
      case rel => exact ⟨k + 1, g2, hlt, Nat.le_refl _, rfl, by first | rfl | rw [hw], HP⟩
    · obtain rfl : k = min 30 L0.length := Nat.le_antisymm hk (Nat.not_lt.mp hlt)
      by_cases h1 : min 30 L0.length < L0.length
      · have d1 := sz_lt h1
        have d2 := rd_n30 h1
        generalize min 30 L0.length = k at *
        go_wp2_with fail
        go_ret
        exact ⟨rfl, HO.out.bel⟩
      · have d1 : decide (((min 30 L0.length : Nat) : Int) < (L0.length : Int)) = false := decide_eq_false (by omega)
        generalize min 30 L0.length = k at *
        go_wp2_with fail
        go_ret
        exact ⟨rfl, HO.out.bel⟩
end Go.Proofs.YtegeaemkkbenfaaDoor.Ownd
