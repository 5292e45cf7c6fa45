/- law08.WalPlays: the copy of the document's log; one act. Conditions: a log in use; the table lies as the program lays it. -/
import Derived.Test.YtegeaemkkbenfaaDoorWLaws
namespace Go.Proofs.YtegeaemkkbenfaaDoor.Ownd
open Go.Shelf Go.RowKit Go.Proofs.YtegeaemkkbenfaaDoorW.PrintWords Go.Proofs.YtegeaemkkbenfaaDoorW.PrintLast Go.Proofs.YtegeaemkkbenfaaDoorW.PrintMore
set_option linter.unusedVariables false
set_option linter.unusedSimpArgs false
def ws_T : Bool × List (List Nat × List Nat) := (true, [([], []), ([], []), ([1], [1]), ([0, 2], [0, 2]), ([], []), ([4], [4]), ([3, 5], [3, 5]), ([], []), ([7, 6, 3, 0, 1, 2, 3, 4, 5, 6, 7], [6, 7])])
def ws_B : List Nat := [0, 0, 2, 7, 0, 16, 63, 0, 255]
theorem ws_tab : rtab .any (opsOf Tryd.f7 19) = ws_T := by kernel_rfl
theorem ws_bits : waitsOk ws_T.2 ws_B = true := by kernel_rfl
/-- What, Text, Cut, Keep. -/
abbrev WA := Int × (ByteArray × (Int × List Int))
abbrev kWA : Kd WA := Kd.pair (Kd.int .i64) (Kd.pair Kd.string (Kd.pair (Kd.int .i64) (Kd.slice 3 (Kd.int .i64))))
theorem kWA_is {W : World} {x : WA} {cs : List Value} (h : kWA.K W x cs) : ∃ A c, cs = [.int .i64 x.1, .string x.2.1, .int .i64 x.2.2.1, .slice A x.2.2.2.length c] ∧ x.2.2.2.length ≤ c ∧ Kd.C (Kd.int .i64) W A x.2.2.2.length x.2.2.2 := by
  obtain ⟨c0, c1, rfl, h0, h1⟩ := h
  obtain ⟨c2, c3, rfl, h2, h3⟩ := h1
  obtain ⟨c4, c5, rfl, h4, h5⟩ := h3
  obtain ⟨A, c, rfl, hc, hC⟩ := h5
  have e0 : c0 = [.int .i64 x.1] := h0
  have e2 : c2 = [.string x.2.1] := h2
  have e4 : c4 = [.int .i64 x.2.2.1] := h4
  exact ⟨A, c, by rw [e0, e2, e4]; rfl, hc, hC⟩
theorem kWA_mk {W : World} (x : WA) (A : Option Addr) (c : Nat) (hc : x.2.2.2.length ≤ c) (hC : Kd.C (Kd.int .i64) W A x.2.2.2.length x.2.2.2) : kWA.K W x [.int .i64 x.1, .string x.2.1, .int .i64 x.2.2.1, .slice A x.2.2.2.length c] :=
  ⟨[.int .i64 x.1], [.string x.2.1, .int .i64 x.2.2.1, .slice A x.2.2.2.length c], rfl, rfl, ⟨[.string x.2.1], [.int .i64 x.2.2.1, .slice A x.2.2.2.length c], rfl, rfl, ⟨[.int .i64 x.2.2.1], [.slice A x.2.2.2.length c], rfl, rfl, ⟨A, c, rfl, hc, hC⟩⟩⟩⟩
/-- An act's cells. -/
theorem at_WA {W : World} {A : Option Addr} {n : Nat} {xs : List WA} (h : Kd.C kWA W A n xs) (i : Nat) (h1 : i < xs.length) (hn : n = xs.length) : ∃ ad : Addr, A = some ad ∧ W.cell? (ad.add (i * 4)) = some (.int .i64 xs[i].1) ∧ W.cell? ⟨(ad.add (i * 4)).block, (ad.add (i * 4)).off + 1, none⟩ = some (.string xs[i].2.1) ∧
    W.cell? ⟨(ad.add (i * 4)).block, (ad.add (i * 4)).off + 2, none⟩ = some (.int .i64 xs[i].2.2.1) ∧ ∃ B c, W.cell? ⟨(ad.add (i * 4)).block, (ad.add (i * 4)).off + 3, none⟩ = some (.slice B xs[i].2.2.2.length c) ∧ xs[i].2.2.2.length ≤ c ∧ Kd.C (Kd.int .i64) W B xs[i].2.2.2.length xs[i].2.2.2 := by
  obtain ⟨ad, cs, e, _, hK, hc0⟩ := Kd.C_get h xs[i] (i : Int) (by omega) (by omega)
  rw [Int.toNat_natCast] at hK hc0
  rw [List.getD_eq_getElem?_getD, List.getElem?_eq_getElem h1, Option.getD_some] at hK
  obtain ⟨B, c, rfl, hc, hC⟩ := kWA_is hK
  have step : ∀ t, t ≠ 0 → ad.add (i * 4 + t) = ⟨(ad.add (i * 4)).block, (ad.add (i * 4)).off + t, none⟩ := fun t ht => by
    unfold Addr.add
    rw [if_neg (by omega)]
    split
    · rename_i h0; simp only [h0, Nat.zero_add]
    · simp only [Nat.add_assoc]
  refine ⟨ad, e, hc0 0 _ rfl, ?_, ?_, B, c, ?_, hc, hC⟩
  · have h2 : W.cell? (ad.add (i * 4 + 1)) = _ := hc0 1 _ rfl
    rwa [step 1 (by decide)] at h2
  · have h2 : W.cell? (ad.add (i * 4 + 2)) = _ := hc0 2 _ rfl
    rwa [step 2 (by decide)] at h2
  · have h2 : W.cell? (ad.add (i * 4 + 3)) = _ := hc0 3 _ rfl
    rwa [step 3 (by decide)] at h2
theorem size_Act : (Tryd.prog.info? 46).map (·.size) = some 4 := by kernel_rfl
theorem size_RLog : (Tryd.prog.info? 50).map (·.size) = some 2 := by kernel_rfl
def chFirst : ByteArray := ⟨#[102, 105, 114, 115, 116]⟩
def chAgain : ByteArray := ⟨#[97, 103, 97, 105, 110]⟩
theorem rightFirst : Right chFirst := ⟨by decide, by decide⟩
theorem rightAgain : Right chAgain := ⟨by decide, by decide⟩
/-- The document's log, in memory. -/
def WT (gw : Nat) (v : Value) (q : Nat) : Thing := .box gw (.cells #[v, .int .i64 q] 50 (0, 0))
def ST (v : Value) (l : List ByteArray) : Thing := .row Kd.string 9 v l
theorem reread3 {w1 : World} {W : World} {a : Addr} {v : Value} (h : Below W.heap.size W w1) (hv : W.cell? a = some v) (hl : a.block < W.heap.size) : w1.cell? a = some v := (h.cell hl).trans hv
theorem fbytes9 {q : Nat} (h : q ≤ 9) : (([] : List Int).length + q) * 8 ≤ 140737488355328 := by rw [List.length_nil]; omega
theorem C_takes {W : World} {A : Option Addr} {xs : List Int} (h : Kd.C (Kd.int .i64) W A xs.length xs) : Kd.C (Kd.int .i64) W A (min xs.length 9) (xs.take (min xs.length 9)) := by
  obtain ⟨h1, h2, h3⟩ := h
  have hl : (xs.take (min xs.length 9)).length = min xs.length 9 := by rw [List.length_take]; omega
  refine ⟨hl, by omega, fun hp => ?_⟩
  obtain ⟨ad, e, h4⟩ := h3 (by omega)
  refine ⟨ad, e, fun j p hj => h4 j p ?_⟩
  rw [List.getElem?_take] at hj
  split at hj
  · exact hj
  · cases hj
theorem one_len (t : ByteArray) : ([t] : List ByteArray).length ≤ 1000000 := show 1 ≤ 1000000 by decide
theorem pl_w {j n : Nat} (h : j < n) (hn : n ≤ 1) : wrap64 ((j : Int) + 1) = ((j + 1 : Nat) : Int) := by unfold wrap64; omega
theorem pl_no {j n : Nat} (h : ¬ j < n) : decide ((j : Int) < (n : Int)) = false := decide_eq_false (by omega)
theorem pl_one {n : Nat} (h : n = 1) : ((n : Int) == 1) = true := by rw [h]; rfl
theorem pl_none {n : Nat} (h : ¬ n = 1) : ((n : Int) == 1) = false := by rw [beq_eq_false_iff_ne]; omega
theorem pl_e1 {e : Int} {k : Nat} (h : e ≤ 2 + 2 * (k : Int) + 1) : e ≤ 2 + 2 * ((k + 1 : Nat) : Int) := by omega
theorem pl_e2 {e : Int} {k : Nat} (h : e ≤ 2 + 2 * (k : Int) + 1 + 1) : e ≤ 2 + 2 * ((k + 1 : Nat) : Int) := by omega
theorem pl_g {k : Nat} (h : k < 30) : 2 + 2 * (k : Int) + 1 ≤ 1000000 := by omega
theorem pl_g0 {k : Nat} (h : k < 30) : 2 + 2 * (k : Int) ≤ 1000000 := by omega
theorem pl_hf {hf : Nat} (h : 1 ≤ hf) : 5 + 2 ≤ hf * 242 := by omega
theorem pl_k {k : Nat} : 1 ≤ k + 1 + 1 := by omega
/-- Between two acts. -/
def PlayM (W wr : World) (d g gw hf k : Nat) (R : List Thing) : Prop := ∃ (T : TD) (L : LG) (l : List ByteArray) (q : Nat) (sv : Value), HL W wr ([] ++ (d, T.dev) :: []) (LT g d L :: WT gw sv q :: ST sv l :: R) ∧ InUse T L 1 hf l q ∧ 1 ≤ q ∧ T.fuse = 0 ∧ L.epoch ≤ 2 + 2 * (k : Int) ∧ l.length ≤ k + 1
/-- Behind an act: the log goes on, or the power has failed. -/
def After (hf : Nat) (G : Int) (T : TD) (L : LG) (l : List ByteArray) (q : Nat) (o : List ByteArray) : Prop :=
  (T.off = false ∧ InUse T L 1 hf l q ∧ L.epoch ≤ G + 1) ∨ (T.off = true ∧ ∃ told, Kept T.on 1 hf told (G + 1) ∧ (MayB l q told ∨ ∃ s, o = [s] ∧ told = [s]))
def ActM (W wx : World) (d g gw gz hf k : Nat) (q0 : Nat) (sz : Value) (l0 : List ByteArray) (so : Value) (R : List Thing) : Prop := ∃ (T : TD) (L : LG) (l : List ByteArray) (q : Nat) (sw : Value) (o : List ByteArray), HL W wx ([] ++ (d, T.dev) :: []) (LT g d L :: ST so o :: WT gw sw q :: ST sw l :: WT gz sz q0 :: ST sz l0 :: R) ∧ After hf (2 + 2 * (k : Int)) T L l q o ∧ 1 ≤ q ∧ l.length ≤ k + 2 ∧ o.length ≤ 1
/-- May, as a law calls it. -/
theorem may_use {w W : World} {rest : List Thing} {ds : List (Nat × Dev)} {e e' c c' : Nat} {A B : Option Addr} {a b : List ByteArray} (h : HL w W ds rest) (i j : Nat) (q : Nat) (hi : rest[i]? = some (.row Kd.string e (.slice A a.length c) a)) (hj : rest[j]? = some (.row Kd.string e' (.slice B b.length c') b)) (hl : a.length ≤ 1000000) :
    Calls Tryd.prog 25 #[.agg #[.slice B b.length c', .int .i64 q], .slice A a.length c] W fun ex W' => ∃ r : Bool, ex = .returned (.bool r) ∧ (r = true ↔ MayB b q a) ∧ HL w W' ds rest := by
  obtain ⟨A', c1, e1, h1, h2⟩ := h.row i hi
  obtain ⟨rfl, -, rfl⟩ := Value.slice.inj e1
  obtain ⟨B', c2, e2, h3, h4⟩ := h.row j hj
  obtain ⟨rfl, -, rfl⟩ := Value.slice.inj e2
  refine (may_calls q h2 h4 h1 h3 hl (decide ((a = b.take a.length ∧ a.length ≤ b.length) ∧ q ≤ a.length)) rfl).mono ?_
  rintro ex W' ⟨rfl, hb⟩
  exact ⟨_, rfl, decide_eq_true_iff, h.below hb⟩
set_option maxHeartbeats 8000000 in
set_option maxRecDepth 100000 in
theorem was_walk {W wc : World} {d g gx gw kl c11 cw q : Nat} {T1 : TD} {L : LG} {A11 Aw : Option Addr} {kp : List Int} {l : List ByteArray} {X : Obj} {R : List Thing} (hl : l.length ≤ 1000000)
    (h : HL W wc ([] ++ (d, T1.dev) :: []) (LT g d L :: .row (Kd.int .i64) 3 (.slice A11 kl c11) kp :: .box gx X :: WT gw (.slice Aw l.length cw) q :: ST (.slice Aw l.length cw) l :: R))
    (u0 u1 u2 u3 u4 u5 u6 u7 u8 u9 u11 u12 u13 u14 u15 u16 u17 u18 u19 u20 u21 u22 u23 u24 u25 u26 u27 u28 u29 u30 u31 u32 u33 u34 u35 u36 u37 u38 u39 u40 u41 u42 u43 u44 u45 u46 u47 u48 u49 u50 u51 u52 u53 u54 u55 u56 u57 u58 u59 u60 u61 u62 u63 u64 u65 u66 u67 u68 u69 u70 u71 u72 u73 u74 u75 u76 u77 u78 u79 u80 u81 u82 u83 u84 u85 u86 u87 u88 u89 u90 u91 u92 u93 u94 u95 u96 u97 u98 u99 u100 u101 u102 u103 u104 u105 u106 u107 u108 u109 u110 u111 u112 u113 u114 u115 u116 u117 u118 u119 u120 u121 u122 u123 u124 u125 u126 u127 u128 u129 u130 u131 u132 u133 u134 u135 u136 u137 u138 u139 u140 u141 u142 u143 u144 u145 u146 u147 u148 u149 u150 u151 u152 u153 u154 u155 u156 u157 u158 u159 u160 u161 u162 u163 u164 u165 u166 u167 u168 u169 u170 u171 u172 u173 u174 u175 u176 u177 u178 u179 u180 u181 u182 u183 u184 u185 u186 u187 u188 u189 u190 u191 u192 u193 u194 u195 u196 u197 u198 u199 u200 u201 u202 u203 u204 u205 u206 u207 u208 u209 u210 u211 u212 u213 u214 u215 u216 u217 u218 u219 u220 u221 u222 u223 u224 u225 u226 u227 u228 u229 u230 u231 u232 u233 u234 u235 u236 u237 u238 u239 u240 u241 u242 u243 u244 u245 u246 u247 u248 u249 u250 u251 u252 u253 u254 u255 u256 : Value) (Q : Exit → Act → World → Prop) (hP : ∀ c a n v w, Q (.panic c) (Act.put a (some n) v) w → Q (.panic c) a w)
    (hQ : ∀ (gz : Nat) (sz v94 v95 v96 v97 v98 v99 v100 : Value) (wx : World), HL W wx ([] ++ (d, T1.dev) :: []) (WT gz sz q :: ST sz l :: LT g d L :: .row (Kd.int .i64) 3 (.slice A11 kl c11) kp :: .box gx X :: WT gw (.slice Aw l.length cw) q :: ST (.slice Aw l.length cw) l :: R) → Q .normal { tmps := (u0 :: u1 :: u2 :: u3 :: u4 :: u5 :: u6 :: u7 :: u8 :: u9 :: .pointer (some ⟨gw, 0, none⟩) :: u11 :: u12 :: u13 :: u14 :: .pointer (some ⟨gz, 0, none⟩) :: u16 :: u17 :: u18 :: u19 :: u20 :: u21 :: u22 :: u23 :: u24 :: u25 :: u26 :: u27 :: u28 :: u29 :: u30 :: u31 :: u32 :: u33 :: u34 :: u35 :: u36 :: u37 :: u38 :: u39 :: u40 :: u41 :: u42 :: u43 :: u44 :: u45 :: u46 :: u47 :: u48 :: u49 :: u50 :: u51 :: u52 :: u53 :: u54 :: u55 :: u56 :: u57 :: u58 :: u59 :: u60 :: u61 :: u62 :: u63 :: u64 :: u65 :: u66 :: u67 :: u68 :: u69 :: u70 :: u71 :: u72 :: u73 :: u74 :: u75 :: u76 :: u77 :: u78 :: u79 :: u80 :: u81 :: u82 :: u83 :: u84 :: u85 :: u86 :: u87 :: u88 :: u89 :: u90 :: u91 :: u92 :: u93 :: v94 :: v95 :: v96 :: v97 :: v98 :: v99 :: v100 :: u101 :: u102 :: u103 :: u104 :: u105 :: u106 :: u107 :: u108 :: u109 :: u110 :: u111 :: u112 :: u113 :: u114 :: u115 :: u116 :: u117 :: u118 :: u119 :: u120 :: u121 :: u122 :: u123 :: u124 :: u125 :: u126 :: u127 :: u128 :: u129 :: u130 :: u131 :: u132 :: u133 :: u134 :: u135 :: u136 :: u137 :: u138 :: u139 :: u140 :: u141 :: u142 :: u143 :: u144 :: u145 :: u146 :: u147 :: u148 :: u149 :: u150 :: u151 :: u152 :: u153 :: u154 :: u155 :: u156 :: u157 :: u158 :: u159 :: u160 :: u161 :: u162 :: u163 :: u164 :: u165 :: u166 :: u167 :: u168 :: u169 :: u170 :: u171 :: u172 :: u173 :: u174 :: u175 :: u176 :: u177 :: u178 :: u179 :: u180 :: u181 :: u182 :: u183 :: u184 :: u185 :: u186 :: u187 :: u188 :: u189 :: u190 :: u191 :: u192 :: u193 :: u194 :: u195 :: u196 :: u197 :: u198 :: u199 :: u200 :: u201 :: u202 :: u203 :: u204 :: u205 :: u206 :: u207 :: u208 :: u209 :: u210 :: u211 :: u212 :: u213 :: u214 :: u215 :: u216 :: u217 :: u218 :: u219 :: u220 :: u221 :: u222 :: u223 :: u224 :: u225 :: u226 :: u227 :: u228 :: u229 :: u230 :: u231 :: u232 :: u233 :: u234 :: u235 :: u236 :: u237 :: u238 :: u239 :: u240 :: u241 :: u242 :: u243 :: u244 :: u245 :: u246 :: u247 :: u248 :: u249 :: u250 :: u251 :: u252 :: u253 :: u254 :: u255 :: u256 :: ([] : List Value)).toArray, defers := [] } wx) :
    Code.wp Tryd.prog (codeAt Tryd.f7 [1, 1, 1, 1, 1, 1, 1, 1, 0, 1, 4, 4, 1, 0, 4, 1, 1, 1, 1, 0]) Q { tmps := (u0 :: u1 :: u2 :: u3 :: u4 :: u5 :: u6 :: u7 :: u8 :: u9 :: .pointer (some ⟨gw, 0, none⟩) :: u11 :: u12 :: u13 :: u14 :: u15 :: u16 :: u17 :: u18 :: u19 :: u20 :: u21 :: u22 :: u23 :: u24 :: u25 :: u26 :: u27 :: u28 :: u29 :: u30 :: u31 :: u32 :: u33 :: u34 :: u35 :: u36 :: u37 :: u38 :: u39 :: u40 :: u41 :: u42 :: u43 :: u44 :: u45 :: u46 :: u47 :: u48 :: u49 :: u50 :: u51 :: u52 :: u53 :: u54 :: u55 :: u56 :: u57 :: u58 :: u59 :: u60 :: u61 :: u62 :: u63 :: u64 :: u65 :: u66 :: u67 :: u68 :: u69 :: u70 :: u71 :: u72 :: u73 :: u74 :: u75 :: u76 :: u77 :: u78 :: u79 :: u80 :: u81 :: u82 :: u83 :: u84 :: u85 :: u86 :: u87 :: u88 :: u89 :: u90 :: u91 :: u92 :: u93 :: u94 :: u95 :: u96 :: u97 :: u98 :: u99 :: u100 :: u101 :: u102 :: u103 :: u104 :: u105 :: u106 :: u107 :: u108 :: u109 :: u110 :: u111 :: u112 :: u113 :: u114 :: u115 :: u116 :: u117 :: u118 :: u119 :: u120 :: u121 :: u122 :: u123 :: u124 :: u125 :: u126 :: u127 :: u128 :: u129 :: u130 :: u131 :: u132 :: u133 :: u134 :: u135 :: u136 :: u137 :: u138 :: u139 :: u140 :: u141 :: u142 :: u143 :: u144 :: u145 :: u146 :: u147 :: u148 :: u149 :: u150 :: u151 :: u152 :: u153 :: u154 :: u155 :: u156 :: u157 :: u158 :: u159 :: u160 :: u161 :: u162 :: u163 :: u164 :: u165 :: u166 :: u167 :: u168 :: u169 :: u170 :: u171 :: u172 :: u173 :: u174 :: u175 :: u176 :: u177 :: u178 :: u179 :: u180 :: u181 :: u182 :: u183 :: u184 :: u185 :: u186 :: u187 :: u188 :: u189 :: u190 :: u191 :: u192 :: u193 :: u194 :: u195 :: u196 :: u197 :: u198 :: u199 :: u200 :: u201 :: u202 :: u203 :: u204 :: u205 :: u206 :: u207 :: u208 :: u209 :: u210 :: u211 :: u212 :: u213 :: u214 :: u215 :: u216 :: u217 :: u218 :: u219 :: u220 :: u221 :: u222 :: u223 :: u224 :: u225 :: u226 :: u227 :: u228 :: u229 :: u230 :: u231 :: u232 :: u233 :: u234 :: u235 :: u236 :: u237 :: u238 :: u239 :: u240 :: u241 :: u242 :: u243 :: u244 :: u245 :: u246 :: u247 :: u248 :: u249 :: u250 :: u251 :: u252 :: u253 :: u254 :: u255 :: u256 :: ([] : List Value)).toArray, defers := [] } wc := by
  have HO := Aside0.mk h
  have HLN : Aside0 ((([] : List ByteArray).length + l.length) * 16 ≤ 140737488355328) := ⟨by rw [List.length_nil]; omega⟩
  clear h hl
  conv in (codeAt _ _) => whnf
  have HOd := Aside0.mk (HO.out.below (below_drew (Below.refl _ _)))
  clear HO
  have HO := HOd
  clear HOd
  refine start_ (n := 9) (S := fun w' => w'.cell? ⟨gw, 0, none⟩ = some (.slice Aw l.length cw) ∧ w'.cell? ⟨gw, 1, none⟩ = some (.int .i64 q)) (ds := [8]) #[false, false, false, false, false, false, false, false, false] (by kernel_rfl) rfl rfl ⟨(HO.out.cell 3 rfl 0).trans rfl, (HO.out.cell 3 rfl 1).trans rfl⟩ (fun hHeld => ?_)
  refine with_tabW ws_tab ws_bits (fun HT_ HW_ => ?_)
  generalize World.drew _ = W0 at HO hHeld ⊢
  refine pure_ (i := 1) (N := some 95) (v := ?_) (a' := ?_) #[false, true, false, false, false, false, false, false, false] rfl rfl (any_of HT_.out (by kernel_rfl)) (fun _ _ _ h => hP _ _ _ _ _ h) (Or.inl ⟨by rfl, ?_⟩) ?_ ?_
  rotate_left
  · intro w'
    go_simp
    with_reducible rfl
  rotate_left
  · simp only [Act.put, List.setIfInBounds_toArray, List.set_cons_zero, List.set_cons_succ, i64_w, i32_w]
    rfl
  refine take_ (i := 2) (N := some 96) (v := ?_) (a' := ?_) #[false, true, true, false, false, false, false, false, false] rfl rfl (take_ofW HT_.out HW_.out (by kernel_rfl)) (fun _ _ _ h => hP _ _ _ _ _ h) (Or.inl ⟨by rfl, ?_⟩) hHeld ?_ ?_
  rotate_left
  · rintro w' ⟨s0, s1⟩
    go_simp
    with_reducible rfl
  rotate_left
  · simp only [Act.put, List.setIfInBounds_toArray, List.set_cons_zero, List.set_cons_succ, i64_w, i32_w]
    rfl
  refine pure_ (i := 4) (N := some 98) (v := ?_) (a' := ?_) #[false, true, true, false, true, false, false, false, false] rfl rfl (any_of HT_.out (by kernel_rfl)) (fun _ _ _ h => hP _ _ _ _ _ h) (Or.inl ⟨by rfl, ?_⟩) ?_ ?_
  rotate_left
  · intro w'
    go_simp
    with_reducible rfl
  rotate_left
  · simp only [Act.put, List.setIfInBounds_toArray, List.set_cons_zero, List.set_cons_succ, i64_w, i32_w]
    rfl
  refine take_ (i := 5) (N := some 99) (v := ?_) (a' := ?_) #[false, true, true, false, true, true, false, false, false] rfl rfl (take_ofW HT_.out HW_.out (by kernel_rfl)) (fun _ _ _ h => hP _ _ _ _ _ h) (Or.inl ⟨by rfl, ?_⟩) hHeld ?_ ?_
  rotate_left
  · rintro w' ⟨s0, s1⟩
    go_simp
    with_reducible rfl
  rotate_left
  · simp only [Act.put, List.setIfInBounds_toArray, List.set_cons_zero, List.set_cons_succ, i64_w, i32_w]
    rfl
  refine two_ (i := 0) (j := 7) (Ni := some 94) (Nj := some 15) #[true, true, true, false, true, true, false, false, false] #[false, true, true, false, true, true, false, true, false] rfl rfl rfl rfl (two_of HT_.out (by kernel_rfl)) (by decide) (by decide) (fun K hK => ?_) (fun K hK => ?_)
  · skip
    refine value_ (v := .slice (some ⟨W0.heap.size, 0, none⟩) 0 0) (w1 := W0.alloc (.cells #[] 9)) (by rfl) rfl (by first | (go_simp; done) | (go_simp; rfl) | rfl) ?_
    have HO1 := Aside0.mk (HO.out.lit [] (Nat.zero_le _))
    replace HO1 : Aside0 (HL _ (W0.alloc (.cells #[] 9)) _ (.row Kd.string 9 (.slice (some ⟨W0.heap.size, 0, none⟩) 0 0) [] :: _)) := HO1
    generalize W0.alloc (.cells #[] 9) = W1 at HO1 ⊢
    generalize W0.heap.size = b_ at HO1 ⊢
    clear HO
    have HO := HO1
    clear HO1
    refine hK.out _ _ ⟨(HO.out.cell 4 rfl 0).trans rfl, (HO.out.cell 4 rfl 1).trans rfl⟩ (fun hHeld => ?_)
    clear hK K
    refine norm_ (a' := ?_) ?_ ?_
    rotate_left
    · show Act.put _ (some 94) _ = _
      simp only [Act.put, List.setIfInBounds_toArray, List.set_cons_zero, List.set_cons_succ, i64_w, i32_w]
      rfl
    refine two_ (i := 3) (j := 7) (Ni := some 97) (Nj := some 15) #[true, true, true, true, true, true, false, false, false] #[true, true, true, false, true, true, false, true, false] rfl rfl rfl rfl (two_of HT_.out (by kernel_rfl)) (by decide) (by decide) (fun K hK => ?_) (fun K hK => ?_)
    · skip
      refine HL.copy_step Kd.string flatS HO.out 0 5 (by decide) 9 rfl rfl (by rfl) (.tmp 94) (.tmp 96) 29 (.string ⟨#[]⟩) 16 rfl Tryd.underlying29 infoStr rfl (by decide) (by decide) rfl rfl HLN.out ?_
      intro vc wc_ ho_
      have HO1 := Aside0.mk ho_
      clear ho_
      clear HO
      have HO := HO1
      clear HO1
      obtain ⟨Ac, cc, ec, -, -⟩ := HO.out.row 0 rfl
      subst ec
      refine hK.out _ _ ⟨(HO.out.cell 4 rfl 0).trans rfl, (HO.out.cell 4 rfl 1).trans rfl⟩ (fun hHeld => ?_)
      clear hK K
      refine norm_ (a' := ?_) ?_ ?_
      rotate_left
      · show Act.put _ (some 97) _ = _
        simp only [Act.put, List.setIfInBounds_toArray, List.set_cons_zero, List.set_cons_succ, i64_w, i32_w]
        rfl
      refine pure_ (i := 6) (N := some 100) (v := ?_) (a' := ?_) #[true, true, true, true, true, true, true, false, false] rfl rfl (any_of HT_.out (by kernel_rfl)) (fun _ _ _ h => hP _ _ _ _ _ h) (Or.inl ⟨by rfl, ?_⟩) ?_ ?_
      rotate_left
      · intro w'
        go_simp
        with_reducible rfl
      rotate_left
      · simp only [Act.put, List.setIfInBounds_toArray, List.set_cons_zero, List.set_cons_succ, i64_w, i32_w]
        rfl
      refine one_ (i := 7) (N := some 15) #[true, true, true, true, true, true, true, true, false] rfl rfl (one_of HT_.out (by kernel_rfl)) (by decide) (fun K hK => ?_)
      refine value_ (v := .pointer (some ⟨wc_.heap.size, 0, none⟩)) (w1 := wc_.alloc (.cells #[.slice none 0 0, .int .i64 0] 50)) (by rfl) rfl (by first | (go_simp; done) | (go_simp; rfl) | rfl) ?_
      have HO1 := Aside0.mk (HO.out.alloc (.cells #[.slice none 0 0, .int .i64 0] 50))
      generalize wc_.alloc (.cells #[.slice none 0 0, .int .i64 0] 50) = W2 at HO1 ⊢
      generalize wc_.heap.size = gz at HO1 ⊢
      clear HO
      have HO := HO1
      clear HO1
      refine hK.out _ _ ⟨(HO.out.cell 5 rfl 0).trans rfl, (HO.out.cell 5 rfl 1).trans rfl⟩ (fun hHeld => ?_)
      clear hK K
      refine norm_ (a' := ?_) ?_ ?_
      rotate_left
      · show Act.put _ (some 15) _ = _
        simp only [Act.put, List.setIfInBounds_toArray, List.set_cons_zero, List.set_cons_succ, i64_w, i32_w]
        rfl
      refine last_ (i := 8) (N := none) #[true, true, true, true, true, true, true, true, true] rfl rfl (one_of HT_.out (by kernel_rfl)) (by decide) (fun K hK => ?_)
      refine HL.put_step HO.out 0 rfl (by rfl) rfl 50 (.tmp 15) (.tmp 100) rfl #[_, .int .i64 q] rfl rfl size_RLog rfl (by simp [Value.oneCell']) ?_
      intro wf hf_
      refine hK.out _ _ ?_
      clear hK K
      refine done_ (done_of HT_.out (by kernel_rfl)) ?_
      have HO1 := Aside0.mk hf_
      clear hf_
      clear HO
      have HO := HO1
      clear HO1
      go_wp2_with fail
      exact hQ _ _ _ _ _ _ _ _ _ _ HO.out
    · skip
      refine value_ (v := .pointer (some ⟨W1.heap.size, 0, none⟩)) (w1 := W1.alloc (.cells #[.slice none 0 0, .int .i64 0] 50)) (by rfl) rfl (by first | (go_simp; done) | (go_simp; rfl) | rfl) ?_
      have HO1 := Aside0.mk (HO.out.alloc (.cells #[.slice none 0 0, .int .i64 0] 50))
      generalize W1.alloc (.cells #[.slice none 0 0, .int .i64 0] 50) = W2 at HO1 ⊢
      generalize W1.heap.size = gz at HO1 ⊢
      clear HO
      have HO := HO1
      clear HO1
      refine hK.out _ _ ⟨(HO.out.cell 5 rfl 0).trans rfl, (HO.out.cell 5 rfl 1).trans rfl⟩ (fun hHeld => ?_)
      clear hK K
      refine norm_ (a' := ?_) ?_ ?_
      rotate_left
      · show Act.put _ (some 15) _ = _
        simp only [Act.put, List.setIfInBounds_toArray, List.set_cons_zero, List.set_cons_succ, i64_w, i32_w]
        rfl
      refine one_ (i := 3) (N := some 97) #[true, true, true, true, true, true, false, true, false] rfl rfl (one_of HT_.out (by kernel_rfl)) (by decide) (fun K hK => ?_)
      refine HL.copy_step Kd.string flatS HO.out 1 6 (by decide) 9 rfl rfl (by rfl) (.tmp 94) (.tmp 96) 29 (.string ⟨#[]⟩) 16 rfl Tryd.underlying29 infoStr rfl (by decide) (by decide) rfl rfl HLN.out ?_
      intro vc wc_ ho_
      have HO1 := Aside0.mk ho_
      clear ho_
      clear HO
      have HO := HO1
      clear HO1
      obtain ⟨Ac, cc, ec, -, -⟩ := HO.out.row 1 rfl
      subst ec
      refine hK.out _ _ ⟨(HO.out.cell 5 rfl 0).trans rfl, (HO.out.cell 5 rfl 1).trans rfl⟩ (fun hHeld => ?_)
      clear hK K
      refine norm_ (a' := ?_) ?_ ?_
      rotate_left
      · show Act.put _ (some 97) _ = _
        simp only [Act.put, List.setIfInBounds_toArray, List.set_cons_zero, List.set_cons_succ, i64_w, i32_w]
        rfl
      refine pure_ (i := 6) (N := some 100) (v := ?_) (a' := ?_) #[true, true, true, true, true, true, true, true, false] rfl rfl (any_of HT_.out (by kernel_rfl)) (fun _ _ _ h => hP _ _ _ _ _ h) (Or.inl ⟨by rfl, ?_⟩) ?_ ?_
      rotate_left
      · intro w'
        go_simp
        with_reducible rfl
      rotate_left
      · simp only [Act.put, List.setIfInBounds_toArray, List.set_cons_zero, List.set_cons_succ, i64_w, i32_w]
        rfl
      refine last_ (i := 8) (N := none) #[true, true, true, true, true, true, true, true, true] rfl rfl (one_of HT_.out (by kernel_rfl)) (by decide) (fun K hK => ?_)
      refine HL.put_step HO.out 0 rfl (by rfl) rfl 50 (.tmp 15) (.tmp 100) rfl #[_, .int .i64 q] rfl rfl size_RLog rfl (by simp [Value.oneCell']) ?_
      intro wf hf_
      refine hK.out _ _ ?_
      clear hK K
      refine done_ (done_of HT_.out (by kernel_rfl)) ?_
      have HO1 := Aside0.mk hf_
      clear hf_
      clear HO
      have HO := HO1
      clear HO1
      go_wp2_with fail
      exact hQ _ _ _ _ _ _ _ _ _ _ HO.out
  · skip
    refine value_ (v := .pointer (some ⟨W0.heap.size, 0, none⟩)) (w1 := W0.alloc (.cells #[.slice none 0 0, .int .i64 0] 50)) (by rfl) rfl (by first | (go_simp; done) | (go_simp; rfl) | rfl) ?_
    have HO1 := Aside0.mk (HO.out.alloc (.cells #[.slice none 0 0, .int .i64 0] 50))
    generalize W0.alloc (.cells #[.slice none 0 0, .int .i64 0] 50) = W1 at HO1 ⊢
    generalize W0.heap.size = gz at HO1 ⊢
    clear HO
    have HO := HO1
    clear HO1
    refine hK.out _ _ ⟨(HO.out.cell 4 rfl 0).trans rfl, (HO.out.cell 4 rfl 1).trans rfl⟩ (fun hHeld => ?_)
    clear hK K
    refine norm_ (a' := ?_) ?_ ?_
    rotate_left
    · show Act.put _ (some 15) _ = _
      simp only [Act.put, List.setIfInBounds_toArray, List.set_cons_zero, List.set_cons_succ, i64_w, i32_w]
      rfl
    refine one_ (i := 0) (N := some 94) #[true, true, true, false, true, true, false, true, false] rfl rfl (one_of HT_.out (by kernel_rfl)) (by decide) (fun K hK => ?_)
    refine value_ (v := .slice (some ⟨W1.heap.size, 0, none⟩) 0 0) (w1 := W1.alloc (.cells #[] 9)) (by rfl) rfl (by first | (go_simp; done) | (go_simp; rfl) | rfl) ?_
    have HO1 := Aside0.mk (HO.out.lit [] (Nat.zero_le _))
    replace HO1 : Aside0 (HL _ (W1.alloc (.cells #[] 9)) _ (.row Kd.string 9 (.slice (some ⟨W1.heap.size, 0, none⟩) 0 0) [] :: _)) := HO1
    generalize W1.alloc (.cells #[] 9) = W2 at HO1 ⊢
    generalize W1.heap.size = b_ at HO1 ⊢
    clear HO
    have HO := HO1
    clear HO1
    refine hK.out _ _ ⟨(HO.out.cell 5 rfl 0).trans rfl, (HO.out.cell 5 rfl 1).trans rfl⟩ (fun hHeld => ?_)
    clear hK K
    refine norm_ (a' := ?_) ?_ ?_
    rotate_left
    · show Act.put _ (some 94) _ = _
      simp only [Act.put, List.setIfInBounds_toArray, List.set_cons_zero, List.set_cons_succ, i64_w, i32_w]
      rfl
    refine one_ (i := 3) (N := some 97) #[true, true, true, true, true, true, false, true, false] rfl rfl (one_of HT_.out (by kernel_rfl)) (by decide) (fun K hK => ?_)
    refine HL.copy_step Kd.string flatS HO.out 0 6 (by decide) 9 rfl rfl (by rfl) (.tmp 94) (.tmp 96) 29 (.string ⟨#[]⟩) 16 rfl Tryd.underlying29 infoStr rfl (by decide) (by decide) rfl rfl HLN.out ?_
    intro vc wc_ ho_
    have HO1 := Aside0.mk ho_
    clear ho_
    clear HO
    have HO := HO1
    clear HO1
    obtain ⟨Ac, cc, ec, -, -⟩ := HO.out.row 0 rfl
    subst ec
    refine hK.out _ _ ⟨(HO.out.cell 5 rfl 0).trans rfl, (HO.out.cell 5 rfl 1).trans rfl⟩ (fun hHeld => ?_)
    clear hK K
    refine norm_ (a' := ?_) ?_ ?_
    rotate_left
    · show Act.put _ (some 97) _ = _
      simp only [Act.put, List.setIfInBounds_toArray, List.set_cons_zero, List.set_cons_succ, i64_w, i32_w]
      rfl
    refine pure_ (i := 6) (N := some 100) (v := ?_) (a' := ?_) #[true, true, true, true, true, true, true, true, false] rfl rfl (any_of HT_.out (by kernel_rfl)) (fun _ _ _ h => hP _ _ _ _ _ h) (Or.inl ⟨by rfl, ?_⟩) ?_ ?_
    rotate_left
    · intro w'
      go_simp
      with_reducible rfl
    rotate_left
    · simp only [Act.put, List.setIfInBounds_toArray, List.set_cons_zero, List.set_cons_succ, i64_w, i32_w]
      rfl
    refine last_ (i := 8) (N := none) #[true, true, true, true, true, true, true, true, true] rfl rfl (one_of HT_.out (by kernel_rfl)) (by decide) (fun K hK => ?_)
    refine HL.put_step HO.out 1 rfl (by rfl) rfl 50 (.tmp 15) (.tmp 100) rfl #[_, .int .i64 q] rfl rfl size_RLog rfl (by simp [Value.oneCell']) ?_
    intro wf hf_
    refine hK.out _ _ ?_
    clear hK K
    refine done_ (done_of HT_.out (by kernel_rfl)) ?_
    have HO1 := Aside0.mk (HL.swap hf_)
    clear hf_
    clear HO
    have HO := HO1
    clear HO1
    go_wp2_with fail
    exact hQ _ _ _ _ _ _ _ _ _ _ HO.out
set_option maxHeartbeats 8000000 in
set_option maxRecDepth 100000 in
theorem act_walk {W wc : World} (hT : Tab W) {d g gx gw gz c11 cw q hf k : Nat} {sz : Value} {T1 : TD} {L : LG} {A11 Aw B : Option Addr} {cb n0 : Nat} {kp : List Int} {l : List ByteArray} {R : List Thing} {x0 x2 v : Int} {x1 t : ByteArray}
    (hk2 : k < 30) (h1 : 1 ≤ hf) (h2 : hf ≤ 8) (hll : l.length ≤ k + 1) (hq : 1 ≤ q) (hE : L.epoch ≤ 2 + 2 * (k : Int)) (hu : InUse T1 L 1 hf l q) (hsz : 2 ≤ t.size ∧ t.size ≤ 401) (hrt : Right t)
    (h : HL W wc ([] ++ (d, TD.dev T1) :: []) (LT g d L :: WT gz sz q :: ST sz l :: .row (Kd.int .i64) 3 (.slice A11 kp.length c11) kp :: .box gx (.cells #[.int .i64 x0, .string x1, .int .i64 x2, .slice B n0 cb] 46 (0, 0)) :: WT gw (.slice Aw l.length cw) q :: ST (.slice Aw l.length cw) l :: R))
    (u0 u2 u3 u4 u6 u8 u9 u12 u15 u17 u18 u19 u20 u21 u22 u23 u24 u25 u26 u27 u28 u29 u30 u31 u32 u33 u34 u35 u36 u37 u38 u39 u40 u41 u42 u43 u44 u45 u46 u47 u48 u49 u50 u51 u52 u53 u54 u55 u56 u57 u58 u59 u60 u61 u62 u63 u64 u65 u66 u67 u68 u69 u70 u71 u72 u73 u74 u75 u76 u77 u78 u79 u80 u81 u82 u83 u84 u85 u86 u87 u88 u89 u90 u91 u92 u93 u94 u95 u96 u97 u98 u99 u100 u101 u102 u103 u104 u106 u107 u108 u109 u110 u111 u112 u113 u114 u115 u116 u117 u118 u119 u120 u121 u122 u123 u124 u125 u126 u127 u128 u129 u130 u131 u132 u133 u134 u135 u136 u137 u138 u139 u140 u141 u142 u143 u144 u145 u146 u147 u148 u149 u150 u151 u152 u153 u154 u155 u156 u157 u158 u159 u160 u161 u162 u163 u164 u165 u166 u167 u168 u169 u170 u171 u172 u173 u174 u175 u176 u177 u178 u179 u180 u181 u182 u183 u184 u185 u186 u187 u188 u189 u190 u191 u192 u193 u194 u195 u196 u197 u198 u199 u200 u201 u202 u203 u204 u205 u206 u207 u208 u209 u210 u211 u212 u213 u214 u215 u216 u217 u218 u219 u220 u221 u222 u223 u224 u225 u226 u227 u228 u229 u230 u231 u232 u233 u234 u235 u236 u237 u238 u239 u240 u241 u242 u243 u244 u245 u246 u247 u248 u249 u250 u251 u252 u253 u254 u255 u256 : Value) (Q : Exit → Act → World → Prop)
    (hQ : ∀ (v4 v16 v17 v18 v19 v20 v106 v107 v108 v109 v110 v111 v112 v113 v114 v115 v116 v117 v118 v119 v120 v121 v122 v123 v124 v125 v126 v127 v128 v129 v130 v131 v132 v133 v134 v135 v136 v137 v138 v139 v140 v141 v142 v143 v144 v145 v146 v147 v148 v149 v150 v151 v152 v153 v154 v155 v156 v157 v158 v159 v160 v161 v162 v163 v164 v165 v166 v167 v168 v169 v170 v171 v172 v173 v174 v175 v176 v177 v178 v179 v180 v181 v182 v183 v184 v185 v186 v187 v188 v189 v190 v191 v192 v193 v194 v195 v196 v197 v198 v199 v200 v201 v202 : Value) (wx : World), ActM W wx d g gw gz hf k q sz l v16 R → Q .normal { tmps := (u0 :: .int .i64 hf :: u2 :: u3 :: v4 :: .pointer (some ⟨d, 0, none⟩) :: u6 :: .pointer (some ⟨g, 0, none⟩) :: u8 :: u9 :: .pointer (some ⟨gw, 0, none⟩) :: .int .i64 k :: u12 :: .string t :: .slice A11 kp.length c11 :: u15 :: v16 :: v17 :: v18 :: v19 :: v20 :: u21 :: u22 :: u23 :: u24 :: u25 :: u26 :: u27 :: u28 :: u29 :: u30 :: u31 :: u32 :: u33 :: u34 :: u35 :: u36 :: u37 :: u38 :: u39 :: u40 :: u41 :: u42 :: u43 :: u44 :: u45 :: u46 :: u47 :: u48 :: u49 :: u50 :: u51 :: u52 :: u53 :: u54 :: u55 :: u56 :: u57 :: u58 :: u59 :: u60 :: u61 :: u62 :: u63 :: u64 :: u65 :: u66 :: u67 :: u68 :: u69 :: u70 :: u71 :: u72 :: u73 :: u74 :: u75 :: u76 :: u77 :: u78 :: u79 :: u80 :: u81 :: u82 :: u83 :: u84 :: u85 :: u86 :: u87 :: u88 :: u89 :: u90 :: u91 :: u92 :: u93 :: u94 :: u95 :: u96 :: u97 :: u98 :: u99 :: u100 :: u101 :: u102 :: u103 :: u104 :: .int .i64 v :: v106 :: v107 :: v108 :: v109 :: v110 :: v111 :: v112 :: v113 :: v114 :: v115 :: v116 :: v117 :: v118 :: v119 :: v120 :: v121 :: v122 :: v123 :: v124 :: v125 :: v126 :: v127 :: v128 :: v129 :: v130 :: v131 :: v132 :: v133 :: v134 :: v135 :: v136 :: v137 :: v138 :: v139 :: v140 :: v141 :: v142 :: v143 :: v144 :: v145 :: v146 :: v147 :: v148 :: v149 :: v150 :: v151 :: v152 :: v153 :: v154 :: v155 :: v156 :: v157 :: v158 :: v159 :: v160 :: v161 :: v162 :: v163 :: v164 :: v165 :: v166 :: v167 :: v168 :: v169 :: v170 :: v171 :: v172 :: v173 :: v174 :: v175 :: v176 :: v177 :: v178 :: v179 :: v180 :: v181 :: v182 :: v183 :: v184 :: v185 :: v186 :: v187 :: v188 :: v189 :: v190 :: v191 :: v192 :: v193 :: v194 :: v195 :: v196 :: v197 :: v198 :: v199 :: v200 :: v201 :: v202 :: u203 :: u204 :: u205 :: u206 :: u207 :: u208 :: u209 :: u210 :: u211 :: u212 :: u213 :: u214 :: u215 :: u216 :: u217 :: u218 :: u219 :: u220 :: u221 :: u222 :: u223 :: u224 :: u225 :: u226 :: u227 :: u228 :: u229 :: u230 :: u231 :: u232 :: u233 :: u234 :: u235 :: u236 :: u237 :: u238 :: u239 :: u240 :: u241 :: u242 :: u243 :: u244 :: u245 :: u246 :: u247 :: u248 :: u249 :: u250 :: u251 :: u252 :: u253 :: u254 :: u255 :: u256 :: ([] : List Value)).toArray, defers := [] } wx) :
    Code.wp Tryd.prog (codeAt Tryd.f7 [1, 1, 1, 1, 1, 1, 1, 1, 0, 1, 4, 4, 1, 0, 4, 1, 1, 1, 1, 1, 1, 0, 1]) Q { tmps := (u0 :: .int .i64 hf :: u2 :: u3 :: u4 :: .pointer (some ⟨d, 0, none⟩) :: u6 :: .pointer (some ⟨g, 0, none⟩) :: u8 :: u9 :: .pointer (some ⟨gw, 0, none⟩) :: .int .i64 k :: u12 :: .string t :: .slice A11 kp.length c11 :: u15 :: .slice none 0 0 :: u17 :: u18 :: u19 :: u20 :: u21 :: u22 :: u23 :: u24 :: u25 :: u26 :: u27 :: u28 :: u29 :: u30 :: u31 :: u32 :: u33 :: u34 :: u35 :: u36 :: u37 :: u38 :: u39 :: u40 :: u41 :: u42 :: u43 :: u44 :: u45 :: u46 :: u47 :: u48 :: u49 :: u50 :: u51 :: u52 :: u53 :: u54 :: u55 :: u56 :: u57 :: u58 :: u59 :: u60 :: u61 :: u62 :: u63 :: u64 :: u65 :: u66 :: u67 :: u68 :: u69 :: u70 :: u71 :: u72 :: u73 :: u74 :: u75 :: u76 :: u77 :: u78 :: u79 :: u80 :: u81 :: u82 :: u83 :: u84 :: u85 :: u86 :: u87 :: u88 :: u89 :: u90 :: u91 :: u92 :: u93 :: u94 :: u95 :: u96 :: u97 :: u98 :: u99 :: u100 :: u101 :: u102 :: u103 :: u104 :: .int .i64 v :: u106 :: u107 :: u108 :: u109 :: u110 :: u111 :: u112 :: u113 :: u114 :: u115 :: u116 :: u117 :: u118 :: u119 :: u120 :: u121 :: u122 :: u123 :: u124 :: u125 :: u126 :: u127 :: u128 :: u129 :: u130 :: u131 :: u132 :: u133 :: u134 :: u135 :: u136 :: u137 :: u138 :: u139 :: u140 :: u141 :: u142 :: u143 :: u144 :: u145 :: u146 :: u147 :: u148 :: u149 :: u150 :: u151 :: u152 :: u153 :: u154 :: u155 :: u156 :: u157 :: u158 :: u159 :: u160 :: u161 :: u162 :: u163 :: u164 :: u165 :: u166 :: u167 :: u168 :: u169 :: u170 :: u171 :: u172 :: u173 :: u174 :: u175 :: u176 :: u177 :: u178 :: u179 :: u180 :: u181 :: u182 :: u183 :: u184 :: u185 :: u186 :: u187 :: u188 :: u189 :: u190 :: u191 :: u192 :: u193 :: u194 :: u195 :: u196 :: u197 :: u198 :: u199 :: u200 :: u201 :: u202 :: u203 :: u204 :: u205 :: u206 :: u207 :: u208 :: u209 :: u210 :: u211 :: u212 :: u213 :: u214 :: u215 :: u216 :: u217 :: u218 :: u219 :: u220 :: u221 :: u222 :: u223 :: u224 :: u225 :: u226 :: u227 :: u228 :: u229 :: u230 :: u231 :: u232 :: u233 :: u234 :: u235 :: u236 :: u237 :: u238 :: u239 :: u240 :: u241 :: u242 :: u243 :: u244 :: u245 :: u246 :: u247 :: u248 :: u249 :: u250 :: u251 :: u252 :: u253 :: u254 :: u255 :: u256 :: ([] : List Value)).toArray, defers := [] } wc := by
  have HT := Aside0.mk hT
  have HC2 := Aside0.mk h
  have HU1 := Aside0.mk hu
  have HE := Aside0.mk hE
  have HQ := Aside0.mk hq
  have HL1 := Aside0.mk hll
  have HQQ := Aside0.mk hQ
  clear hT h hu hE hq hll hQ
  conv in (codeAt _ _) => whnf
  have hG6 := pl_g0 hk2
  have hll := HL1.out
  by_cases h45 : v = 4 ∨ v = 5
  · skip
    have HFL := Aside0.mk (flush_any HC2.out HU1.out HQ.out HE.out hG6 HT.out)
    rcases h45 with rfl | rfl
    all_goals (
      go_upto_region 31 with (go_at_call 14; refine HFL.out.mono ?_; rintro e w13 ⟨ev, rfl, T7, L7, h7, hor⟩; have H13 := Aside0.mk h7; have HOR := Aside0.mk hor; clear h7 hor HFL HC2)
      rcases HOR.out with ⟨rfl, hu7, hE7⟩ | ⟨rfl, ho7, told, hk7, hm7⟩
      · have cw0 : w13.cell? ⟨gw, 0, none⟩ = some (.slice Aw l.length cw) := H13.out.cell 5 rfl 0
        have cw1 : w13.cell? ⟨gw, 1, none⟩ = some (.int .i64 q) := H13.out.cell 5 rfl 1
        have fw1 : w13.frozen? ⟨gw, 1, none⟩ = false := H13.out.frozen 5 rfl 1
        have H14 := Aside0.mk (H13.out.store 5 rfl 1 (.int .i64 (l.length : Nat)) (cs' := #[.slice Aw l.length cw, .int .i64 (l.length : Nat)]) rfl)
        have HX := Aside0.mk (And.intro hu7 hE7)
        clear hu7 hE7 HOR
        go_wp2_with fail
        exact HQQ.out _ _ _ _ _ _ _ _ _ _ _ _ _ _ _ _ _ _ _ _ _ _ _ _ _ _ _ _ _ _ _ _ _ _ _ _ _ _ _ _ _ _ _ _ _ _ _ _ _ _ _ _ _ _ _ _ _ _ _ _ _ _ _ _ _ _ _ _ _ _ _ _ _ _ _ _ _ _ _ _ _ _ _ _ _ _ _ _ _ _ _ _ _ _ _ _ _ _ _ _ _ _ _ _ ⟨T7, L7, l, l.length, _, [], (H14.out.arrange.nilrow Kd.string 9).front 1 rfl, .inl ⟨HX.out.1.on, HX.out.1, by have := HX.out.2; omega⟩, Nat.le_trans HQ.out HU1.out.qle, by omega, Nat.zero_le _⟩
      · have HX := Aside0.mk (And.intro ho7 (And.intro hk7 hm7))
        clear ho7 hk7 hm7 HOR
        go_wp2_with fail
        exact HQQ.out _ _ _ _ _ _ _ _ _ _ _ _ _ _ _ _ _ _ _ _ _ _ _ _ _ _ _ _ _ _ _ _ _ _ _ _ _ _ _ _ _ _ _ _ _ _ _ _ _ _ _ _ _ _ _ _ _ _ _ _ _ _ _ _ _ _ _ _ _ _ _ _ _ _ _ _ _ _ _ _ _ _ _ _ _ _ _ _ _ _ _ _ _ _ _ _ _ _ _ _ _ _ _ _ ⟨T7, L7, l, q, _, [], (H13.out.arrange.nilrow Kd.string 9).front 1 rfl, .inr ⟨HX.out.1, told, HX.out.2.1.mono (by omega), .inl HX.out.2.2⟩, HQ.out, by omega, Nat.zero_le _⟩)
  · by_cases h6 : v = 6
    · subst h6
      by_cases hlong : hf * 242 < t.size + 2
      · have hi : (hf : Int) * 242 < (t.size : Int) + 2 := by omega
        have HSW := Aside0.mk (switch_long HC2.out HU1.out HE.out hG6 (k : Int) t hrt (by omega) hlong HT.out)
        clear hlong
        go_wp2_with (go_at_call 12; refine HSW.out.mono ?_; rintro e w13 ⟨rfl, h13⟩; have H13 := Aside0.mk h13; clear h13 HSW HC2)
        exact HQQ.out _ _ _ _ _ _ _ _ _ _ _ _ _ _ _ _ _ _ _ _ _ _ _ _ _ _ _ _ _ _ _ _ _ _ _ _ _ _ _ _ _ _ _ _ _ _ _ _ _ _ _ _ _ _ _ _ _ _ _ _ _ _ _ _ _ _ _ _ _ _ _ _ _ _ _ _ _ _ _ _ _ _ _ _ _ _ _ _ _ _ _ _ _ _ _ _ _ _ _ _ _ _ _ _ ⟨T1, L, l, q, _, [], (H13.out.arrange.nilrow Kd.string 9).front 1 rfl, .inl ⟨HU1.out.on, HU1.out, by have := HE.out; omega⟩, HQ.out, by omega, Nat.zero_le _⟩
      · have hi : ¬ (hf : Int) * 242 < (t.size : Int) + 2 := by omega
        have HSW := Aside0.mk (switch_any HC2.out HU1.out HQ.out HE.out hG6 (k : Int) t hrt (by omega) (by omega) HT.out)
        clear hlong
        go_upto_region 37 with (go_at_call 12; refine HSW.out.mono ?_; rintro e w13 ⟨ev, rfl, T7, L7, h7, hor⟩; have H13 := Aside0.mk h7; have HOR := Aside0.mk hor; clear h7 hor HSW HC2)
        rcases HOR.out with ⟨rfl, hu7, hE7⟩ | ⟨rfl, ho7, told, hk7, hm7⟩
        · have HX := Aside0.mk (And.intro hu7 hE7)
          clear hu7 hE7 HOR
          go_upto_region 44 with (refine gate_ (.store 50 (.tmp 10) (.tmp 193)) rfl ?_; refine Aside0.out ?_)
          refine ⟨?_⟩
          have h14 := H13.out.lit [t] (one_len t)
          refine h14.store_all 6 rfl rfl rfl 50 (.tmp 10) (.tmp 193) rfl #[.slice (some ⟨w13.heap.size, 0, none⟩) 1 1, .int .i64 1] rfl rfl size_RLog rfl (by simp [Value.oneCell']) ?_
          intro w14 h15
          have H16 := Aside0.mk (h15.lit [t] (one_len t))
          clear h14 h15 H13
          go_wp2_with fail
          exact HQQ.out _ _ _ _ _ _ _ _ _ _ _ _ _ _ _ _ _ _ _ _ _ _ _ _ _ _ _ _ _ _ _ _ _ _ _ _ _ _ _ _ _ _ _ _ _ _ _ _ _ _ _ _ _ _ _ _ _ _ _ _ _ _ _ _ _ _ _ _ _ _ _ _ _ _ _ _ _ _ _ _ _ _ _ _ _ _ _ _ _ _ _ _ _ _ _ _ _ _ _ _ _ _ _ _ ⟨T7, L7, [t], 1, _, [t], ((((((H16.out.front 8 rfl).drop1.front 6 rfl).drop1.front 5 rfl).drop1.front 1 rfl).front 5 rfl).front 2 rfl).front 3 rfl, .inl ⟨HX.out.1.on, HX.out.1, by have := HX.out.2; omega⟩, Nat.le_refl _, by show 1 ≤ _; omega, Nat.le_refl 1⟩
        · have HX := Aside0.mk (And.intro ho7 (And.intro hk7 hm7))
          have H16 := Aside0.mk (H13.out.lit [t] (one_len t))
          clear ho7 hk7 hm7 HOR H13
          go_wp2_with fail
          exact HQQ.out _ _ _ _ _ _ _ _ _ _ _ _ _ _ _ _ _ _ _ _ _ _ _ _ _ _ _ _ _ _ _ _ _ _ _ _ _ _ _ _ _ _ _ _ _ _ _ _ _ _ _ _ _ _ _ _ _ _ _ _ _ _ _ _ _ _ _ _ _ _ _ _ _ _ _ _ _ _ _ _ _ _ _ _ _ _ _ _ _ _ _ _ _ _ _ _ _ _ _ _ _ _ _ _ ⟨T7, L7, l, q, _, [t], (((((H16.out.front 5 rfl).drop1.front 4 rfl).drop1.front 5 rfl).front 5 rfl).front 2 rfl).front 3 rfl, .inr ⟨HX.out.1, told, HX.out.2.1, HX.out.2.2.elim .inl (fun e => .inr ⟨t, rfl, e⟩)⟩, HQ.out, by omega, Nat.le_refl 1⟩
    · by_cases h7 : v = 7
      · subst h7
        have hrd := HC2.out.reads 3 rfl
        have HBL := Aside0.mk (blow_use HC2.out HU1.out.disk.wait A11 c11 kp hrd.1)
        have HX := Aside0.mk (HU1.out.blown HQ.out HE.out kp)
        clear hrd
        go_wp2_with (go_at_call 17; refine HBL.out.mono ?_; rintro e w13 ⟨rfl, h13⟩; have H13 := Aside0.mk h13; clear h13 HBL HC2)
        exact HQQ.out _ _ _ _ _ _ _ _ _ _ _ _ _ _ _ _ _ _ _ _ _ _ _ _ _ _ _ _ _ _ _ _ _ _ _ _ _ _ _ _ _ _ _ _ _ _ _ _ _ _ _ _ _ _ _ _ _ _ _ _ _ _ _ _ _ _ _ _ _ _ _ _ _ _ _ _ _ _ _ _ _ _ _ _ _ _ _ _ _ _ _ _ _ _ _ _ _ _ _ _ _ _ _ _ ⟨T1.blow kp, L, l, q, _, [], (H13.out.arrange.nilrow Kd.string 9).front 1 rfl, .inr ⟨HX.out.1, _, HX.out.2.1.mono (by omega), .inl HX.out.2.2⟩, HQ.out, by omega, Nat.zero_le _⟩
      · skip
        have n4 : (v == 4) = false := by rw [beq_eq_false_iff_ne]; omega
        have n5 : (v == 5) = false := by rw [beq_eq_false_iff_ne]; omega
        have n6 : (v == 6) = false := by rw [beq_eq_false_iff_ne]; omega
        have n7 : (v == 7) = false := by rw [beq_eq_false_iff_ne]; omega
        clear h45 h6 h7
        have hfit := HU1.out.fits
        have hz : (encT l).size ≤ 1000000 := by omega
        have HSZ := Aside0.mk (size_use HC2.out 6 rfl hz)
        have cw0 : wc.cell? ⟨gw, 0, none⟩ = some (.slice Aw l.length cw) := HC2.out.cell 5 rfl 0
        go_upto_region 23 with (go_at_call 22; refine HSZ.out.mono ?_; rintro e w13 ⟨rfl, h13⟩; rw [h13]; clear h13)
        by_cases hroom : (encT l).size + (t.size + 2) ≤ hf * 242
        · have HAP := Aside0.mk (append_ok HC2.out HU1.out (k : Int) t hrt.1 (by omega) hroom)
          clear cw0 n4 n5 n6 n7 HSZ
          go_upto_region 24 with (go_at_call 13; refine HAP.out.mono ?_; rintro e w13 ⟨rfl, L8, h13, hu8, hE8⟩; have H13 := Aside0.mk h13; have HU8 := Aside0.mk hu8; have HE8 := Aside0.mk hE8; clear h13 hu8 hE8 HAP HC2)
          have hsz2 : (encT (l ++ [t])).size = (encT l).size + (t.size + 2) := by rw [encT_snoc, ByteArray.size_append, textB_size]
          have hn : (hf : Int) * 242 - (encT (l ++ [t])).size = 242 * (hf : Int) - ((encT l).size : Nat) - ((t.size : Int) + 2) := by rw [hsz2]; omega
          have HRM := Aside0.mk (fun (w' : World) (h : HL W w' ([] ++ (d, TD.dev T1) :: []) (LT g d L8 :: WT gz sz q :: ST sz l :: .row (Kd.int .i64) 3 (.slice A11 kp.length c11) kp :: .box gx (.cells #[.int .i64 x0, .string x1, .int .i64 x2, .slice B n0 cb] 46 (0, 0)) :: WT gw (.slice Aw l.length cw) q :: ST (.slice Aw l.length cw) l :: R)) => room_still h HU8.out _ hn)
          have HSZ := Aside0.mk (fun (w' : World) (h : HL W w' ([] ++ (d, TD.dev T1) :: []) (LT g d L8 :: WT gz sz q :: ST sz l :: .row (Kd.int .i64) 3 (.slice A11 kp.length c11) kp :: .box gx (.cells #[.int .i64 x0, .string x1, .int .i64 x2, .slice B n0 cb] 46 (0, 0)) :: WT gw (.slice Aw l.length cw) q :: ST (.slice Aw l.length cw) l :: R)) => size_use h 6 rfl hz)
          have hd1 : (t.size : Int) + 2 ≤ 242 * (hf : Int) - ((encT l).size : Nat) := by omega
          have hd2 : decide ((t.size : Int) + 2 ≤ 242 * (hf : Int) - ((encT l).size : Nat)) = true := decide_eq_true hd1
          clear hsz2 hn hroom
          have cw0 : w13.cell? ⟨gw, 0, none⟩ = some (.slice Aw l.length cw) := H13.out.cell 5 rfl 0
          generalize (encT l).size = S at *
          go_quiet (first
            | (go_at_call 16; refine Calls.quiet_of (HRM.out _ (H13.out.below (pw_below_drewN (Below.refl _ _) _))))
            | (go_at_call 22; refine Calls.quiet_of_same (HSZ.out _ (H13.out.below (pw_below_drewN (Below.refl _ _) _))))
            | (go_at_call 23; refine Calls.quiet_of_same (opt_yes _)))
          have H14 := Aside0.mk (H13.out.below (pw_below_drewN (Below.refl _ _) nq))
          clear H13 HRM HSZ hd1 hd2 cw0
          generalize w13.drewN nq = wd at H14 ⊢
          have cw0 : wd.cell? ⟨gw, 0, none⟩ = some (.slice Aw l.length cw) := H14.out.cell 5 rfl 0
          have HLN : Aside0 ((l.length + 1) * 16 ≤ 140737488355328) := ⟨by omega⟩
          go_wp2_with (refine gate_ (.call { callee := .builtin .append, args := #[.tmp 153, .tmp 155], argTypes := #[29, 29] }) rfl ?_; refine Aside0.out ?_)
          refine ⟨?_⟩
          refine H14.out.append Kd.string 6 rfl rfl (.tmp 153) (.tmp 155) 29 (.string ⟨#[]⟩) 16 rfl Tryd.underlying29 infoStr rfl (by decide) (by decide) t [.string t] rfl rfl (fun _ _ => rfl) HLN.out ?_
          intro v2 w14 hO14
          obtain ⟨Av, cv, ev, -, -⟩ := hO14.row 6 rfl
          generalize (l ++ [t]).length = n2 at ev
          subst ev
          have H15 : Aside0 (HL W w14 ([] ++ (d, TD.dev T1) :: []) (LT g d L8 :: WT gz sz q :: ST sz l :: .row (Kd.int .i64) 3 (.slice A11 kp.length c11) kp :: .box gx (.cells #[.int .i64 x0, .string x1, .int .i64 x2, .slice B n0 cb] 46 (0, 0)) :: WT gw (.slice Aw l.length cw) q :: ST (.slice Av n2 cv) (l ++ [t]) :: R)) := ⟨hO14⟩
          clear hO14 H14 cw0
          have cw0 : w14.cell? ⟨gw, 0, none⟩ = some (.slice Aw l.length cw) := H15.out.cell 5 rfl 0
          have fw0 : w14.frozen? ⟨gw, 0, none⟩ = false := H15.out.frozen 5 rfl 0
          have H16 := Aside0.mk (H15.out.store 5 rfl 0 (.slice Av n2 cv) (cs' := #[.slice Av n2 cv, .int .i64 q]) rfl)
          go_wp2_with fail
          exact HQQ.out _ _ _ _ _ _ _ _ _ _ _ _ _ _ _ _ _ _ _ _ _ _ _ _ _ _ _ _ _ _ _ _ _ _ _ _ _ _ _ _ _ _ _ _ _ _ _ _ _ _ _ _ _ _ _ _ _ _ _ _ _ _ _ _ _ _ _ _ _ _ _ _ _ _ _ _ _ _ _ _ _ _ _ _ _ _ _ _ _ _ _ _ _ _ _ _ _ _ _ _ _ _ _ _ ⟨T1, L8, l ++ [t], q, _, [], (H16.out.arrange.nilrow Kd.string 9).front 1 rfl, .inl ⟨HU8.out.on, HU8.out, by rw [HE8.out]; have := HE.out; omega⟩, HQ.out, by rw [List.length_append]; show l.length + 1 ≤ _; omega, Nat.zero_le _⟩
        · have HAP := Aside0.mk (append_no HC2.out HU1.out (k : Int) t hrt.1 (by omega) (by omega))
          clear cw0 n4 n5 n6 n7 HSZ
          go_upto_region 24 with (go_at_call 13; refine HAP.out.mono ?_; rintro e w13 ⟨rfl, h13⟩; have H13 := Aside0.mk h13; clear h13 HAP HC2)
          have hn : (hf : Int) * 242 - (encT l).size = 242 * (hf : Int) - ((encT l).size : Nat) := by omega
          have HRM := Aside0.mk (fun (w' : World) (h : HL W w' ([] ++ (d, TD.dev T1) :: []) (LT g d L :: WT gz sz q :: ST sz l :: .row (Kd.int .i64) 3 (.slice A11 kp.length c11) kp :: .box gx (.cells #[.int .i64 x0, .string x1, .int .i64 x2, .slice B n0 cb] 46 (0, 0)) :: WT gw (.slice Aw l.length cw) q :: ST (.slice Aw l.length cw) l :: R)) => room_still h HU1.out _ hn)
          have HSZ := Aside0.mk (fun (w' : World) (h : HL W w' ([] ++ (d, TD.dev T1) :: []) (LT g d L :: WT gz sz q :: ST sz l :: .row (Kd.int .i64) 3 (.slice A11 kp.length c11) kp :: .box gx (.cells #[.int .i64 x0, .string x1, .int .i64 x2, .slice B n0 cb] 46 (0, 0)) :: WT gw (.slice Aw l.length cw) q :: ST (.slice Aw l.length cw) l :: R)) => size_use h 6 rfl hz)
          have hd1 : ¬ ((t.size : Int) + 2 ≤ 242 * (hf : Int) - ((encT l).size : Nat)) := by omega
          have hd2 : decide ((t.size : Int) + 2 ≤ 242 * (hf : Int) - ((encT l).size : Nat)) = false := decide_eq_false hd1
          clear hn hroom
          have cw0 : w13.cell? ⟨gw, 0, none⟩ = some (.slice Aw l.length cw) := H13.out.cell 5 rfl 0
          generalize (encT l).size = S at *
          go_quiet (first
            | (go_at_call 16; refine Calls.quiet_of (HRM.out _ (H13.out.below (pw_below_drewN (Below.refl _ _) _))))
            | (go_at_call 22; refine Calls.quiet_of_same (HSZ.out _ (H13.out.below (pw_below_drewN (Below.refl _ _) _))))
            | (go_at_call 23; refine Calls.quiet_of_same (opt_no _)))
          have H14 := Aside0.mk (H13.out.below (pw_below_drewN (Below.refl _ _) nq))
          clear H13 HRM HSZ hd1 hd2 cw0
          generalize w13.drewN nq = wd at H14 ⊢
          go_wp2_with fail
          exact HQQ.out _ _ _ _ _ _ _ _ _ _ _ _ _ _ _ _ _ _ _ _ _ _ _ _ _ _ _ _ _ _ _ _ _ _ _ _ _ _ _ _ _ _ _ _ _ _ _ _ _ _ _ _ _ _ _ _ _ _ _ _ _ _ _ _ _ _ _ _ _ _ _ _ _ _ _ _ _ _ _ _ _ _ _ _ _ _ _ _ _ _ _ _ _ _ _ _ _ _ _ _ _ _ _ _ ⟨T1, L, l, q, _, [], (H14.out.arrange.nilrow Kd.string 9).front 1 rfl, .inl ⟨HU1.out.on, HU1.out, by have := HE.out; omega⟩, HQ.out, by omega, Nat.zero_le _⟩
end Go.Proofs.YtegeaemkkbenfaaDoor.Ownd
