/- law04.told: a range tells a map's keys from one on, though the map is changed within. Conditions: the map and the document's are alike; at most 900 pairs. -/
import Derived.Test.YtfnfhiggmppecaaORefFrom
import Derived.Test.YtfnfhiggmppecaaOTurned
namespace Go.Proofs.Ytfnfhiggmppecaa.GO.Ref
open Go.RowKit Go.Proofs.Ytfnfhiggmppecaa.Ownd Go.Proofs.YtfnfhiggmppecaaW.PrintWords Go.Proofs.YtfnfhiggmppecaaW.PrintLast Go.Proofs.YtfnfhiggmppecaaW.PrintMore
set_option linter.unusedVariables false
set_option linter.unusedSimpArgs false
theorem again {xs : List MS.P2} (hr : MS.Rise xs) {k : ByteArray} {v : Int} (h : (k, v) ∈ xs) : MS.setL (MS.delL xs k) k v = xs := by
  refine MS.rise_ext (MS.setL_rise (MS.delL_rise hr k) k v) hr (fun p => ?_)
  rw [MS.mem_setL (MS.delL_rise hr k), MS.mem_delL hr]
  constructor
  · rintro (rfl | ⟨_, _, hp⟩)
    · exact h
    · exact hp
  · intro hp
    by_cases hk : p.1 = k
    · exact Or.inl (MS.rise_key hr hp h hk)
    · exact Or.inr ⟨hk, hk, hp⟩
def TL (g gm gw gt ga gr b : Nat) (v vk vv v7 vt : Value) (xs zs : List MS.P2) (m : List MS.P2) (ss : List ByteArray) (k : Nat) (rest : List Thing) : List Thing :=
  [.box g (.cells #[v] 48 (0, 0)), .row MS.kP 79 v xs, .row Kd.string 9 vk (m.map (·.1)), .row (Kd.int .i64) 3 vv (m.map (·.2)), .row MS.kP 79 v7 zs, .box b (.cells #[v7] 46 (0, 0)),
   .box gm (.cells #[.pointer (some ⟨g, 0, none⟩)] 65 (0, 0)), .box gw (.cells #[vk, vv] 56 (0, 0)), .row Kd.string 9 vt ss, .box gt (.cells #[vt] 45 (0, 0)), .box ga (.cells #[.int .i64 (k : Nat)] 3 (0, 0)), .box gr (.cells #[.bool true] 4 (0, 0))] ++ rest
theorem dge {k n : Nat} (h : k < n) : decide ((n : Int) ≤ (k : Int)) = false := decide_eq_false (by omega)
set_option maxHeartbeats 8000000 in
set_option maxRecDepth 100000 in
theorem clos43_O {w W : World} {g gm gw gt ga gr b : Nat} {v vk vv v7 vt : Value} {xs zs m : List MS.P2} {ss : List ByteArray} {k : Nat} {rest : List Thing} (h : Own w W (TL g gm gw gt ga gr b v vk vv v7 vt xs zs m ss k rest)) (ha : Alike xs m) (hl : xs.length ≤ 900) (hk : k < ss.length) (hs : ss.length ≤ 900) (val : Int) (hv : (ss[k], val) ∈ xs) :
    Calls Try.prog 43 #[.string ss[k], .int .i64 val, .pointer (some ⟨ga, 0, none⟩), .pointer (some ⟨gt, 0, none⟩), .pointer (some ⟨gr, 0, none⟩), .pointer (some ⟨gw, 0, none⟩), .pointer (some ⟨gm, 0, none⟩)] W fun ex W' =>
      ex = .returned (.bool true) ∧ ∃ v', Own w W' (TL g gm gw gt ga gr b v' vk vv v7 vt xs zs m ss (k + 1) rest) := by
  have hml : m.length ≤ 900 := by rw [← alike_len ha]; exact hl
  obtain ⟨gx, cx, rfl, x1⟩ := MS.str_at h 8 rfl k hk
  obtain ⟨A0, c0, rfl, hc0, hC0⟩ := h.reads 2 rfl
  obtain ⟨A1, c1, rfl, hc1, hC1⟩ := h.reads 3 rfl
  have HG := Aside0.mk (concordanceref04_Get.calls 1002 A0 c0 (m.map (·.1)) A1 c1 (m.map (·.2)) ss[k] val true W hC0 hc0 hC1 hc1 (by rw [get_f m _ (by omega), alike_get ha, MS.val_of ha.rise hv, (MS.has_iff ha.rise _).mpr ⟨_, hv⟩]))
  have hval := MS.val_of ha.rise hv
  have hhas := (MS.has_iff ha.rise ss[k]).mpr ⟨_, hv⟩
  have hag := again ha.rise hv
  have c1' : W.cell? ⟨ga, 0, none⟩ = some (.int .i64 (k : Nat)) := h.cell 10 rfl 0
  have c2 : W.cell? ⟨gt, 0, none⟩ = some (.slice (some ⟨gx, 0, none⟩) ss.length cx) := h.cell 9 rfl 0
  have c3 : W.cell? ⟨gw, 0, none⟩ = some (.slice A0 (m.map (·.1)).length c0) := h.cell 7 rfl 0
  have c4 : W.cell? ⟨gw, 1, none⟩ = some (.slice A1 (m.map (·.2)).length c1) := h.cell 7 rfl 1
  have d1 : ¬ ss.length ≤ k := Nat.not_le.mpr hk
  have d2 := dge hk
  rw [List.length_map] at c3 c4
  have HG2 := HG.out
  rw [List.length_map, List.length_map] at HG2
  replace HG := Aside0.mk HG2
  clear HG2
  have hi1 := ltI hk
  have hi0 := geI k
  have hw := wrN (n := ss.length) hk (by omega)
  have HO := Aside0.mk h
  have HA := Aside0.mk ha
  generalize ss[k] = key at x1 HG hv hval hhas hag ⊢
  have HX := Aside0.mk hag
  have HV := Aside0.mk hval
  have HH := Aside0.mk hhas
  clear h ha hC0 hC1 hc0 hc1 hag hval hhas hv
  have hup := Try.underlying56
  go_enter Try.func43, Try.ntmps43
  go_upto_region 5 with (go_at_call 23; refine HG.out.mono ?_; rintro e w2 ⟨rfl, hb2⟩; have HO2 := Aside0.mk (HO.out.below hb2); clear hb2)
  have cr : w2.cell? ⟨gr, 0, none⟩ = some (.bool true) := HO2.out.cell 11 rfl 0
  have fr : w2.frozen? ⟨gr, 0, none⟩ = false := HO2.out.frozen 11 rfl 0
  have ca : w2.cell? ⟨ga, 0, none⟩ = some (.int .i64 (k : Nat)) := HO2.out.cell 10 rfl 0
  have fa : w2.frozen? ⟨ga, 0, none⟩ = false := HO2.out.frozen 10 rfl 0
  have ne1 : ga ≠ gr := HO2.out.ne 10 11 rfl rfl (by decide)
  have ne2 : gr ≠ ga := ne1.symm
  have H3 : Aside0 (Own w ((w2.setCell ⟨gr, 0, none⟩ (.bool true)).setCell ⟨ga, 0, none⟩ (.int .i64 ((k : Int) + 1))) (TL g gm gw gt ga gr b v (.slice A0 (m.map (·.1)).length c0) (.slice A1 (m.map (·.2)).length c1) v7 (.slice (some ⟨gx, 0, none⟩) ss.length cx) xs zs m ss (k + 1) rest)) :=
    ⟨(HO2.out.store 11 rfl 0 (.bool true) (cs' := #[.bool true]) rfl).store 10 rfl 0 (.int .i64 ((k : Int) + 1)) (cs' := #[.int .i64 ((k : Int) + 1)]) rfl⟩
  clear c1' c2 c3 c4 x1
  go_upto_region 7 with fail
  try rw [hw]
  generalize (w2.setCell ⟨gr, 0, none⟩ (.bool true)).setCell ⟨ga, 0, none⟩ (.int .i64 ((k : Int) + 1)) = w3 at H3 ⊢
  clear cr fr ca fa HO2 HO HG
  have cm : w3.cell? ⟨gm, 0, none⟩ = some (.pointer (some ⟨g, 0, none⟩)) := H3.out.cell 6 rfl 0
  have HGE := Aside0.mk (MS.get_O H3.out (i := 0) (j := 1) (g := g) (v := v) (xs := xs) ⟨rfl, rfl, by decide⟩ HA.out.rise (Nat.le_trans hl (by decide)) key)
  rw [HV.out, HH.out] at HGE
  go_wp2_with (first
    | (go_at_call 27; refine HGE.out.mono ?_; rintro e w4 ⟨rfl, hb4⟩; have H4 := Aside0.mk (H3.out.below hb4); clear hb4 cm; have cm : w4.cell? ⟨gm, 0, none⟩ = some (.pointer (some ⟨g, 0, none⟩)) := H4.out.cell 6 rfl 0)
    | (go_at_call 24; refine (MS.mdel_O H4.out (i := 0) (j := 1) (g := g) (v := v) (xs := xs) ⟨rfl, rfl, by decide⟩ HA.out.rise (Nat.le_trans hl (by decide)) key).mono ?_; rintro e w5 ⟨v5, rfl, hO5⟩; have H5 := Aside0.mk (show Own w w5 (TL g gm gw gt ga gr b v5 (.slice A0 (m.map (·.1)).length c0) (.slice A1 (m.map (·.2)).length c1) v7 (.slice (some ⟨gx, 0, none⟩) ss.length cx) (MS.delL xs key) zs m ss (k + 1) rest) from hO5); clear hO5 cm; have cm : w5.cell? ⟨gm, 0, none⟩ = some (.pointer (some ⟨g, 0, none⟩)) := H5.out.cell 6 rfl 0)
    | (go_at_call 18; refine (MS.set_O H5.out (i := 0) (j := 1) (g := g) (v := v5) (xs := MS.delL xs key) ⟨rfl, rfl, by decide⟩ (MS.delL_rise HA.out.rise key) (Nat.le_trans (MS.delL_len xs key) (Nat.le_trans hl (by decide))) key val).mono ?_; rintro e w6 ⟨v6, rfl, hO6⟩; rw [HX.out] at hO6; have H6 := Aside0.mk (show Own w w6 (TL g gm gw gt ga gr b v6 (.slice A0 (m.map (·.1)).length c0) (.slice A1 (m.map (·.2)).length c1) v7 (.slice (some ⟨gx, 0, none⟩) ss.length cx) xs zs m ss (k + 1) rest) from hO6); clear hO6))
  go_ret
  exact ⟨rfl, v6, H6.out⟩
end Go.Proofs.Ytfnfhiggmppecaa.GO.Ref
