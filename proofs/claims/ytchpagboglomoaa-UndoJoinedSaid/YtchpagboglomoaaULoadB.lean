/- Open: reading a state: Load. Conditions: none on the text. -/
import Derived.Test.YtchpagboglomoaaULoad
namespace Go.Proofs.Ytchpagboglomoaa.Ownd
open Go.RowKit Go.Proofs.Ytchpagboglomoaa.GP.MU Go.Proofs.Ytchpagboglomoaa.GP Go.Proofs.YtchpagboglomoaaW.PrintWords Go.Proofs.YtchpagboglomoaaW.PrintLast Go.Proofs.YtchpagboglomoaaW.PrintMore
set_option linter.unusedVariables false
set_option linter.unusedSimpArgs false
theorem loadGo_at (l : List ByteArray) (last : Int) (acc : Opn) (q : Nat) (h : q < l.length) : loadGo (l.drop q) last acc = if (loadT l[q] last).2.2 = 0 then loadGo (l.drop (q + 1)) (loadT l[q] last).1 (acc ++ [((loadT l[q] last).1, (loadT l[q] last).2.1)]) else ([], (loadT l[q] last).2.2) := by
  rw [List.drop_eq_getElem_cons h]
  rfl
/-- A new Open, with nothing in it. -/
theorem open_new {w W : World} {l : List Thing} (h : Own w W l) : OpenOwn w (W.alloc (.cells #[.slice none 0 0] 29)) W.heap.size [] l := by
  have h1 := (((h.room).room).room).alloc 0 rfl (.cells #[.slice none 0 0] 29)
  have h2 := (h1.nil 1 kP 102).fact_new 2 rfl
  exact ⟨_, [], _, h2, ⟨List.Pairwise.nil, fun _ _ => .nil⟩⟩
set_option maxHeartbeats 8000000 in
set_option maxRecDepth 100000 in
theorem Load_O {w W : World} {l : List Thing} (h : Own w W l) (s : ByteArray) :
    Calls Try.prog 16 #[.string s] W fun ex W' => ((loadS s).2 = 0 ∧ ∃ g, ex = .returned (.tuple #[.pointer (some ⟨g, 0, none⟩), .int .i64 0]) ∧ OpenOwn w W' g (loadS s).1 l) ∨ ((loadS s).2 ≠ 0 ∧ ex = .returned (.tuple #[.pointer none, .int .i64 (loadS s).2]) ∧ Own w W' l) := by
  have HO := Aside0.mk (open_new h)
  obtain ⟨⟨R, re⟩, hr⟩ : ∃ r, loadS s = r := ⟨_, rfl⟩
  rw [hr]
  show Calls _ _ _ _ fun ex W' => (re = 0 ∧ ∃ g, ex = .returned (.tuple #[.pointer (some ⟨g, 0, none⟩), .int .i64 0]) ∧ OpenOwn w W' g R l) ∨ (re ≠ 0 ∧ ex = .returned (.tuple #[.pointer none, .int .i64 re]) ∧ Own w W' l)
  have HR := Aside0.mk hr
  clear h hr
  by_cases h0 : s.size = 0
  · have hs : s = ⟨#[]⟩ := by
      apply data_ext
      exact List.eq_nil_of_length_eq_zero (by rw [size_len]; exact h0)
    subst hs
    have hr : (R, re) = (([], 0) : Opn × Int) := HR.out.symm.trans rfl
    cases hr
    clear HR h0
    go_enter Try.func16, Try.ntmps16
    go_wp2
    go_ret2
    exact .inl ⟨by first | rfl | trivial, _, rfl, HO.out⟩
  · have hb0 : s.toList.isEmpty = false := by
      rw [List.isEmpty_eq_false_iff]
      exact fun h => h0 ((bytes_nil s).mp h)
    have hr2 := HR.out
    unfold loadS at hr2
    rw [if_neg h0] at hr2
    have HSp := Aside0.mk (fun w => record_Split.calls 70000 s (splitP s).1 (splitP s).2 w (split_tells _ 70000 (Nat.le_refl _)))
    have hsl := split_len s
    generalize splitP s = sp at *
    obtain ⟨ts, e1⟩ := sp
    simp only [] at hr2 hsl HSp
    have HR2 := Aside0.mk hr2
    clear HR hr2
    go_enter Try.func16, Try.ntmps16
    go_upto_region 2 with fail
    generalize W.alloc (.cells #[.slice none 0 0] 29) = w0 at HO ⊢
    generalize W.heap.size = g at HO ⊢
    obtain ⟨v, xs, F, hO, hi⟩ := HO.out
    have HO1 := Aside0.mk hO
    have HI := Aside0.mk hi
    clear HO hO hi
    go_upto_region 5 with (go_at_call 32; refine (HSp.out _).mono ?_; rintro e w2 ⟨v0, rfl, hR, hb⟩; have hO2 := HO1.out.row_R hb hR; obtain ⟨A0, c0, rfl⟩ := hO2.row 0 rfl; have HO2 := Aside0.mk hO2; clear hb hR hO2)
    clear HO1 HSp
    by_cases he : e1 = 0
    · subst he
      have hr2 := HR2.out
      rw [if_neg (by simp)] at hr2
      have HR3 := Aside0.mk hr2
      have HO3 : Aside0 (OpenOwn w w2 g [] (.row Kd.string 9 (.slice A0 ts.length c0) ts :: l)) := ⟨v, xs, F, Own.down3 HO2.out, HI.out⟩
      clear HR2 hr2 HO2 HI
      go_upto_block 0 with fail
      go_wp2_with fail
      go_loopg [7, 25] ts.length (fun gg s7 s25 wr => ∃ (q : Nat) (acc : Opn) (last : Int), q ≤ ts.length ∧ ts.length - q ≤ gg ∧ s25 = .int .i64 q ∧ s7 = .int .i64 last ∧ Aside0 (acc.length = q) ∧ 0 ≤ last ∧ Aside0 (∀ m ∈ acc, m.1 ≤ last) ∧ Aside0 (OpenOwn w wr g acc (.row Kd.string 9 (.slice A0 ts.length c0) ts :: l)) ∧ Aside0 (loadGo (ts.drop q) last acc = (R, re)))
      case atStart => exact ⟨0, [], 0, Nat.zero_le _, by omega, rfl, rfl, ⟨rfl⟩, Int.le_refl _, ⟨by simp⟩, HO3, HR3⟩
      case round =>
        obtain ⟨q, acc, last, hq, hg, rfl, rfl, HAcc, hlast, HAL, HO4, HGo⟩ := hrel
        clear HO3 HR3
        obtain ⟨v, xs, F, hO4, hi4⟩ := HO4.out
        by_cases hlt : q < ts.length
        · obtain ⟨g0, c1, e0, -, hx⟩ := hO4.text_at 3 rfl q hlt
          obtain rfl := (Value.slice.inj e0).1
          have hgo := (loadGo_at ts last acc q hlt).symm.trans HGo.out
          have HLt := Aside0.mk hlt
          have d3 := decLt hlt
          have z0 := geZ q
          have z1 := ltZ hlt
          have hw1 := wrS hlt (Nat.le_trans hsl (by decide))
          have HL := Aside0.mk (load_O hO4 hi4 (by have := HAcc.out; omega) ts[q] last hlast)
          have hlt2 := loadT_lt ts[q] last
          generalize ts[q] = t at *
          generalize loadT t last = gt at *
          obtain ⟨n, es, ec⟩ := gt
          simp only [] at hgo HL hlt2
          have HGo2 := Aside0.mk hgo
          have HT := Aside0.mk hlt2
          clear e0 hgo hlt hO4 hi4 HO4 hlt2
          by_cases hec : ec = 0
          · subst hec
            have hgo := HGo2.out
            rw [if_pos rfl] at hgo
            have HGo3 := Aside0.mk hgo
            have hln := (HT.out rfl).1
            have HSet : Aside0 (setM acc n es = acc ++ [(n, es)]) := ⟨setM_append (fun m hm => by have := HAL.out m hm; omega)⟩
            have HLn := Aside0.mk hln
            clear hgo HGo2 HT hln
            go_wp2_with (go_at_call 33; refine HL.out.mono ?_; rintro e w5 ⟨rfl, hO5⟩; rw [if_pos rfl, HSet.out] at hO5; have HO5 := Aside0.mk hO5; clear hO5)
            try rw [hw1]
            go_roundg (ts.length - (q + 1))
            case measure => exact measU HLt.out hg
            case rel => exact ⟨q + 1, acc ++ [(n, es)], n, HLt.out, Nat.le_refl _, rfl, rfl, ⟨by rw [List.length_append, HAcc.out]; rfl⟩, by have := HLn.out; omega, ⟨fun m hm => by
              have h1 := HLn.out
              rcases List.mem_append.mp hm with h | h
              · have := HAL.out m h; omega
              · rw [List.mem_singleton.mp h]; exact Int.le_refl _⟩, HO5, HGo3⟩
          · have hgo := HGo2.out
            rw [if_neg hec] at hgo
            cases hgo
            have b1 : (re != 0) = true := by simp [hec]
            have HE := Aside0.mk hec
            clear hec HGo2 HT
            go_wp2_with (go_at_call 33; refine HL.out.mono ?_; rintro e w5 ⟨rfl, hO5⟩; rw [if_neg HE.out] at hO5; have HO5 := Aside0.mk hO5; clear hO5)
            go_ret2
            obtain ⟨v, xs, F, hO5, -⟩ := HO5.out
            exact .inr ⟨HE.out, rfl, hO5.tail.tail.tail.tail⟩
        · obtain rfl : q = ts.length := by omega
          have hgo := HGo.out
          rw [List.drop_length] at hgo
          have hgo2 : (acc, (0 : Int)) = (R, re) := hgo
          cases hgo2
          have d3 := decNo ts.length
          clear hgo hO4 hi4
          go_wp2_with fail
          go_ret2
          obtain ⟨v, xs, F, hO5, hi5⟩ := HO4.out
          first
          | exact ⟨g, rfl, v, xs, F, Own.tail (Own.up3 hO5), hi5⟩
          | exact .inl ⟨rfl, g, rfl, v, xs, F, Own.tail (Own.up3 hO5), hi5⟩
    · have hr2 := HR2.out
      rw [if_pos he] at hr2
      cases hr2
      have b1 : (re != 0) = true := by simp [he]
      have HE := Aside0.mk he
      clear he HR2
      go_wp2_with fail
      go_ret2
      exact .inr ⟨HE.out, rfl, HO2.out.tail.tail.tail.tail⟩
end Go.Proofs.Ytchpagboglomoaa.Ownd
