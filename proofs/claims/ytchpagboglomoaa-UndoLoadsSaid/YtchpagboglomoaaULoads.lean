/- law22.UndoLoads: the answer true, whatever the arguments. No condition. -/
import Derived.Test.YtchpagboglomoaaUSpeaks
import Derived.Test.YtchpagboglomoaaUSame
import Derived.Test.YtchpagboglomoaaURefE
namespace Go.Proofs.Ytchpagboglomoaa.Ownd
open Go.RowKit Go.Proofs.Ytchpagboglomoaa.GP.MU Go.Proofs.Ytchpagboglomoaa.GP Go.Proofs.YtchpagboglomoaaW.PrintWords Go.Proofs.YtchpagboglomoaaW.PrintLast Go.Proofs.YtchpagboglomoaaW.PrintMore
set_option linter.unusedVariables false
set_option linter.unusedSimpArgs false
attribute [local go_sem] max2_int min2_int max_two min_two
theorem eqLE (d : Nat) (w : World) (x0 y0 x1 y1 : Int) (x2 y2 : ByteArray) :
    (Op.equalIn (d + 2) 32 (.agg #[.int .i64 x0, .int .i64 x1, .string x2]) (.agg #[.int .i64 y0, .int .i64 y1, .string y2])).run Try.prog w = .ok (x0 == y0 && (x1 == y1 && (x2.toList == y2.toList))) w := by
  refine eqA_of Try.underlying32 (by kernel_rfl) ?_
  refine eqf_cons (by rfl) (by go_simp; rfl) (by go_simp; rfl) (by go_simp) ?_
  refine eqf_cons (by rfl) (by go_simp; rfl) (by go_simp; rfl) (by go_simp) ?_
  exact eqf_last (by rfl) (by go_simp; rfl) (by go_simp; rfl) (by go_simp)
theorem neqLE (w : World) (a b : Int) (s : ByteArray) : (binOp .neq 32 (.agg #[.int .i64 a, .int .i64 b, .string s]) (.agg #[.int .i64 a, .int .i64 b, .string s])).run Try.prog w = .ok (.bool false) w := by
  have h := eqLE 9998 w a a b b s s
  simp only [binOp]
  simp [Op.equal, Op.maxDepth, h]
theorem loadGo_keys : ∀ (l : List ByteArray) (last : Int) (acc : Opn), 0 ≤ last → (∀ m ∈ acc, 0 < m.1 ∧ m.1 < 281474976710656) → ∀ m ∈ (loadGo l last acc).1, 0 < m.1 ∧ m.1 < 281474976710656
  | [], _, acc, _, h => h
  | t :: r, last, acc, hl, h => by
    unfold loadGo
    split
    · rename_i h0
      obtain ⟨h1, h2⟩ := loadT_lt t last h0
      refine loadGo_keys r _ _ (by omega) (fun m hm => ?_)
      rcases List.mem_append.mp hm with hm | hm
      · exact h m hm
      · rw [List.mem_singleton.mp hm]
        exact ⟨by show 0 < (loadT t last).1; omega, h2⟩
    · intro m hm; cases hm
theorem load_ok (s : ByteArray) : okM (loadS s).1 := by
  have h1 := load_cap s
  refine ⟨h1.1, fun m hm => ?_⟩
  have h2 : 0 < m.1 ∧ m.1 < 281474976710656 := by
    revert hm
    unfold loadS
    split
    · intro hm; cases hm
    · split
      · intro hm; cases hm
      · exact loadGo_keys _ 0 [] (Int.le_refl _) (fun m hm => by cases hm) m
  exact ⟨by omega, h2.2, h1.2 m hm⟩
set_option maxHeartbeats 8000000 in
set_option maxRecDepth 100000 in
theorem loads_calls (a b : Int) (s0 s : ByteArray) (W : World) : Calls Try.prog 4 #[.agg #[.int .i64 a, .int .i64 b, .string s0], .string s] W fun ex W' => ex = .returned (.bool true) ∧ Below W.heap.size W W' := by
  have HO : Aside0 (Own W (W.alloc (.cells #[.int .i64 a, .int .i64 b, .string s0] 32)) [.box W.heap.size (.cells #[.int .i64 a, .int .i64 b, .string s0] 32 (0, 0))]) := ⟨(Own.start W 1).alloc 0 rfl (.cells #[.int .i64 a, .int .i64 b, .string s0] 32)⟩
  go_enter Try.func4, Try.ntmps4
  go_upto_region 1 with fail
  generalize W.alloc (.cells #[.int .i64 a, .int .i64 b, .string s0] 32) = w0 at HO ⊢
  generalize W.heap.size = gx at HO ⊢
  go_upto_region 3 with (go_at_call 7; refine (speaks_calls _).mono ?_; rintro e w1 ⟨rfl, hb⟩; have HO1 := Aside0.mk (HO.out.below hb); clear hb)
  clear HO
  by_cases hs : 2000 < s.size
  · have d1 : decide ((2000 : Int) < (s.size : Int)) = true := decide_eq_true (by omega)
    have hs' : (2000 : Int) < (s.size : Int) := by omega
    go_wp2_with fail
    go_ret
    exact ⟨rfl, HO1.out.1⟩
  · have d1 : decide ((2000 : Int) < (s.size : Int)) = false := decide_eq_false (by omega)
    have hs' : ¬ (2000 : Int) < (s.size : Int) := by omega
    obtain ⟨n, hn, hmin⟩ : ∃ n : Nat, n ≤ s0.size ∧ (if (100 : Int) < (s0.size : Int) then (100 : Int) else (s0.size : Int)) = (n : Int) := by
      by_cases h : (100 : Int) < (s0.size : Int)
      · exact ⟨100, by omega, if_pos h⟩
      · exact ⟨s0.size, Nat.le_refl _, if_neg h⟩
    have hn' : (n : Int) ≤ (s0.size : Int) := by omega
    have hn0 : (0 : Int) ≤ (n : Int) := by omega
    have x0 : w1.cell? ⟨gx, 0, none⟩ = some (.int .i64 a) := HO1.out.cell 0 rfl 0
    have x1 : w1.cell? ⟨gx, 1, none⟩ = some (.int .i64 b) := HO1.out.cell 0 rfl 1
    have x2 : w1.cell? ⟨gx, 2, none⟩ = some (.string s0) := HO1.out.cell 0 rfl 2
    have f2 : w1.frozen? ⟨gx, 2, none⟩ = false := HO1.out.frozen 0 rfl 2
    clear hs
    go_upto_region 6 with fail
    have HO2 := Aside0.mk (HO1.out.store 0 rfl 2 (.string (s0.extract 0 n)) (cs' := #[.int .i64 a, .int .i64 b, .string (s0.extract 0 n)]) rfl)
    clear HO1 x0 x1 x2 f2 hn hn' hn0 hmin
    generalize w1.setCell ⟨gx, 2, none⟩ (.string (s0.extract 0 n)) = w2 at HO2 ⊢
    generalize s0.extract 0 n = k at HO2 ⊢
    have x0 : w2.cell? ⟨gx, 0, none⟩ = some (.int .i64 a) := HO2.out.cell 0 rfl 0
    have x1 : w2.cell? ⟨gx, 1, none⟩ = some (.int .i64 b) := HO2.out.cell 0 rfl 1
    have x2 : w2.cell? ⟨gx, 2, none⟩ = some (.string k) := HO2.out.cell 0 rfl 2
    have HP := Aside0.mk (fun w => putE_calls a b k w)
    have HRP := Aside0.mk (fun w => rputE_calls a b k w)
    obtain ⟨t, ht⟩ : ∃ t, putE (a, b, k) = t := ⟨_, rfl⟩
    rw [ht] at HP HRP
    have HT := Aside0.mk ht
    clear ht
    go_upto_region 7 with (go_at_call 19; refine (HP.out _).mono ?_; rintro e w3 ⟨rfl, hb⟩; have HO3 := Aside0.mk (HO2.out.below hb); clear hb)
    clear HO2 x0 x1 x2 HP
    have x0 : w3.cell? ⟨gx, 0, none⟩ = some (.int .i64 a) := HO3.out.cell 0 rfl 0
    have x1 : w3.cell? ⟨gx, 1, none⟩ = some (.int .i64 b) := HO3.out.cell 0 rfl 1
    have x2 : w3.cell? ⟨gx, 2, none⟩ = some (.string k) := HO3.out.cell 0 rfl 2
    go_upto_if 36 with (go_at_call 20; refine (HRP.out _).mono ?_; rintro e w4 ⟨rfl, hb⟩; have HO4 := Aside0.mk (HO3.out.below hb); clear hb)
    clear HO3 HRP x0 x1 x2
    go_cut [] (fun wx => Aside0 (Own W wx [.box gx (.cells #[.int .i64 a, .int .i64 b, .string k] 32 (0, 0))]))
    case first =>
      cases hok : okE (a, b, k) with
      | false =>
        have hte : t = ⟨#[]⟩ := by rw [← HT.out]; unfold putE; rw [hok]; rfl
        subst hte
        have hl : (⟨#[]⟩ : ByteArray).toList = [] := toList_data _
        have hbn : (!(⟨#[]⟩ : ByteArray).toList.isEmpty) = false := by rw [hl]; rfl
        rw [hbn]
        clear hok hl hbn
        go_wp2_with fail
        go_meet
        case rel => exact HO4
      | true =>
        have hgp := get_putE hok
        rw [HT.out] at hgp
        have hte : t.toList.isEmpty = false := by
          rw [List.isEmpty_eq_false_iff]
          intro h
          have h0 := (bytes_nil t).mp h
          unfold getE at hgp
          rw [if_pos (by omega)] at hgp
          cases hgp
        have hbn : (!t.toList.isEmpty) = true := by rw [hte]; rfl
        rw [hbn]
        have HG := Aside0.mk (fun w => getE_calls t w)
        rw [hgp] at HG
        have hq1 : ∀ (w : World), (binOp .neq 32 (.agg #[.int .i64 a, .int .i64 b, .string k]) (.agg #[.int .i64 a, .int .i64 b, .string k])).run Try.prog w = .ok (.bool false) w := fun w => neqLE w a b k
        have HQ := Aside0.mk hq1
        clear hok hte hbn hgp hq1
        go_upto_region 11 with (go_at_call 21; refine (HG.out _).mono ?_; rintro e w5 ⟨rfl, hb⟩; have HO5 := Aside0.mk (HO4.out.below hb); clear hb)
        clear HG HO4
        have HO6 := Aside0.mk (HO5.out.room.alloc 0 rfl (.cells #[.int .i64 a, .int .i64 b, .string k] 36))
        clear HO5
        generalize w5.alloc (.cells #[.int .i64 a, .int .i64 b, .string k] 36) = w6 at HO6 ⊢
        generalize w5.heap.size = gy at HO6 ⊢
        have x0 : w6.cell? ⟨gx, 0, none⟩ = some (.int .i64 a) := HO6.out.cell 1 rfl 0
        have x1 : w6.cell? ⟨gx, 1, none⟩ = some (.int .i64 b) := HO6.out.cell 1 rfl 1
        have x2 : w6.cell? ⟨gx, 2, none⟩ = some (.string k) := HO6.out.cell 1 rfl 2
        have y0 : w6.cell? ⟨gy, 0, none⟩ = some (.int .i64 a) := HO6.out.cell 0 rfl 0
        have y1 : w6.cell? ⟨gy, 1, none⟩ = some (.int .i64 b) := HO6.out.cell 0 rfl 1
        have y2 : w6.cell? ⟨gy, 2, none⟩ = some (.string k) := HO6.out.cell 0 rfl 2
        have hq1 := HQ.out
        go_wp2_with fail
        go_meet
        case rel => exact ⟨HO6.out.tail⟩
    case rest =>
      have HO5 := hcut
      clear HO4 HT
      have HG := Aside0.mk (fun w => getE_calls s w)
      have HRG := Aside0.mk (fun w => rgetE_calls s w)
      have hok := load_ok s
      generalize getE s = gs at *
      obtain ⟨⟨ga, gb, gc⟩, ge⟩ := gs
      simp only [] at HG HRG
      go_upto_region 14 with (go_at_call 21; refine (HG.out _).mono ?_; rintro e w5 ⟨rfl, hb⟩; have HO6 := Aside0.mk (HO5.out.below hb); clear hb)
      clear HG HO5 hcut
      have HO7 := Aside0.mk (HO6.out.room.alloc 0 rfl (.cells #[.int .i64 ga, .int .i64 gb, .string gc] 36))
      clear HO6
      generalize w5.alloc (.cells #[.int .i64 ga, .int .i64 gb, .string gc] 36) = w6 at HO7 ⊢
      generalize w5.heap.size = gy at HO7 ⊢
      go_upto_region 15 with (go_at_call 22; refine (HRG.out _).mono ?_; rintro e w7 ⟨rfl, hb⟩; have HO8 := Aside0.mk (HO7.out.below hb); clear hb)
      clear HRG HO7
      have HO9 := Aside0.mk (HO8.out.room.alloc 0 rfl (.cells #[.int .i64 ga, .int .i64 gb, .string gc] 39))
      clear HO8
      generalize w7.alloc (.cells #[.int .i64 ga, .int .i64 gb, .string gc] 39) = w8 at HO9 ⊢
      generalize w7.heap.size = gz at HO9 ⊢
      have hO9 : Own W w8 [.box gz (.cells #[.int .i64 ga, .int .i64 gb, .string gc] 39 (0, 0)), .box gy (.cells #[.int .i64 ga, .int .i64 gb, .string gc] 36 (0, 0)), .box gx (.cells #[.int .i64 a, .int .i64 b, .string k] 32 (0, 0))] := HO9.out
      have HL := Aside0.mk (Load_O hO9 s)
      have HRL := Aside0.mk (fun (W' : World) (l : List Thing) (h : Own W W' l) => rload_O h s)
      have hq2 : ∀ (w : World), (binOp .neq 39 (.agg #[.int .i64 ga, .int .i64 gb, .string gc]) (.agg #[.int .i64 ga, .int .i64 gb, .string gc])).run Try.prog w = .ok (.bool false) w := fun w => neqRE w ga gb gc
      have HQ := Aside0.mk hq2
      have HK := Aside0.mk hok
      generalize loadS s = ls at *
      obtain ⟨M, le⟩ := ls
      simp only [] at hok
      clear hO9 HO9 hq2 hok
      by_cases he : le = 0
      · subst he
        have HL2 : Aside0 (Calls Try.prog 16 #[.string s] w8 fun ex W' => ∃ g, ex = .returned (.tuple #[.pointer (some ⟨g, 0, none⟩), .int .i64 0]) ∧ OpenOwn W W' g M [.box gz (.cells #[.int .i64 ga, .int .i64 gb, .string gc] 39 (0, 0)), .box gy (.cells #[.int .i64 ga, .int .i64 gb, .string gc] 36 (0, 0)), .box gx (.cells #[.int .i64 a, .int .i64 b, .string k] 32 (0, 0))]) := ⟨HL.out.mono fun ex W' h => by
          rcases h with ⟨_, h⟩ | ⟨h, _⟩
          · exact h
          · exact absurd rfl h⟩
        clear HL
        go_upto_region 16 with (go_at_call 16; refine HL2.out.mono ?_; rintro e w9 ⟨g, rfl, hO⟩; have HO10 := Aside0.mk hO; clear hO)
        clear HL2
        obtain ⟨v, xs, F, hO10, hi⟩ := HO10.out
        have HI := Aside0.mk hi
        have HRL2 := Aside0.mk (HRL.out w9 _ hO10)
        clear HO10 hO10 hi HRL
        go_upto_region 17 with (go_at_call 23; refine HRL2.out.mono ?_; rintro e w10 ⟨v2, rfl, hO⟩; have HO11 := Aside0.mk hO; clear hO)
        obtain ⟨A2, c2, ys, G, rfl, hO11, hH⟩ := HO11.out
        have HO12 := Aside0.mk hO11
        have HS := Aside0.mk (same_I hO11 (i := 2) (j := 3) (f := 4) ⟨rfl, rfl, by decide⟩ rfl HI.out (j2 := 0) (f2 := 1) rfl rfl hH HK.out)
        have y0 : w10.cell? ⟨gy, 0, none⟩ = some (.int .i64 ga) := hO11.cell 6 rfl 0
        have y1 : w10.cell? ⟨gy, 1, none⟩ = some (.int .i64 gb) := hO11.cell 6 rfl 1
        have y2 : w10.cell? ⟨gy, 2, none⟩ = some (.string gc) := hO11.cell 6 rfl 2
        have z0 : w10.cell? ⟨gz, 0, none⟩ = some (.int .i64 ga) := hO11.cell 5 rfl 0
        have z1 : w10.cell? ⟨gz, 1, none⟩ = some (.int .i64 gb) := hO11.cell 5 rfl 1
        have z2 : w10.cell? ⟨gz, 2, none⟩ = some (.string gc) := hO11.cell 5 rfl 2
        have hq2 := HQ.out
        have hge : (ge != ge) = false := by simp
        clear HRL2 HO11 hO11 hH
        go_wp2_with (go_at_call 18; refine HS.out.mono ?_; rintro e w11 ⟨rfl, hO⟩; have HO13 := Aside0.mk hO; clear hO)
        go_ret
        exact ⟨rfl, HO13.out.1⟩
      · have HL2 : Aside0 (Calls Try.prog 16 #[.string s] w8 fun ex W' => ex = .returned (.tuple #[.pointer none, .int .i64 le]) ∧ Own W W' [.box gz (.cells #[.int .i64 ga, .int .i64 gb, .string gc] 39 (0, 0)), .box gy (.cells #[.int .i64 ga, .int .i64 gb, .string gc] 36 (0, 0)), .box gx (.cells #[.int .i64 a, .int .i64 b, .string k] 32 (0, 0))]) := ⟨HL.out.mono fun ex W' h => by
          rcases h with ⟨h, _⟩ | ⟨_, h⟩
          · exact absurd h he
          · exact h⟩
        have b1 : (le != 0) = true := by simp [he]
        have b2 : (le == 0) = false := by simp [he]
        have b3 : (le != le) = false := by simp
        clear HL he
        go_upto_region 16 with (go_at_call 16; refine HL2.out.mono ?_; rintro e w9 ⟨rfl, hO⟩; have HO10 := Aside0.mk hO; have HRL2 := Aside0.mk (HRL.out w9 _ hO); clear hO)
        clear HL2 HRL
        go_upto_region 17 with (go_at_call 23; refine HRL2.out.mono ?_; rintro e w10 ⟨v2, rfl, hO⟩; have HO11 := Aside0.mk hO; clear hO)
        obtain ⟨A2, c2, ys, G, rfl, hO11, hH⟩ := HO11.out
        have HO12 := Aside0.mk hO11
        have y0 : w10.cell? ⟨gy, 0, none⟩ = some (.int .i64 ga) := hO11.cell 3 rfl 0
        have y1 : w10.cell? ⟨gy, 1, none⟩ = some (.int .i64 gb) := hO11.cell 3 rfl 1
        have y2 : w10.cell? ⟨gy, 2, none⟩ = some (.string gc) := hO11.cell 3 rfl 2
        have z0 : w10.cell? ⟨gz, 0, none⟩ = some (.int .i64 ga) := hO11.cell 2 rfl 0
        have z1 : w10.cell? ⟨gz, 1, none⟩ = some (.int .i64 gb) := hO11.cell 2 rfl 1
        have z2 : w10.cell? ⟨gz, 2, none⟩ = some (.string gc) := hO11.cell 2 rfl 2
        have hq2 := HQ.out
        have hge : (ge != ge) = false := by simp
        clear HRL2 HO11 hO11 hH
        go_wp2_with fail
        go_ret
        exact ⟨rfl, HO12.out.1⟩
end Go.Proofs.Ytchpagboglomoaa.Ownd
