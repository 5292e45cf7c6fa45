/- patch.Apply's contract, the walk: the call comes to what 'patch_Apply.f' says. Conditions: the list is read at the slice that is handed in. -/
import Derived.Test.YtpdibkcpdngboaaHApply
import Derived.Outline
namespace Go.Proofs.Ytpdibkcpdngboaa.GP
open Go.RowKit Go.Proofs.YtpdibkcpdngboaaW.PrintWords Go.Proofs.YtpdibkcpdngboaaW.PrintLast Go.Proofs.YtpdibkcpdngboaaW.PrintMore Go.Proofs.Ytpdibkcpdngboaa.Copy
attribute [local go_sem] max2_int min2_int max_two min_two max_three min_three max_four min_four
set_option linter.unusedVariables false
set_option linter.unusedSimpArgs false

theorem info8 : (Try.prog.info? 5).map (fun i => (i.zero, i.size, i.bytes)) = some (some (.int .u8 0), 1, 1) := by kernel_rfl
theorem size8 : (Try.prog.info? 5).map (·.size) = some 1 := by kernel_rfl

set_option maxHeartbeats 1000000 in
set_option maxRecDepth 100000 in
theorem apply_wrong (a0 : ByteArray) (A1 : Option Addr) (c1 : Nat) (l1 : List S31) (w : World) (hr1 : Kd.C k31 w A1 l1.length l1) (hc1 : l1.length ≤ c1) (hk : patch_right.f (l1.length + 1) l1 = some false) :
    Calls Try.prog 9 #[.string a0, .slice A1 l1.length c1] w fun e w' => e = .returned (.tuple #[.string ⟨#[]⟩, .int .i64 1]) ∧ Below w.heap.size w w' := by
  have HK := Aside0.mk hk
  have HR := Aside0.mk hr1
  have HC := Aside0.mk hc1
  clear hk hr1 hc1
  go_enter Try.func9, Try.ntmps9
  go_wp2_with (first | (go_at_call 19; refine (patch_right.calls (l1.length + 1) A1 c1 l1 false _ HR.out HC.out HK.out).mono ?_; rintro e w' ⟨rfl, hb⟩))
  go_ret2
  exact ⟨rfl, hb⟩

theorem getD_at (l : List S31) (i : Nat) (h : i < l.length) : rd_T31 l (i : Int) = l[i] := by simp [rd_T31, List.getD_eq_getElem?_getD, List.getElem?_eq_getElem h]

set_option maxHeartbeats 1000000 in
set_option maxRecDepth 100000 in
theorem apply_long (a0 : ByteArray) (A1 : Option Addr) (c1 : Nat) (l1 : List S31) (w : World) (hr1 : Kd.C k31 w A1 l1.length l1) (hc1 : l1.length ≤ c1) (hk : patch_right.f (l1.length + 1) l1 = some true)
    (hl : l1.length ≤ 140737488351232) (h0 : 0 < l1.length) (q : S31) (hq : rd_T31 l1 ((l1.length : Int) - 1) = q) (hq0 : 0 ≤ q.f0) (hq1 : q.f0 ≤ 65535) (hq2 : q.f1.size ≤ 65535) (hbig : (a0.size : Int) < q.f0 + q.f1.size) :
    Calls Try.prog 9 #[.string a0, .slice A1 l1.length c1] w fun e w' => e = .returned (.tuple #[.string ⟨#[]⟩, .int .i64 6]) ∧ Below w.heap.size w w' := by
  have HK := Aside0.mk hk
  have HR := Aside0.mk hr1
  have HC := Aside0.mk hc1
  obtain ⟨ad, e, hx0, hx1⟩ := at_T31 hr1 ((l1.length : Int) - 1) (by omega) (by omega)
  cases e
  rw [hq, show ((l1.length : Int) - 1).toNat = l1.length - 1 by omega] at hx0 hx1
  clear hk hr1 hc1 hq
  have hd0 : decide (0 < l1.length) = true := decide_eq_true h0
  have hp1 : 0 ≤ (l1.length : Int) - 1 := by omega
  have hp2 : (l1.length : Int) - 1 < (l1.length : Int) := by omega
  have hw : wrap64 (q.f0 + (q.f1.size : Int)) = q.f0 + (q.f1.size : Int) := by unfold wrap64; omega
  have he : patch_Piece_end.f q.f0 q.f1 = some (q.f0 + (q.f1.size : Int)) := by unfold patch_Piece_end.f; rw [hw]
  have HE := Aside0.mk he
  clear hw he
  go_enter Try.func9, Try.ntmps9
  go_wp2_with (first | (go_at_call 19; refine (patch_right.calls (l1.length + 1) (some ad) c1 l1 true _ HR.out HC.out HK.out).mono ?_; rintro e w' ⟨rfl, hb⟩; have hx2 := (hb.cell (World.block_lt_of_cell? w _ hx0)).trans hx0; have hx3 := (hb.cell (World.block_lt_of_cell? w _ hx1)).trans hx1) | (go_at_call 20; refine (patch_Piece_end.calls q.f0 q.f1 _ _ HE.out).mono ?_; rintro e w2 ⟨rfl, hb2⟩))
  go_ret2
  exact ⟨rfl, below_step hb hb2⟩

theorem endOf_last : ∀ (l : List S31) (h : 0 < l.length), endOf l = (l[l.length - 1]'(by omega)).f0 + (l[l.length - 1]'(by omega)).f1.size
  | [p], _ => rfl
  | _ :: q :: l, _ => by
    have := endOf_last (q :: l) (by simp)
    simpa [endOf] using this

theorem str_of_bytes (L : List UInt8) : strOfNums (L.map fun b => (b.toNat : Int)) = ⟨L.toArray⟩ := by
  unfold strOfNums
  congr 2
  rw [List.map_map]
  conv => rhs; rw [← List.map_id L]
  apply List.map_congr_left
  intro b _
  simp

/-- What the loop of Apply keeps: k rounds are done. -/
def Done (a0 : ByteArray) (l1 : List S31) (g : Nat) (w : World) (k : Nat) (wr : World) : Prop :=
  BytesAt wr g (overlay a0.data.toList (l1.take k)) ∧ Below w.heap.size w wr ∧ w.heap.size ≤ g ∧ g < wr.heap.size

set_option maxHeartbeats 2000000 in
set_option maxRecDepth 100000 in
theorem apply_does (a0 : ByteArray) (A1 : Option Addr) (c1 : Nat) (l1 : List S31) (w : World) (hr1 : Kd.C k31 w A1 l1.length l1) (hc1 : l1.length ≤ c1) (hk : patch_right.f (l1.length + 1) l1 = some true)
    (hl : l1.length ≤ 140737488351232) (hs : a0.size ≤ 140737488351232) (hrb : rightB 0 l1 = true) (hend : endOf l1 ≤ a0.size) :
    Calls Try.prog 9 #[.string a0, .slice A1 l1.length c1] w fun e w' => e = .returned (.tuple #[.string ⟨(overlay a0.data.toList l1).toArray⟩, .int .i64 0]) ∧ Below w.heap.size w w' := by
  have HK := Aside0.mk hk
  have HR := Aside0.mk hr1
  have HC := Aside0.mk hc1
  have HRB := Aside0.mk hrb
  have HEN := Aside0.mk hend
  clear hk hr1 hc1 hrb hend
  have kb := fun W => print_bytes (P := Try.prog) 9 51 5 Try.underlying9 Try.underlying51 Try.underlying5 a0 W
  by_cases h0 : 0 < l1.length
  · obtain ⟨ad, e, hx0, hx1⟩ := at_T31 HR.out ((l1.length : Int) - 1) (by omega) (by omega)
    cases e
    obtain ⟨q, hq⟩ : ∃ q, rd_T31 l1 ((l1.length : Int) - 1) = q := ⟨_, rfl⟩
    have hat := rightB_at l1 0 (by omega) HRB.out (l1.length - 1) (by omega)
    rw [← getD_at l1 (l1.length - 1) (by omega), show (((l1.length - 1 : Nat)) : Int) = (l1.length : Int) - 1 by omega, hq] at hat
    obtain ⟨hq0, hq3, hq2, hq1, hq4⟩ := hat
    have hsm : ¬ (a0.size : Int) < q.f0 + (q.f1.size : Int) := by have := HEN.out; omega
    have hsd : decide ((a0.size : Int) < q.f0 + (q.f1.size : Int)) = false := decide_eq_false hsm
    rw [hq, show ((l1.length : Int) - 1).toNat = l1.length - 1 by omega] at hx0 hx1
    have hd0 : decide (0 < l1.length) = true := decide_eq_true h0
    have hp1 : 0 ≤ (l1.length : Int) - 1 := by omega
    have hp2 : (l1.length : Int) - 1 < (l1.length : Int) := by omega
    have hw : wrap64 (q.f0 + (q.f1.size : Int)) = q.f0 + (q.f1.size : Int) := by unfold wrap64; omega
    have he : patch_Piece_end.f q.f0 q.f1 = some (q.f0 + (q.f1.size : Int)) := by unfold patch_Piece_end.f; rw [hw]
    have HE := Aside0.mk he
    clear hw he hq hq4 hsm
    go_enter Try.func9, Try.ntmps9
    go_wp2_with (first | (go_at_call 19; refine (patch_right.calls (l1.length + 1) (some ad) c1 l1 true _ HR.out HC.out HK.out).mono ?_; rintro e w1 ⟨rfl, hb⟩; have hx2 := (hb.cell (World.block_lt_of_cell? w _ hx0)).trans hx0; have hx3 := (hb.cell (World.block_lt_of_cell? w _ hx1)).trans hx1) | (go_at_call 20; refine (patch_Piece_end.calls q.f0 q.f1 _ _ HE.out).mono ?_; rintro e w2 ⟨rfl, hb2⟩))
    have hwg : w.heap.size ≤ w2.heap.size := (below_step hb hb2).size
    have hby := bytesAt_new w2 5 a0
    have hbl := bytes_below (below_step hb hb2) hwg 5 a0
    have hgs : w2.heap.size < (Lib.bytesWorld w2 5 a0).heap.size := by rw [Lib.bytesWorld_size]; omega
    have hcp := grownCap_ge w2 a0.size 0 5
    clear hx2 hx3 hx0 hx1 hb2 hb
    have HD : Hid (Done a0 l1 w2.heap.size w 0 (Lib.bytesWorld w2 5 a0)) := ⟨by simpa [overlay] using hby, hbl, hwg, hgs⟩
    clear hwg hby hbl hgs kb
    generalize Lib.bytesWorld w2 5 a0 = wb at *
    generalize grownCap w2 a0.size 0 5 = cp at *
    generalize w2.heap.size = g at *
    go_loopw [31] (fun i wr => ∃ k : Nat, k ≤ l1.length ∧ i = .int .i64 k ∧ Hid (Done a0 l1 g w k wr)) (fun i _ => l1.length - (intOf i).toNat)
    case atStart => exact ⟨0, Nat.zero_le _, rfl, HD⟩
    case round =>
      obtain ⟨k, hk, rfl, HD⟩ := hrel
      by_cases hlt : k < l1.length
      · obtain ⟨ad', e, hy0, hy1⟩ := at_T31 HR.out (k : Int) (by omega) (by omega)
        cases e
        obtain ⟨p, hp⟩ : ∃ p, rd_T31 l1 (k : Int) = p := ⟨_, rfl⟩
        have hat := rightB_at l1 0 (by omega) HRB.out k hlt
        rw [← getD_at l1 k hlt, hp] at hat
        obtain ⟨hp0, hp3, hp2, hp1', hp4⟩ := hat
        have hpe : p.f0 + (p.f1.size : Int) ≤ (a0.size : Int) := by have := HEN.out; omega
        rw [hp] at hy0 hy1
        have hbl := HD.out.2.1
        have hz0 := (hbl.cell (World.block_lt_of_cell? w _ hy0)).trans hy0
        have hz1 := (hbl.cell (World.block_lt_of_cell? w _ hy1)).trans hy1
        simp only [Int.toNat_natCast] at hz0 hz1
        have HP := Aside0.mk hp
        have hpt : p.f0.toNat + p.f1.size ≤ a0.size := by omega
        have hnc : ¬ cp = p.f0.toNat := by omega
        clear hy0 hy1 hp4 hp
        have hps : p.f0 ≤ (a0.size : Int) := by omega
        have HBA : Hid (∀ o, BytesAt ((wr.alloc o).drew) g (overlay a0.data.toList (l1.take k))) := fun o => bytesAt_block HD.out.1 (Below.heap_alloc wr o g HD.out.2.2.2)
        have HBB : Hid (∀ o, Below w.heap.size w ((wr.alloc o).drew)) := fun o => (hbl.alloc hbl.size o).drew
        have hgw := HD.out.2.2.1
        have hgs := HD.out.2.2.2
        have hfit : p.f0.toNat + p.f1.size ≤ (overlay a0.data.toList (l1.take k)).length := by
          rw [overlay_take_length l1 _ HRB.out (by have := HEN.out; simpa using this) k hk]
          simpa using hpt
        clear hbl
        go_wp2_with fail
        go_region_law (refine step_copy_str rfl (.tmp 38) (.tmp 40) 51 9 rfl 5 Try.underlying51 size8 g p.f0.toNat (a0.size - p.f0.toNat) (cp - p.f0.toNat) p.f1 (by simp [Act.eval, Act.put]) (by simp [Act.eval, Act.put]) (by omega) (overlay a0.data.toList (l1.take k)) (HBA.out _) hfit w.heap.size w (HBB.out _) hgw ?_; intro w4 h4 hB4 hs4)
        all_goals
          go_wp2
          go_roundw
          case rel => 
            refine ⟨k + 1, by omega, by go_num, ⟨?_, hB4.out, hgw, ?_⟩⟩
            · have h5 := h4.out
              rw [List.take_succ_eq_append_getElem hlt, overlay_snoc, ← getD_at l1 k hlt, HP.out]
              exact h5
            · have := hs4.out
              simp at this
              omega
          case measure => simp [intOf]; omega
      · have hke : k = l1.length := by omega
        subst hke
        have hby := HD.out.1
        rw [List.take_length] at hby
        have hol : (overlay a0.data.toList l1).length = a0.size := by
          rw [overlay_length l1 _ 0 (by omega) HRB.out (by have := HEN.out; simpa using this)]
          simp
        have ks := run_convert_bytes_arg (P := Try.prog) wr 51 5 Try.underlying51 Try.underlying5 g 0 a0.size cp ((overlay a0.data.toList l1).map fun b => (b.toNat : Int)) (by rw [List.length_map, hol]) (fun i hi => by
          rw [(hby (0 + i) (by omega)).1]
          simp [List.getD_eq_getElem?_getD, List.getElem?_eq_getElem (show i < (overlay a0.data.toList l1).length by omega)]) 9 Try.underlying9
        rw [str_of_bytes] at ks
        clear hby hol
        have hbl := HD.out.2.1
        have HBL : Hid _ := hbl
        clear hbl
        go_wp2_with fail
        go_ret2
        exact ⟨rfl, HBL.out⟩
  · obtain rfl : l1 = [] := List.eq_nil_of_length_eq_zero (by omega)
    have hR := patch_right.calls 1 A1 c1 [] true w HR.out HC.out HK.out
    have HR1 : Hid (Calls Try.prog 19 #[.slice A1 0 c1] w fun e w' => e = .returned (.bool true) ∧ Below w.heap.size w w') := hR
    clear hR h0
    go_enter Try.func9, Try.ntmps9
    go_wp2_with (first | (go_at_call 19; refine HR1.out.mono ?_; rintro e w2 ⟨rfl, hb⟩))
    have hwg : w.heap.size ≤ w2.heap.size := hb.size
    have hby := bytesAt_new w2 5 a0
    have hbl := bytes_below hb hwg 5 a0
    have HD : Hid (BytesAt (Lib.bytesWorld w2 5 a0) w2.heap.size a0.data.toList ∧ Below w.heap.size w (Lib.bytesWorld w2 5 a0)) := ⟨hby, hbl⟩
    clear hwg hby hbl kb hb
    generalize Lib.bytesWorld w2 5 a0 = wb at *
    generalize grownCap w2 a0.size 0 5 = cp at *
    generalize w2.heap.size = g at *
    go_loop [31] (fun i => i = .int .i64 0) (fun _ => 0)
    case atStart => rfl
    case round =>
      obtain rfl := hrel
      have hby := HD.out.1
      have ks := run_convert_bytes_arg (P := Try.prog) wb 51 5 Try.underlying51 Try.underlying5 g 0 a0.size cp (a0.data.toList.map fun b => (b.toNat : Int)) (by simp) (fun i hi => by
          rw [(hby (0 + i) (by simpa using hi)).1]
          simp [List.getD_eq_getElem?_getD, List.getElem?_eq_getElem (show i < a0.data.toList.length by simpa using hi)]) 9 Try.underlying9
      rw [str_of_bytes] at ks
      clear hby
      go_wp2_with fail
      go_ret2
      exact ⟨rfl, HD.out.2⟩

/-- THE CONTRACT. -/
theorem patch_Apply.calls (a0 : ByteArray) (A1 : Option Addr) (c1 : Nat) (l1 : List S31) (r1 : ByteArray) (r2 : Int) (w : World) (hr1 : Kd.C k31 w A1 l1.length l1) (hc1 : l1.length ≤ c1) (h : patch_Apply.f a0 l1 = some (r1, r2)) :
    Calls Try.prog 9 #[.string a0, .slice A1 l1.length c1] w fun e w' => e = .returned (.tuple #[.string r1, .int .i64 r2]) ∧ Below w.heap.size w w' := by
  unfold patch_Apply.f at h
  by_cases hs : a0.size ≤ 140737488351232 ∧ l1.length ≤ 140737488351232
  · rw [if_pos hs] at h
    have hrt := right_tells l1 hs.2
    by_cases hr : rightB 0 l1 = true ∧ l1.length ≤ 65535
    · rw [if_pos hr] at h
      rw [hr.1, decide_eq_true hr.2] at hrt
      by_cases he : endOf l1 ≤ a0.size
      · rw [if_pos he] at h
        simp only [Option.some.injEq, Prod.mk.injEq] at h
        obtain ⟨rfl, rfl⟩ := h
        exact apply_does a0 A1 c1 l1 w hr1 hc1 hrt hs.2 hs.1 hr.1 he
      · rw [if_neg he] at h
        simp only [Option.some.injEq, Prod.mk.injEq] at h
        obtain ⟨rfl, rfl⟩ := h
        have h0 : 0 < l1.length := by
          rcases Nat.eq_zero_or_pos l1.length with h0 | h0
          · obtain rfl := List.eq_nil_of_length_eq_zero h0
            simp [endOf] at he
          · exact h0
        have hat := rightB_at l1 0 (by omega) hr.1 (l1.length - 1) (by omega)
        rw [← getD_at l1 (l1.length - 1) (by omega), show (((l1.length - 1 : Nat)) : Int) = (l1.length : Int) - 1 by omega] at hat
        have hel := endOf_last l1 h0
        rw [← getD_at l1 (l1.length - 1) (by omega), show (((l1.length - 1 : Nat)) : Int) = (l1.length : Int) - 1 by omega] at hel
        exact apply_long a0 A1 c1 l1 w hr1 hc1 hrt hs.2 h0 _ rfl (by omega) (by omega) (by omega) (by omega)
    · rw [if_neg hr] at h
      simp only [Option.some.injEq, Prod.mk.injEq] at h
      obtain ⟨rfl, rfl⟩ := h
      have : (rightB 0 l1 && decide (l1.length ≤ 65535)) = false := by
        cases h1 : rightB 0 l1 with
        | false => rfl
        | true => simp only [Bool.true_and, decide_eq_false_iff_not]; exact fun h2 => hr ⟨h1, h2⟩
      rw [this] at hrt
      exact apply_wrong a0 A1 c1 l1 w hr1 hc1 hrt
  · rw [if_neg hs] at h
    cases h
end Go.Proofs.Ytpdibkcpdngboaa.GP
