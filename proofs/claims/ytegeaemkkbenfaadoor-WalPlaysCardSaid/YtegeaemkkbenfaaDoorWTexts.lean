/- wal.texts: the texts of a half's bytes, as far as they are whole. Condition: at most 1000000 bytes. -/
import Derived.Test.YtegeaemkkbenfaaDoorWLogD
namespace Go.Proofs.YtegeaemkkbenfaaDoor.Ownd
open Go.RowKit Go.Proofs.YtegeaemkkbenfaaDoorW.PrintWords Go.Proofs.YtegeaemkkbenfaaDoorW.PrintLast Go.Proofs.YtegeaemkkbenfaaDoorW.PrintMore
set_option linter.unusedVariables false
set_option linter.unusedSimpArgs false
variable {w W : World}
theorem infoS : (Tryd.prog.info? 9).map (fun i => (i.zero, i.size, i.bytes)) = some (some (.string ⟨#[]⟩), 1, 16) := by kernel_rfl
def lenT (s : ByteArray) : Nat := getL (s.extract 0 2).data.toList
def textsGo : Nat → ByteArray → List ByteArray
  | 0, _ => []
  | k + 1, s => if s.size < 2 then [] else if lenT s = 0 ∨ s.size - 2 < lenT s then [] else s.extract 2 (2 + lenT s) :: textsGo k (s.extract (2 + lenT s) s.size)
def textsB (s : ByteArray) : List ByteArray := textsGo s.size s
theorem textsGo_fuel : ∀ (k m : Nat) (s : ByteArray), s.size ≤ k → s.size ≤ m → textsGo k s = textsGo m s
  | 0, 0, s, _, _ => rfl
  | 0, m + 1, s, h, _ => by
    unfold textsGo; rw [if_pos (by omega)]
  | k + 1, 0, s, _, h => by
    unfold textsGo; rw [if_pos (by omega)]
  | k + 1, m + 1, s, hk, hm => by
    unfold textsGo
    split
    · rfl
    · split
      · rfl
      · rename_i h1 h2
        have hz : (s.extract (2 + lenT s) s.size).size = s.size - (2 + lenT s) := by rw [ByteArray.size_extract]; omega
        rw [textsGo_fuel k m _ (by omega) (by omega)]
theorem textsB_next {s : ByteArray} (h : ¬ s.size < 2) (h2 : ¬ (lenT s = 0 ∨ s.size - 2 < lenT s)) : textsB s = s.extract 2 (2 + lenT s) :: textsB (s.extract (2 + lenT s) s.size) := by
  have hz : (s.extract (2 + lenT s) s.size).size = s.size - (2 + lenT s) := by rw [ByteArray.size_extract]; omega
  unfold textsB
  obtain ⟨k, hk⟩ : ∃ k, s.size = k + 1 := ⟨s.size - 1, by omega⟩
  rw [hk]
  conv => lhs; unfold textsGo
  rw [if_neg h, if_neg h2]
  rw [← hk, textsGo_fuel k _ _ (by omega) (Nat.le_refl _)]
theorem textsB_end {s : ByteArray} (h : s.size < 2 ∨ lenT s = 0 ∨ s.size - 2 < lenT s) : textsB s = [] := by
  unfold textsB
  cases hk : s.size with
  | zero => rfl
  | succ k =>
    unfold textsGo
    split
    · rfl
    · rename_i h1
      rw [if_pos (h.resolve_left h1)]
theorem textsGo_len : ∀ (k : Nat) (s : ByteArray), (textsGo k s).length ≤ s.size
  | 0, s => Nat.zero_le _
  | k + 1, s => by
    unfold textsGo
    split
    · exact Nat.zero_le _
    · split
      · exact Nat.zero_le _
      · have hz : (s.extract (2 + lenT s) s.size).size = s.size - (2 + lenT s) := by rw [ByteArray.size_extract]; omega
        have := textsGo_len k (s.extract (2 + lenT s) s.size)
        rw [List.length_cons]; omega
theorem textsB_len (s : ByteArray) : (textsB s).length ≤ s.size := textsGo_len _ _
theorem tx_lt (s : ByteArray) : lenT s < 65536 := by
  have h := getL_lt (s.extract 0 2).data.toList
  refine Nat.lt_of_lt_of_le h ?_
  refine Nat.le_trans (Nat.pow_le_pow_right (by decide) (show _ ≤ 2 from ?_)) (by decide)
  rw [b_len, ByteArray.size_extract]; omega
theorem tx_a {z n : Nat} (hn : n < 65536) : wrap64 (2 + (n : Int)) = ((2 + n : Nat) : Int) := by unfold wrap64; omega
theorem tx_b {z : Nat} (h : ¬ z < 2) (hz : z ≤ 1000000) : wrap64 ((z : Int) - 2) = ((z - 2 : Nat) : Int) := by unfold wrap64; omega
theorem tx_m {n z g : Nat} (h : 2 + n ≤ z) (hg : z ≤ g) : z - (2 + n) < g := by omega
theorem tx_k {k z n m : Nat} (h : k + z ≤ m) (h2 : 2 + n ≤ z) : k + 1 + (z - (2 + n)) ≤ m := by omega
theorem tx_l {k m n : Nat} (h : k + m ≤ n) (hm : 1 ≤ m) (hn : n ≤ 1000000) : (k + 1) * 16 ≤ 140737488355328 := by omega
set_option maxHeartbeats 8000000 in
set_option maxRecDepth 100000 in
theorem texts_calls (s : ByteArray) (hs : s.size ≤ 1000000) : Calls Tryd.prog 32 #[.string s] W fun ex W' => ∃ A c, ex = .returned (.slice A (textsB s).length c) ∧ Own W W' [.row Kd.string 9 (.slice A (textsB s).length c) (textsB s)] := by
  go_enter Tryd.func32, Tryd.ntmps32
  go_upto_block 0 with fail
  have H0 : Aside0 (Own W W [.row Kd.string 9 (.slice none 0 0) []]) := ⟨(Own.start W 1).nil 0 Kd.string 9⟩
  go_cut [3] (fun s3 wx => Aside0 (Own W wx [.row Kd.string 9 s3 (textsB s)]))
  case first =>
    go_wp2_with fail
    go_loopg [0, 3] s.size (fun gg s0 s3 wr => ∃ t : ByteArray, s0 = .string t ∧ t.size ≤ gg ∧ Aside0 (∃ out : List ByteArray, out ++ textsB t = textsB s ∧ out.length + t.size ≤ s.size ∧ Own W wr [.row Kd.string 9 s3 out]))
    case atStart => exact ⟨s, rfl, Nat.le_refl _, ⟨[], rfl, by simp, H0.out⟩⟩
    case round =>
      clear H0
      obtain ⟨t, rfl, hg, ⟨out, ho, hol, hO⟩⟩ := hrel
      have HO := Aside0.mk hO
      have HE := Aside0.mk ho
      have HL1 := Aside0.mk hol
      clear hO ho hol
      by_cases h2 : t.size < 2
      · have hE : out = textsB s := by rw [← HE.out, textsB_end (Or.inl h2), List.append_nil]
        have hi : ¬ ((2 : Int) ≤ (t.size : Int)) := by omega
        rw [hE] at HO
        go_wp2_with fail
        go_meet
        case rel => exact HO
      · have hi : (2 : Int) ≤ (t.size : Int) := by omega
        have hts : t.size ≤ 1000000 := Nat.le_trans (Nat.le_trans (Nat.le_add_left _ _) HL1.out) hs
        have HG := Aside0.mk (fun W' : World => get_calls (W := W') (t.extract 0 2) (by rw [ByteArray.size_extract]; omega))
        rw [show getN (t.extract 0 2) = (lenT t : Int) from rfl] at HG
        have hlt := tx_lt t
        have hb := tx_b h2 hts
        by_cases h3 : lenT t = 0
        · have hE : out = textsB s := by rw [← HE.out, textsB_end (Or.inr (Or.inl h3)), List.append_nil]
          rw [h3] at HG
          rw [hE] at HO
          clear hb
          go_wp2_with (go_at_call 48; refine (HG.out _).mono ?_; rintro e w1 ⟨rfl, h1⟩; rw [h1]; clear h1)
          go_meet
          case rel => exact HO
        · by_cases h4 : t.size - 2 < lenT t
          · have hE : out = textsB s := by rw [← HE.out, textsB_end (Or.inr (Or.inr h4)), List.append_nil]
            have hi4 : (t.size : Int) - 2 < (lenT t : Int) := by omega
            have hi3 : ((lenT t : Int) == 0) = false := by rw [beq_eq_false_iff_ne]; omega
            rw [hE] at HO
            generalize lenT t = n at HG hi4 hi3
            clear hb
            go_wp2_with (go_at_call 48; refine (HG.out _).mono ?_; rintro e w1 ⟨rfl, h1⟩; rw [h1]; clear h1)
            go_meet
            case rel => exact HO
          · have HN := Aside0.mk (textsB_next h2 (fun hc => hc.elim h3 h4))
            have hi4 : ¬ ((t.size : Int) - 2 < (lenT t : Int)) := by omega
            have hi3 : ((lenT t : Int) == 0) = false := by rw [beq_eq_false_iff_ne]; omega
            have ha : wrap64 (2 + (lenT t : Int)) = 2 + (lenT t : Int) := by unfold wrap64; omega
            have hq1 : 2 + (lenT t : Int) ≤ (t.size : Int) := by omega
            have hq2 : (2 : Int) ≤ 2 + (lenT t : Int) := by omega
            have hq3 : (2 + (lenT t : Int)).toNat = 2 + lenT t := by omega
            have HZ : Aside0 ((t.extract (2 + lenT t) t.size).size = t.size - (2 + lenT t)) := ⟨by rw [ByteArray.size_extract]; omega⟩
            have HZ2 : Aside0 (2 + lenT t ≤ t.size) := ⟨by omega⟩
            clear hb
            generalize lenT t = n at HG hi4 hi3 ha hq1 hq2 hq3 HN HZ HZ2 hlt
            have HLN : Aside0 ((out.length + 1) * 16 ≤ 140737488355328) := ⟨tx_l (m := t.size) HL1.out (by omega) hs⟩
            obtain ⟨A, c, ev⟩ := HO.out.row 0 rfl
            replace ev : u3 = _ := ev
            subst ev
            go_upto_region 6 with (first
              | (go_at_call 48; refine (HG.out _).mono ?_; rintro e w1 ⟨rfl, h1⟩; rw [h1]; clear h1)
              | (refine gate_ (.call { callee := .builtin .append, args := #[.tmp 20, .tmp 25], argTypes := #[29, 29] }) rfl ?_; refine Aside0.out ?_))
            refine ⟨?_⟩
            refine Own.append Kd.string HO.out 0 rfl rfl (.tmp 20) (.tmp 25) 29 (.string ⟨#[]⟩) 16 rfl Tryd.underlying29 infoS rfl (by decide) (by decide) (t.extract 2 (2 + n)) [.string (t.extract 2 (2 + n))] rfl rfl (fun _ _ => rfl) HLN.out ?_
            intro v2 w3 hO2
            have HO2 := Aside0.mk hO2
            clear hO2
            go_wp2_with fail
            go_roundg (t.size - (2 + n))
            case measure => exact tx_m HZ2.out hg
            case rel => exact ⟨t.extract (2 + n) t.size, rfl, Nat.le_of_eq HZ.out, ⟨out ++ [t.extract 2 (2 + n)], by rw [List.append_assoc, List.singleton_append, ← HN.out]; exact HE.out, by rw [List.length_append, List.length_singleton, HZ.out]; exact tx_k HL1.out HZ2.out, HO2.out⟩⟩
  case rest =>
    clear H0
    obtain ⟨A, c, e⟩ := hcut.out.row 0 rfl
    replace e : _ = _ := e
    subst e
    go_wp2_with fail
    go_ret
    exact ⟨A, c, rfl, hcut.out⟩
end Go.Proofs.YtegeaemkkbenfaaDoor.Ownd
