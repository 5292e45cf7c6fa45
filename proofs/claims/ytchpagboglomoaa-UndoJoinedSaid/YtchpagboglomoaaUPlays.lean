/- law22.UndoPlays: the answer true, whatever the acts. No condition. -/
import Derived.Test.YtchpagboglomoaaUSpeaks
import Derived.Test.YtchpagboglomoaaUSame
import Derived.Test.YtchpagboglomoaaURefC
import Derived.Test.YtchpagboglomoaaGPx2
namespace Go.Proofs.Ytchpagboglomoaa.Ownd
open Go.RowKit Go.Proofs.Ytchpagboglomoaa.GP.MU Go.Proofs.Ytchpagboglomoaa.GP Go.Proofs.YtchpagboglomoaaW.PrintWords Go.Proofs.YtchpagboglomoaaW.PrintLast Go.Proofs.YtchpagboglomoaaW.PrintMore
set_option linter.unusedVariables false
set_option linter.unusedSimpArgs false
/-! Acts as they are read. -/
abbrev UAct := Int × (Int × UE)
abbrev kUA : Kd UAct := Kd.pair (Kd.int .i64) (Kd.pair (Kd.int .i64) kE)
abbrev uaCells (x : UAct) : List Value := [.int .i64 x.1, .int .i64 x.2.1, .int .i64 x.2.2.1, .int .i64 x.2.2.2.1, .string x.2.2.2.2]
theorem kUA_is {W : World} {x : UAct} {cs : List Value} (h : kUA.K W x cs) : cs = uaCells x := by
  obtain ⟨c0, d0, rfl, h0, c1, d1, rfl, h1, h2⟩ := h
  have e0 : c0 = [.int .i64 x.1] := h0
  have e1 : c1 = [.int .i64 x.2.1] := h1
  rw [e0, e1, kE_is h2]; rfl
theorem kUA_mk (W : World) (x : UAct) : kUA.K W x (uaCells x) := ⟨[.int .i64 x.1], _, rfl, rfl, [.int .i64 x.2.1], _, rfl, rfl, kE_mk W x.2.2⟩
theorem at_UA {w : World} {A : Option Addr} {n : Nat} {xs : List UAct} (h : Kd.C kUA w A n xs) (i : Nat) (h1 : i < xs.length) (hn : n = xs.length) : ∃ ad : Addr, A = some ad ∧ w.cell? (ad.add (i * 5)) = some (.int .i64 xs[i].1) ∧ w.cell? ⟨(ad.add (i * 5)).block, (ad.add (i * 5)).off + 1, none⟩ = some (.int .i64 xs[i].2.1) ∧ w.cell? ⟨(ad.add (i * 5)).block, (ad.add (i * 5)).off + 2, none⟩ = some (.int .i64 xs[i].2.2.1) ∧
    w.cell? ⟨(ad.add (i * 5)).block, (ad.add (i * 5)).off + 3, none⟩ = some (.int .i64 xs[i].2.2.2.1) ∧ w.cell? ⟨(ad.add (i * 5)).block, (ad.add (i * 5)).off + 4, none⟩ = some (.string xs[i].2.2.2.2) := by
  obtain ⟨ad, c, e, _, hK, hc0⟩ := Kd.C_get h xs[i] (i : Int) (by omega) (by omega)
  rw [Int.toNat_natCast] at hK hc0
  rw [List.getD_eq_getElem?_getD, List.getElem?_eq_getElem h1, Option.getD_some] at hK
  obtain rfl := kUA_is hK
  refine ⟨ad, e, hc0 0 _ rfl, ?_, ?_, ?_, ?_⟩
  · rw [← addr_off _ 1 (by decide)]; exact hc0 1 _ rfl
  · rw [← addr_off _ 2 (by decide)]; exact hc0 2 _ rfl
  · rw [← addr_off _ 3 (by decide)]; exact hc0 3 _ rfl
  · rw [← addr_off _ 4 (by decide)]; exact hc0 4 _ rfl
theorem and_pow (n : Int) (e : Nat) (he : e ≤ 62) (m : Int) (hm : (BitVec.ofInt 64 m).toNat = 2 ^ e - 1) : bits .and .i64 n m = n % (2 ^ e : Nat) := by
  have key : (BitVec.ofInt 64 n &&& BitVec.ofInt 64 m).toNat = (n % ((2 ^ 64 : Nat) : Int)).toNat % 2 ^ e := by
    rw [BitVec.toNat_and, BitVec.toNat_ofInt, hm, Nat.and_two_pow_sub_one_eq_mod]
  show IntKind.i64.wrap ((BitVec.ofInt 64 n &&& BitVec.ofInt 64 m).toNat : Nat) = _
  rw [key, IntKind.wrap_i64]
  have h64 : (2 : Nat) ^ 64 = 2 ^ e * 2 ^ (64 - e) := by rw [← Nat.pow_add]; congr 1; omega
  have hlt : (2 : Nat) ^ e ≤ 2 ^ 62 := Nat.pow_le_pow_right (by decide) he
  have h2 : (((n % ((2 ^ 64 : Nat) : Int)).toNat % 2 ^ e : Nat) : Int) = n % ((2 ^ e : Nat) : Int) := by
    rw [Int.natCast_emod, Int.toNat_of_nonneg (Int.emod_nonneg _ (by decide)), h64]
    push_cast
    exact Int.emod_emod_of_dvd n ⟨_, rfl⟩
  rw [h2]
  have h3 : 0 ≤ n % ((2 ^ e : Nat) : Int) := Int.emod_nonneg _ (by have := Nat.two_pow_pos e; omega)
  have h4 : n % ((2 ^ e : Nat) : Int) < ((2 ^ e : Nat) : Int) := Int.emod_lt_of_pos _ (by have := Nat.two_pow_pos e; omega)
  omega
theorem and7u (n : Int) : bits .and .i64 n 7 = n % 8 := and_pow n 3 (by decide) 7 (by decide)
theorem and1u (n : Int) : bits .and .i64 n 1 = n % 2 := and_pow n 1 (by decide) 1 (by decide)
theorem and1023u (n : Int) : bits .and .i64 n 1023 = n % 1024 := and_pow n 10 (by decide) 1023 (by decide)
/-- An act's entry. -/
def entX (x : UE) : UE := (2 + x.1 % 2, x.2.1 % 1024, x.2.2.extract 0 (min x.2.2.size 64))
theorem entX_ok (x : UE) : okE (entX x) = true := by
  unfold okE entX
  refine decide_eq_true ⟨?_, ?_, ?_, ?_⟩
  · show 2 + x.1 % 2 = 2 ∨ 2 + x.1 % 2 = 3; omega
  · show 0 ≤ x.2.1 % 1024; omega
  · show x.2.1 % 1024 ≤ 65535; omega
  · show (x.2.2.extract 0 (min x.2.2.size 64)).size ≤ 64
    rw [extract_size _ _ _ (Nat.min_le_left _ _)]; omega
theorem entry_f (x : UE) : concordancelaw22_entry.f x.1 x.2.1 x.2.2 = some ((entX x).1, (entX x).2.1, (entX x).2.2) := by
  unfold concordancelaw22_entry.f
  have hm : mn (x.2.2.size : Int) 64 = ((min x.2.2.size 64 : Nat) : Int) := by unfold mn; split <;> omega
  rw [hm, if_pos (by omega), if_pos (by omega), and1u, and1023u, Int.toNat_natCast, show wrap64 (2 + x.1 % 2) = 2 + x.1 % 2 by unfold wrap64; omega]
  rfl
theorem entry_calls (x : UE) (w : World) : Calls Try.prog 8 #[.agg #[.int .i64 x.1, .int .i64 x.2.1, .string x.2.2]] w fun e w' => e = .returned (.agg #[.int .i64 (entX x).1, .int .i64 (entX x).2.1, .string (entX x).2.2]) ∧ Below w.heap.size w w' :=
  concordancelaw22_entry.calls _ _ _ _ _ _ w (entry_f x)
/-! What holds of all that is open, all along. -/
def GoodM (n : Nat) (M : Opn) : Prop := capM n M ∧ ∀ m ∈ M, 0 < m.1 ∧ m.1 < 281474976710656 ∧ ∀ x ∈ m.2, okE x = true
theorem GoodM.fit {n : Nat} {M : Opn} (h : GoodM n M) (hn : n ≤ 900) : fitM M := ⟨Nat.le_trans h.1.1 hn, fun m hm => ⟨(h.2 m hm).1, (h.2 m hm).2.1, Nat.le_trans (h.1.2 m hm) hn, (h.2 m hm).2.2⟩⟩
theorem good_nil (n : Nat) : GoodM n [] := ⟨⟨Nat.zero_le _, fun m hm => by cases hm⟩, fun m hm => by cases hm⟩
theorem GoodM.mono {n n' : Nat} {M : Opn} (h : GoodM n M) (hn : n ≤ n') : GoodM n' M := ⟨h.1.mono hn, h.2⟩
theorem ent_okE {n : Nat} {M : Opn} (h : GoodM n M) (k : Int) : ∀ x ∈ ent M k, okE x = true := by
  unfold ent
  cases hg : getM M k with
  | none => intro x hx; cases hx
  | some es => exact (h.2 _ (getM_mem hg)).2.2
theorem good_add {n : Nat} {M : Opn} (h : GoodM n M) {k : Int} (hk : 0 < k ∧ k < 281474976710656) {x : UE} (hx : okE x = true) : GoodM (n + 1) (addM M k x) := by
  refine ⟨add_cap h.1 k x, fun m hm => ?_⟩
  rcases setM_mem hm with rfl | hm
  · refine ⟨hk.1, hk.2, fun y hy => ?_⟩
    rcases List.mem_append.mp hy with hy | hy
    · exact ent_okE h k y hy
    · rw [List.mem_singleton.mp hy]; exact hx
  · exact h.2 m hm
theorem good_pop {n : Nat} {M : Opn} (h : GoodM n M) (k : Int) : GoodM n (popM M k) := by
  refine ⟨pop_cap h.1 k, fun m hm => ?_⟩
  unfold popM at hm
  split at hm
  · exact h.2 m hm
  · rename_i h1
    obtain ⟨es, hg⟩ := getM_none_ent h1
    rcases setM_mem hm with rfl | hm
    · have := h.2 _ (getM_mem hg)
      exact ⟨this.1, this.2.1, fun y hy => ent_okE h k y (List.dropLast_subset _ hy)⟩
    · exact h.2 m hm
theorem good_del {n : Nat} {M : Opn} (h : GoodM n M) (k : Int) : GoodM n (delM M k) := ⟨del_cap h.1 k, fun m hm => h.2 m (delM_mem hm)⟩
theorem drop_del {M : Opn} (hr : RiseM M) (k : Int) : dropM M k = delM M k := by
  induction M with
  | nil => rfl
  | cons a r ih =>
    have hr' := List.pairwise_cons.mp hr
    show (List.filter _ (a :: r)) = (if k < a.1 then _ else _ : Opn)
    by_cases h1 : k < a.1
    · rw [if_pos h1]
      refine List.filter_eq_self.mpr (fun m hm => ?_)
      rcases List.mem_cons.mp hm with rfl | hm
      · simp; omega
      · have := hr'.1 m hm; simp; omega
    · rw [if_neg h1]
      by_cases h2 : a.1 = k
      · rw [if_pos h2, List.filter_cons_of_neg (by simp [h2])]
        refine List.filter_eq_self.mpr (fun m hm => ?_)
        have := hr'.1 m hm; simp; omega
      · rw [if_neg h2, List.filter_cons_of_pos (by simp [h2])]
        exact congrArg (a :: ·) (ih hr'.2)
/-- An Open and the document's lists, with the same in them. -/
def PState (w W : World) (g : Nat) (M : Opn) (v4 : Value) : Prop := ∃ v xs F ys G A c, v4 = .slice A M.length c ∧ Own w W [oB g v, oR v xs, .fact F, rL v4 ys, .fact G] ∧ IsOpen xs F M ∧ ∀ W' : World, G W' → Heads W' ys M
theorem PState.open {w W : World} {g : Nat} {M : Opn} {v4 : Value} (h : PState w W g M v4) : ∃ ys G, OpenOwn w W g M [rL v4 ys, .fact G] ∧ ∀ W' : World, G W' → Heads W' ys M := by
  obtain ⟨v, xs, F, ys, G, A, c, h1, h2, h3, h4⟩ := h
  exact ⟨ys, G, ⟨v, xs, F, h2, h3⟩, h4⟩
theorem PState.rise {w W : World} {g : Nat} {M : Opn} {v4 : Value} (h : PState w W g M v4) : RiseM M := by
  obtain ⟨v, xs, F, ys, G, A, c, h1, h2, h3, h4⟩ := h
  exact (h3.heads W (h2.now 2 rfl)).rise h3.rise
/-- The document's lists to the front. -/
theorem list_front {w W : World} {g : Nat} {M M2 : Opn} {v4 : Value} {ys : List P2} {G : World → Prop} {A : Option Addr} {c : Nat} {rest : List Thing} (h : OpenOwn w W g M (rL v4 ys :: .fact G :: rest)) (hv : v4 = .slice A M2.length c) (hH : ∀ W' : World, G W' → Heads W' ys M2) :
    ∃ v xs F, IsOpen xs F M ∧ ListOwn w W v4 M2 (oB g v :: oR v xs :: .fact F :: rest) := by
  obtain ⟨v, xs, F, hO, hi⟩ := h
  refine ⟨v, xs, F, hi, A, c, ys, G, hv, ?_, hH⟩
  exact hO.reorder (fun k => match k with | 0 => 3 | 1 => 4 | 2 => 0 | 3 => 1 | 4 => 2 | k + 5 => k + 5) (fun k => match k with | 0 => 2 | 1 => 3 | 2 => 4 | 3 => 0 | 4 => 1 | k + 5 => k + 5) (fun k => by rcases k with _ | _ | _ | _ | _ | k <;> rfl) (fun k => by rcases k with _ | _ | _ | _ | _ | k <;> rfl)
theorem list_back {w W : World} {g : Nat} {M M2 : Opn} {v4 : Value} {v : Value} {xs : List P2} {F : World → Prop} (hi : IsOpen xs F M) (h : ListOwn w W v4 M2 [oB g v, oR v xs, .fact F]) (hM : M2 = M) : PState w W g M v4 := by
  obtain ⟨A, c, ys, G, hv, hO, hH⟩ := h
  subst hM
  refine ⟨v, xs, F, ys, G, A, c, hv, ?_, hi, hH⟩
  exact hO.pick [2, 3, 4, 0, 1] (by decide)
end Go.Proofs.Ytchpagboglomoaa.Ownd
