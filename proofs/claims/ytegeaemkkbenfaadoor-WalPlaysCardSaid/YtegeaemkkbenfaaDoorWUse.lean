/- A log in use and its calls, as a law sees them: what each call says, what is kept. Conditions: the table lies as the program lays it; the power does not fail. -/
import Derived.Test.YtegeaemkkbenfaaDoorWPl
namespace Go.Proofs.YtegeaemkkbenfaaDoor.Ownd
open Go.Shelf Go.RowKit Go.Proofs.YtegeaemkkbenfaaDoorW.PrintWords Go.Proofs.YtegeaemkkbenfaaDoorW.PrintLast Go.Proofs.YtegeaemkkbenfaaDoorW.PrintMore
set_option linter.unusedVariables false
set_option linter.unusedSimpArgs false
variable {w W : World} {l1 l2 : List (Nat × Dev)} {rest : List Thing} {g d : Nat} {T : TD} {L : LG} {at_ G : Int} {half q : Nat} {l : List ByteArray}
theorem andLow (n : Int) (k : Nat) (m : Int) (hm : (BitVec.ofInt 64 m).toNat = 2 ^ k - 1) (hk : k ≤ 62) : bits .and .i64 n m = n % (2 ^ k : Nat) := by
  have key : (BitVec.ofInt 64 n &&& BitVec.ofInt 64 m).toNat = (n % ((2 ^ 64 : Nat) : Int)).toNat % 2 ^ k := by
    rw [BitVec.toNat_and, BitVec.toNat_ofInt, hm, Nat.and_two_pow_sub_one_eq_mod]
  show IntKind.i64.wrap ((BitVec.ofInt 64 n &&& BitVec.ofInt 64 m).toNat : Nat) = _
  rw [key, IntKind.wrap_i64]
  have h1 : (2 ^ k : Nat) ≤ 2 ^ 62 := Nat.pow_le_pow_right (by decide) hk
  have h0 : 0 < (2 ^ k : Nat) := Nat.pos_of_ne_zero (by simp)
  have hdvd : (2 ^ k : Nat) ∣ 2 ^ 64 := Nat.pow_dvd_pow 2 (by omega)
  have e1 : (((n % ((2 ^ 64 : Nat) : Int)).toNat % 2 ^ k : Nat) : Int) = n % (2 ^ k : Nat) := by
    rw [Int.natCast_emod, Int.toNat_of_nonneg (Int.emod_nonneg _ (by decide))]
    exact Int.emod_emod_of_dvd n (by exact_mod_cast hdvd)
  rw [e1]
  have h2 := Int.emod_lt_of_pos n (show (0 : Int) < ((2 ^ k : Nat) : Int) by omega)
  have h3 := Int.emod_nonneg n (show ((2 ^ k : Nat) : Int) ≠ 0 by omega)
  have h4 : ((2 ^ k : Nat) : Int) ≤ 4611686018427387904 := by
    have h5 : (2 ^ k : Nat) ≤ 4611686018427387904 := h1
    exact Int.ofNat_le.mpr h5
  generalize ((2 ^ k : Nat) : Int) = p at h2 h3 h4 ⊢
  generalize n % p = x at h2 h3 ⊢
  omega
theorem and7 (n : Int) : bits .and .i64 n 7 = n % 8 := andLow n 3 7 (by decide) (by decide)
theorem and31 (n : Int) : bits .and .i64 n 31 = n % 32 := andLow n 5 31 (by decide) (by decide)
theorem and127 (n : Int) : bits .and .i64 n 127 = n % 128 := andLow n 7 127 (by decide) (by decide)
theorem and1023 (n : Int) : bits .and .i64 n 1023 = n % 1024 := andLow n 10 1023 (by decide) (by decide)
/-- What a disk at rest tells when it is opened: the texts l; no epoch goes beyond G. -/
structure Kept (T : TD) (at_ : Int) (half : Nat) (l : List ByteArray) (G : Int) : Prop where
  site : Site T at_ half
  on : T.off = false
  disk : ∃ e wh b m, Disk T at_ half e wh b m ∧ textsB (b.extract 0 m) = l
  ne : l ≠ []
  eps : Eps T at_ half G
  g0 : 0 ≤ G
theorem Kept.wait (h : Kept T at_ half l G) : T.wait = [] := by
  obtain ⟨e, wh, b, m, hd, _⟩ := h.disk
  exact hd.wait
theorem Kept.mono {G' : Int} (h : Kept T at_ half l G) (hg : G ≤ G') : Kept T at_ half l G' := ⟨h.site, h.on, h.disk, h.ne, h.eps.mono hg, Int.le_trans h.g0 hg⟩
/-- What is not of its sectors, nor its power, may change. -/
theorem Kept.same {T' : TD} (h : Kept T at_ half l G) (hs : T'.size = T.size) (ho : T'.off = false) (hw : T'.wait = []) (hl : T'.last = T.last) : Kept T' at_ half l G := by
  have hg : T'.get = T.get := by
    funext i
    rw [get_last hw, get_last h.wait, hl]
  refine ⟨⟨h.site.at0, h.site.half1, by rw [hs]; exact h.site.fit, by rw [hs]; exact h.site.size⟩, ho, ?_, h.ne, ⟨by rw [hg]; exact h.eps.m, by rw [hg]; exact h.eps.p⟩, h.g0⟩
  obtain ⟨e, wh, b, m, hd, ht⟩ := h.disk
  refine ⟨e, wh, b, m, ⟨hw, ⟨by rw [hl]; exact hd.all.last, fun p hp => by rw [hw] at hp; cases hp⟩, by rw [hs]; exact hd.size, hd.e1, hd.wh01, by rw [hg]; exact hd.mast, by rw [hg]; exact hd.oth, by rw [hg]; exact hd.reads⟩, ht⟩
theorem blow_wait (h : T.wait = []) (kp : List Int) : (T.blow kp).on = { T with off := false, fuse := 0, keep := [] } ∨ T.off = true := by
  unfold TD.blow
  by_cases ho : T.off = true
  · exact .inr ho
  · rw [if_neg ho]
    unfold TD.fail TD.on
    rw [h]
    exact .inl (by obtain ⟨a, b, c, d, e, f, g⟩ := T; cases h; rfl)
theorem Kept.turned (h : Kept T at_ half l G) (kp : List Int) : Kept (T.blow kp).on at_ half l G ∧ (T.blow kp).on.fuse = 0 := by
  have hw := h.wait
  rcases blow_wait hw kp with e | e
  · rw [e]
    exact ⟨h.same rfl rfl hw rfl, rfl⟩
  · rw [h.on] at e; cases e
theorem enc_take (l : List ByteArray) (q : Nat) : encT l = encT (l.take q) ++ encT (l.drop q) := by
  rw [← encT_append, List.take_append_drop]
theorem InUse.kept (h : InUse T L at_ half l q) (hq : 1 ≤ q) (hE : L.epoch ≤ G) : Kept T at_ half (l.take q) G where
  site := h.site
  on := h.on
  disk := by
    refine ⟨L.epoch, L.which, encT l, (encT (l.take q)).size, h.disk, ?_⟩
    rw [enc_take l q, ext_of_app_left _ _ (Nat.le_refl _), ext_all]
    exact texts_enc _ (fun s hs => h.right s (List.mem_of_mem_take hs))
  ne := by
    intro e
    have h1 := congrArg List.length e
    rw [List.length_take] at h1
    have := h.qle
    rw [List.length_nil] at h1
    omega
  eps := h.eps.mono hE
  g0 := by have := h.disk.e1; omega
theorem HL.str_at {ds : List (Nat × Dev)} {e n c : Nat} {A : Option Addr} {zs : List ByteArray} (h : HL w W ds rest) (j : Nat) (hj : rest[j]? = some (.row Kd.string e (.slice A n c) zs)) (i : Nat) (hi : i < zs.length) : ∃ b, A = some ⟨b, 0, none⟩ ∧ zs.length ≤ c ∧ n = zs.length ∧ W.cell? ⟨b, i, none⟩ = some (.string zs[i]) := by
  obtain ⟨rs, _, _, hO⟩ := h
  obtain ⟨b, c', cs, h1, h2, _, hK, hcell, hf⟩ := hO.elem _ ((HL.index rs j).trans hj) i hi
  have hK' : cs = [.string zs[i]] := hK
  have h3 := hcell 0 (.string zs[i]) (by rw [hK']; rfl)
  rw [show i * Kd.string.sz + 0 = i from Nat.mul_one i] at h3
  obtain ⟨rfl, rfl, rfl⟩ := Value.slice.inj h1
  exact ⟨b, rfl, h2, rfl, h3⟩
/-! The calls. -/
set_option maxHeartbeats 1000000 in
theorem format_use {n : Nat} (h : HL w W (l1 ++ (d, (TD.new n).dev) :: l2) rest) (hs : Site (TD.new n) at_ half) (s : ByteArray) (hr : Right s) (h1 : s.size ≤ 16384) (h2 : s.size + 2 ≤ half * 242) (hT : Tab w) :
    Calls Tryd.prog 10 #[.pointer (some ⟨d, 0, none⟩), .int .i64 at_, .int .i64 half, .string s] W fun ex W' => ex = .returned (.int .i64 0) ∧ ∃ T, HL w W' (l1 ++ (d, T.dev) :: l2) rest ∧ Kept T at_ half [s] 1 ∧ T.fuse = 0 := by
  have hg := new_gk n at_ (2 * half)
  refine (format_calls h (new_all n at_).where rfl hs.at0 hs.half1 hs.fit hs.size (Nat.zero_le _) hT s hr.1 h1 h2 (by rw [hg]; decide)).mono ?_
  have hgr : (LG.fresh (TD.new n) at_ half).greatest = 0 := hg
  rcases (fresh_opened hs).switch 0 hr.1 h1 h2 (by rw [hgr]; decide) with ⟨a1, a2, a3, a4⟩ | ⟨a1, _⟩
  · rintro e w1 ⟨rfl, h3⟩
    rw [a1]
    rw [hgr] at a4
    refine ⟨rfl, _, h3, ?_, a3 rfl⟩
    have := a2.kept (Nat.le_refl _) (G := 1) (by omega)
    rwa [show [s].take 1 = [s] from rfl] at this
  · exact absurd rfl a1
set_option maxHeartbeats 1000000 in
theorem open_use (h : HL w W (l1 ++ (d, T.dev) :: l2) rest) (hk : Kept T at_ half l G) (hT : Tab w) :
    Calls Tryd.prog 11 #[.pointer (some ⟨d, 0, none⟩), .int .i64 at_, .int .i64 half] W fun ex W' => ∃ g A c, ex = .returned (.tuple #[.pointer (some ⟨g, 0, none⟩), .slice A l.length c, .int .i64 0]) ∧
      ∃ L, HL w W' (l1 ++ (d, T.dev) :: l2) (LT g d L :: .row Kd.string 9 (.slice A l.length c) l :: rest) ∧ Opened T L at_ half ∧ L.greatest ≤ G ∧ L.awaits = true ∧ L.bytes.size ≤ 1000000 ∧ L.half ≤ 512 := by
  obtain ⟨e, wh, b, m, hd, ht⟩ := hk.disk
  have hb : (b.extract 0 m).size ≤ 1000000 := by
    rw [ByteArray.size_extract]
    have := hd.reads.fits
    have := hk.site.half1.2
    omega
  have he := hd.e1
  refine (open_calls h hd.all.where hk.on hk.site.at0 hk.site.half1 hk.site.fit hk.site.size (by rw [hk.wait]; exact Nat.zero_le _) hT e wh hd.fk (by omega) hd.wh01 (b.extract 0 m) hd.rd hb (by rw [ht]; exact hk.ne)).mono ?_
  rintro ex w1 ⟨g, A, c, rfl, h1⟩
  rw [ht] at h1 ⊢
  exact ⟨g, A, c, rfl, _, h1, hd.opened hk.site hk.on, gk_le hk.g0 hk.eps _ (Nat.le_refl _), rfl, Nat.zero_le _, hk.site.half1.2⟩
set_option maxHeartbeats 1000000 in
theorem switch_use (h : HL w W (l1 ++ (d, T.dev) :: l2) (LT g d L :: rest)) (ho : Opened T L at_ half) (hf : T.fuse = 0) (hg : L.greatest ≤ G) (hG : G ≤ 1000000) (lsn : Int) (s : ByteArray) (hr : Right s) (h1 : s.size ≤ 16384) (h2 : s.size + 2 ≤ half * 242) (hT : Tab w) :
    Calls Tryd.prog 12 #[.pointer (some ⟨g, 0, none⟩), .int .i64 lsn, .string s] W fun ex W' => ex = .returned (.int .i64 0) ∧ ∃ T' L', HL w W' (l1 ++ (d, T'.dev) :: l2) (LT g d L' :: rest) ∧ InUse T' L' at_ half [s] 1 ∧ T'.fuse = 0 ∧ L'.epoch ≤ G + 1 := by
  have hg0 := ho.great
  refine (switch_calls h lsn s ⟨hg0, by omega⟩ ho.which (by rw [ho.lat]; exact ho.site.at0) (by rw [ho.lhalf]; exact ho.site.half1.2) (by rw [ho.wait]; exact Nat.zero_le _) (Nat.le_trans h1 (by decide)) hT).mono ?_
  rcases ho.switch lsn hr.1 h1 h2 (by omega) with ⟨a1, a2, a3, a4⟩ | ⟨a1, _⟩
  · rintro e w1 ⟨rfl, h3⟩
    rw [a1]
    exact ⟨rfl, _, _, h3, a2, a3 hf, by rw [a4]; omega⟩
  · exact absurd hf a1
theorem InUse.lim (h : InUse T L at_ half l q) : L.half ≤ 512 ∧ L.bytes.size ≤ L.half * 242 ∧ L.bytes.size ≤ 1000000 := by
  have h1 := h.site.half1.2
  have h2 := h.fits
  rw [h.lhalf, h.bytes]
  omega
theorem append_ok (h : HL w W (l1 ++ (d, T.dev) :: l2) (LT g d L :: rest)) (hu : InUse T L at_ half l q) (lsn : Int) (s : ByteArray) (h0 : s.size ≠ 0) (h1 : s.size ≤ 16384) (h2 : (encT l).size + (s.size + 2) ≤ half * 242) :
    Calls Tryd.prog 13 #[.pointer (some ⟨g, 0, none⟩), .int .i64 lsn, .string s] W fun ex W' => ex = .returned (.int .i64 0) ∧ ∃ L', HL w W' (l1 ++ (d, T.dev) :: l2) (LT g d L' :: rest) ∧ InUse T L' at_ half (l ++ [s]) q ∧ L'.epoch = L.epoch := by
  refine (append_calls h hu.lim.1 hu.lim.2.2 lsn s (Nat.le_trans h1 (by decide))).mono ?_
  obtain ⟨a1, a2⟩ := hu.append lsn h0 h1 h2
  rintro e w1 ⟨rfl, h3⟩
  rw [a1]
  refine ⟨rfl, _, h3, a2, ?_⟩
  unfold LG.append
  split
  · rfl
  · split
    · rfl
    · split <;> rfl
theorem append_no (h : HL w W (l1 ++ (d, T.dev) :: l2) (LT g d L :: rest)) (hu : InUse T L at_ half l q) (lsn : Int) (s : ByteArray) (h0 : s.size ≠ 0) (h1 : s.size ≤ 16384) (h2 : half * 242 < (encT l).size + (s.size + 2)) :
    Calls Tryd.prog 13 #[.pointer (some ⟨g, 0, none⟩), .int .i64 lsn, .string s] W fun ex W' => ex = .returned (.int .i64 9) ∧ HL w W' (l1 ++ (d, T.dev) :: l2) (LT g d L :: rest) := by
  refine (append_calls h hu.lim.1 hu.lim.2.2 lsn s (Nat.le_trans h1 (by decide))).mono ?_
  rw [hu.append_no lsn h0 h1 h2]
  exact fun e w1 h => h
theorem append_none (h : HL w W (l1 ++ (d, T.dev) :: l2) (LT g d L :: rest)) (hu : InUse T L at_ half l q) (lsn : Int) :
    Calls Tryd.prog 13 #[.pointer (some ⟨g, 0, none⟩), .int .i64 lsn, .string ⟨#[]⟩] W fun ex W' => ex = .returned (.int .i64 6) ∧ HL w W' (l1 ++ (d, T.dev) :: l2) (LT g d L :: rest) := by
  refine (append_calls h hu.lim.1 hu.lim.2.2 lsn ⟨#[]⟩ (Nat.zero_le _)).mono ?_
  rw [hu.append_nil lsn rfl]
  exact fun e w1 h => h
theorem append_opened (h : HL w W (l1 ++ (d, T.dev) :: l2) (LT g d L :: rest)) (ho : Opened T L at_ half) (ha : L.awaits = true) (hb : L.bytes.size ≤ 1000000) (lsn : Int) (s : ByteArray) (h1 : s.size ≤ 16384) :
    Calls Tryd.prog 13 #[.pointer (some ⟨g, 0, none⟩), .int .i64 lsn, .string s] W fun ex W' => ex = .returned (.int .i64 17) ∧ HL w W' (l1 ++ (d, T.dev) :: l2) (LT g d L :: rest) := by
  refine (append_calls h (by rw [ho.lhalf]; exact ho.site.half1.2) hb lsn s (Nat.le_trans h1 (by decide))).mono ?_
  have hr : readyE L T true = 17 := by
    unfold readyE
    rw [if_neg (by rw [ho.lon, ho.on]; simp), if_pos ⟨rfl, ha⟩]
  have : L.append T lsn s = (17, L) := by
    unfold LG.append
    rw [hr, if_pos (by decide)]
  rw [this]
  exact fun e w1 h => h
theorem flush_use (h : HL w W (l1 ++ (d, T.dev) :: l2) (LT g d L :: rest)) (hu : InUse T L at_ half l q) (hf : T.fuse = 0) (hE : L.epoch ≤ G) (hG : G ≤ 1000000) (hT : Tab w) :
    Calls Tryd.prog 14 #[.pointer (some ⟨g, 0, none⟩)] W fun ex W' => ex = .returned (.int .i64 0) ∧ ∃ T' L', HL w W' (l1 ++ (d, T'.dev) :: l2) (LT g d L' :: rest) ∧ InUse T' L' at_ half l l.length ∧ T'.fuse = 0 ∧ L'.epoch ≤ G := by
  have he := hu.disk.e1
  have hw := hu.disk.wait
  have hz : (encT (l.take q)).size ≤ (encT l).size := by rw [enc_take l q, ByteArray.size_append]; exact Nat.le_add_right _ _
  refine (flush_calls h ⟨by omega, by omega⟩ hu.disk.wh01 (by rw [hu.lat]; exact hu.site.at0) hu.lim.1 hu.lim.2.1 (by rw [hu.lasting, hu.bytes]; omega) (by rw [hw]; exact Nat.zero_le _) hT).mono ?_
  rcases hu.flush (by omega) with ⟨a1, a2, a3, a4⟩ | ⟨a1, _⟩
  · rintro e w1 ⟨rfl, h3⟩
    rw [a1]
    exact ⟨rfl, _, _, h3, a2, a3 hf, by rw [a4]; omega⟩
  · exact absurd hf a1
theorem room_opened {ds : List (Nat × Dev)} (h : HL w W ds (LT g d L :: rest)) (ha : L.awaits = true) (hb : L.bytes.size ≤ 1000000) (hh : L.half ≤ 512) :
    Calls Tryd.prog 16 #[.pointer (some ⟨g, 0, none⟩)] W fun ex W' => ex = .returned (.int .i64 0) ∧ HL w W' ds (LT g d L :: rest) := by
  have := room_calls h hh hb
  unfold roomE at this
  rwa [if_pos ha] at this
theorem room_use {ds : List (Nat × Dev)} (h : HL w W ds (LT g d L :: rest)) (hu : InUse T L at_ half l q) (n : Int) (hn : (half : Int) * 242 - (encT l).size = n) :
    Calls Tryd.prog 16 #[.pointer (some ⟨g, 0, none⟩)] W fun ex W' => ex = .returned (.int .i64 n) ∧ HL w W' ds (LT g d L :: rest) := by
  have := room_calls h hu.lim.1 hu.lim.2.2
  rwa [hu.room, hn] at this
end Go.Proofs.YtegeaemkkbenfaaDoor.Ownd

/- law08.speaks says true. Condition: the table lies as the program lays it. -/
namespace Go.Proofs.YtegeaemkkbenfaaDoor.Ownd
open Go.Shelf Go.RowKit Go.Proofs.YtegeaemkkbenfaaDoorW.PrintWords Go.Proofs.YtegeaemkkbenfaaDoorW.PrintLast Go.Proofs.YtegeaemkkbenfaaDoorW.PrintMore
set_option linter.unusedVariables false
set_option linter.unusedSimpArgs false
theorem siteNew {n half : Nat} {at_ : Int} (h0 : 0 ≤ at_) (h1 : 1 ≤ half ∧ half ≤ 512) (h2 : at_ + 2 + 2 * (half : Int) ≤ (n : Int)) (h3 : n ≤ 5000) : Site (TD.new n) at_ half := ⟨⟨h0, by omega⟩, h1, h2, h3⟩
def chA : ByteArray := ⟨#[97]⟩
def chB : ByteArray := ⟨#[98]⟩
def chC : ByteArray := ⟨#[99]⟩
theorem rightA : Right chA := ⟨by decide, by decide⟩
theorem rightB' : Right chB := ⟨by decide, by decide⟩
set_option maxHeartbeats 8000000 in
set_option maxRecDepth 100000 in
theorem speaks_calls {W : World} (hT : Tab W) : Calls Tryd.prog 8 #[] W fun ex W' => ex = .returned (.bool true) ∧ Below W.heap.size W W' := by
  have H0 := Aside0.mk (HL.start W)
  have HT := Aside0.mk hT
  clear hT
  go_enter Tryd.func8, Tryd.ntmps8
  go_upto_region 5 with (first
    | (go_at_call 9; refine (new_HL H0.out 10 (by decide) (by decide)).mono ?_; rintro e w1 ⟨d, rfl, h1⟩; have H1 : Aside0 (HL W w1 ([] ++ (d, (TD.new 10).dev) :: []) []) := ⟨h1⟩; clear h1 H0)
    | (go_at_call 10; refine (format_use H1.out (at_ := 1) (half := 2) (siteNew (by decide) (by decide) (by decide) (by decide)) chA rightA (by decide) (by decide) HT.out).mono ?_; rintro e w2 ⟨rfl, T, h2, hk, hf⟩; have H2 := Aside0.mk h2; have HK := Aside0.mk hk; clear h2 hk H1)
    | (go_at_call 11; refine (open_use H2.out HK.out HT.out).mono ?_; rintro e w3 ⟨g, A, c, rfl, L, h3, ho, hg, ha, hb, hh⟩; have H3 := Aside0.mk h3; have HO := Aside0.mk ho; clear h3 ho H2 HK))
  obtain ⟨b, rfl, hc1, -, z0⟩ := H3.out.str_at 1 rfl 0 (by decide)
  replace z0 : w3.cell? ⟨b, 0, none⟩ = some (.string ⟨#[97]⟩) := z0
  replace hc1 : 1 ≤ c := hc1
  go_upto_region 7 with (first
    | (go_at_call 16; refine (room_opened H3.out ha hb hh).mono ?_; rintro e w4 ⟨rfl, h4⟩; have H4 := Aside0.mk h4; clear h4 H3)
    | (go_at_call 13; refine (append_opened H4.out HO.out ha hb 2 chC (by decide)).mono ?_; rintro e w5 ⟨rfl, h5⟩; have H5 := Aside0.mk h5; clear h5 H4)
    | (go_at_call 12; refine (switch_use H5.out HO.out hf hg (by decide) 1 chB rightB' (by decide) (by decide) HT.out).mono ?_; rintro e w6 ⟨rfl, T6, L6, h6, hu, hf6, hE⟩; have H6 := Aside0.mk h6; have HU := Aside0.mk hu; clear h6 hu H5 HO))
  go_wp2_with (first
    | (go_at_call 16; refine (room_use H6.out HU.out 481 (by decide)).mono ?_; rintro e w7 ⟨rfl, h7⟩; have H7 := Aside0.mk h7; clear h7 H6)
    | (go_at_call 13; refine (append_ok H7.out HU.out 2 chC (by decide) (by decide) (by decide)).mono ?_; rintro e w8 ⟨rfl, L8, h8, hu8, hE8⟩; have H8 := Aside0.mk h8; have HU8 := Aside0.mk hu8; clear h8 hu8 H7 HU)
    | (go_at_call 14; refine (flush_use H8.out HU8.out hf6 (Int.le_trans (Int.le_of_eq hE8) hE) (by decide) HT.out).mono ?_; rintro e w9 ⟨rfl, T9, L9, h9, hu9, hf9, hE9⟩; have H9 := Aside0.mk h9; clear h9 hu9 H8 HU8))
  go_ret
  exact ⟨rfl, H9.out.bel⟩
end Go.Proofs.YtegeaemkkbenfaaDoor.Ownd

/- The small functions of the log's statements: opt, text, Size, Begins, May. Conditions: none. -/
namespace Go.Proofs.YtegeaemkkbenfaaDoor.Ownd
open Go.Shelf Go.RowKit Go.Proofs.YtegeaemkkbenfaaDoorW.PrintWords Go.Proofs.YtegeaemkkbenfaaDoorW.PrintLast Go.Proofs.YtegeaemkkbenfaaDoorW.PrintMore
set_option linter.unusedVariables false
set_option linter.unusedSimpArgs false
variable {w W : World}
set_option maxHeartbeats 2000000 in
set_option maxRecDepth 100000 in
theorem opt_calls (b : Bool) (n : Int) : Calls Tryd.prog 23 #[.bool b, .int .i64 n] W fun ex W' => ex = .returned (.int .i64 (if b = true then n else 0)) ∧ W' = W := by
  cases b with
  | true =>
    go_enter Tryd.func23, Tryd.ntmps23
    go_wp2
    go_ret
    exact ⟨rfl, rfl⟩
  | false =>
    go_enter Tryd.func23, Tryd.ntmps23
    go_wp2
    go_ret
    exact ⟨rfl, rfl⟩
theorem text1 (x0 : Int) (W : World) : (convert 32 9 (.slice (some ⟨W.heap.size, 0, none⟩) 1 1)).run Tryd.prog (W.alloc (.cells #[.int .u8 x0] 5)) = .ok (.string (strOfNums [x0])) (W.alloc (.cells #[.int .u8 x0] 5)) :=
  run_convert_bytes_arg (P := Tryd.prog) _ 32 5 Tryd.underlying32 Tryd.underlying5 W.heap.size 0 1 1 [x0] rfl (fun i hi => by
    have hb := blk_cell (blk_new W (.cells #[.int .u8 x0] 5)) (0 + i)
    rw [hb]
    match i, hi with
    | 0, _ => rfl) 9 Tryd.underlying9
/-- What law08.text makes of a text: at most 400 bytes of it, "x" if it is empty, and a number behind it. -/
def tx (s : ByteArray) (i : Nat) : ByteArray := (if min s.size 400 = 0 then ⟨#[120]⟩ else s.extract 0 (min s.size 400)) ++ strOfNums [(i : Int)]
theorem tx_size (s : ByteArray) (i : Nat) : 2 ≤ (tx s i).size ∧ (tx s i).size ≤ 401 := by
  unfold tx
  rw [ByteArray.size_append]
  have h1 : (strOfNums [(i : Int)]).size = 1 := rfl
  rw [h1]
  split
  · exact ⟨by decide, by decide⟩
  · have : (s.extract 0 (min s.size 400)).size = min s.size 400 := by rw [ByteArray.size_extract]; omega
    omega
theorem tx_right (s : ByteArray) (i : Nat) : Right (tx s i) := by
  have := tx_size s i
  exact ⟨by omega, by omega⟩
set_option maxHeartbeats 4000000 in
set_option maxRecDepth 100000 in
theorem text_calls (a c : Int) (v : Value) (s : ByteArray) (i : Nat) (hi : i < 256) : Calls Tryd.prog 20 #[.agg #[.int .i64 a, .string s, .int .i64 c, v], .int .i64 i] W fun ex W' => ex = .returned (.string (tx s i)) ∧ Below W.heap.size W W' := by
  obtain ⟨tt, htt⟩ : ∃ x, tx s i = x := ⟨_, rfl⟩
  rw [htt]
  unfold tx at htt
  have HX := htt
  clear htt
  have m1 : min (s.size : Int) 400 = ((min s.size 400 : Nat) : Int) := by omega
  have g1 : (0 : Int) ≤ ((min s.size 400 : Nat) : Int) := by omega
  have k1 : ((min s.size 400 : Nat) : Int) ≤ (s.size : Int) := by omega
  have c1 := blk_cell (blk_new W (.cells #[.int .i64 a, .string s, .int .i64 c, v] 46)) 1
  replace c1 : (W.alloc (.cells #[.int .i64 a, .string s, .int .i64 c, v] 46)).cell? ⟨W.heap.size, 1, none⟩ = some (.string s) := c1
  go_enter Tryd.func20, Tryd.ntmps20
  go_upto_region 2 with fail
  have HB := Aside0.mk (below_alloc (Below.refl W.heap.size W) (.cells #[.int .i64 a, .string s, .int .i64 c, v] 46))
  clear c1
  generalize W.alloc (.cells #[.int .i64 a, .string s, .int .i64 c, v] 46) = w0 at HB ⊢
  have hz : (s.extract 0 (min s.size 400)).size = min s.size 400 := by rw [ByteArray.size_extract]; omega
  have hcv := text1 (i : Int) w0
  have hiw : IntKind.u8.wrap (i : Int) = (i : Int) := by rw [IntKind.wrap_u8]; omega
  clear m1 g1 k1
  by_cases h0 : min s.size 400 = 0
  · rw [if_pos h0] at HX
    rw [h0] at hz ⊢
    have he : s.extract 0 0 = ⟨#[]⟩ := b_ext (List.eq_nil_of_length_eq_zero (by rw [b_len, hz]))
    rw [he]
    clear hz h0 he
    go_wp2_with fail
    go_ret
    exact ⟨rfl, below_alloc HB.out _⟩
  · rw [if_neg h0] at HX
    have hne := ne_nil_of (s := s.extract 0 (min s.size 400)) (by rw [hz]; exact h0)
    have hm : (s.extract 0 (min s.size 400)).size ≤ 400 := by omega
    clear hz h0
    generalize s.extract 0 (min s.size 400) = t at *
    have hlen : ¬ (9223372036854775807 < t.size + (strOfNums [(i : Int)]).size) := by rw [show (strOfNums [(i : Int)]).size = 1 from rfl]; omega
    go_wp2_with fail
    go_ret
    exact ⟨rfl, below_alloc HB.out _⟩
theorem str_at {A : Option Addr} {n : Nat} {xs : List ByteArray} (h : Kd.C Kd.string W A n xs) (k : Nat) (hk : k < xs.length) (hn : n = xs.length) : ∃ ad : Addr, A = some ad ∧ W.cell? (ad.add k) = some (.string xs[k]) := by
  obtain ⟨ad, e, h0⟩ := Kd.at_string h (k : Int) (by omega) (by omega)
  refine ⟨ad, e, ?_⟩
  simp only [Int.toNat_natCast] at h0
  rw [h0]
  simp [rdOf, List.getD_eq_getElem?_getD, List.getElem?_eq_getElem hk]
theorem sz_lt {k n : Nat} (h : k < n) : decide ((k : Int) < (n : Int)) = true := decide_eq_true (by omega)
theorem sz_no (n : Nat) : decide ((n : Int) < (n : Int)) = false := decide_eq_false (by omega)
theorem sz_w {k n : Nat} (h : k < n) (hn : n ≤ 1000000) : wrap64 ((k : Int) + 1) = ((k + 1 : Nat) : Int) := by unfold wrap64; omega
theorem sz_a {a z : Nat} (ha : a + 2 + z ≤ 1000000000) : wrap64 ((a : Int) + wrap64 (2 + (z : Int))) = ((a + (2 + z) : Nat) : Int) := by unfold wrap64; omega
theorem sz_b {a z : Nat} (ha : a + 2 + z ≤ 1000000000) : wrap64 (2 + (z : Int)) = 2 + (z : Int) := by unfold wrap64; omega
theorem sz_m {k n g : Nat} (h : k < n) (hg : n - k ≤ g) : n - (k + 1) < g := by omega
set_option maxHeartbeats 4000000 in
set_option maxRecDepth 100000 in
theorem size_calls {A : Option Addr} {c : Nat} {l : List ByteArray} (hC : Kd.C Kd.string W A l.length l) (hc : l.length ≤ c) (hl : l.length ≤ 1000000) (hz : (encT l).size ≤ 1000000) : Calls Tryd.prog 22 #[.slice A l.length c] W fun ex W' => ex = .returned (.int .i64 (encT l).size) ∧ W' = W := by
  have HC := Aside0.mk hC
  have HZ := Aside0.mk hz
  clear hC hz
  go_enter Tryd.func22, Tryd.ntmps22
  go_wp2_with fail
  go_loopg [3, 4] l.length (fun gg s3 s4 wr => ∃ k : Nat, k ≤ l.length ∧ l.length - k ≤ gg ∧ s3 = .int .i64 ((encT (l.take k)).size : Nat) ∧ s4 = .int .i64 k ∧ wr = W)
  case atStart => exact ⟨0, Nat.zero_le _, Nat.le_refl _, rfl, rfl, rfl⟩
  case round =>
    obtain ⟨k, hk, hg, rfl, rfl, hwr⟩ := hrel
    rw [hwr]
    clear hwr
    by_cases hlt : k < l.length
    · obtain ⟨ad, rfl, y0⟩ := str_at HC.out k hlt rfl
      have hs : (encT (l.take (k + 1))).size = (encT (l.take k)).size + (2 + l[k].size) := by
        rw [List.take_succ_eq_append_getElem hlt, encT_snoc, ByteArray.size_append, textB_size]; omega
      have hb : (encT (l.take (k + 1))).size ≤ 1000000 := by
        have := HZ.out
        rw [enc_take l (k + 1), ByteArray.size_append] at this
        omega
      have d1 := sz_lt hlt
      have hw := sz_w hlt hl
      have hwa : wrap64 (((encT (l.take k)).size : Int) + wrap64 (2 + (l[k].size : Int))) = (((encT (l.take (k + 1))).size : Nat) : Int) := by rw [hs]; exact sz_a (by omega)
      have hwb : wrap64 (2 + (l[k].size : Int)) = 2 + (l[k].size : Int) := sz_b (a := 0) (by omega)
      rw [hwb] at hwa
      clear hs hb
      generalize l[k] = x at *
      generalize (encT (l.take k)).size = a at *
      generalize ha2 : (encT (l.take (k + 1))).size = a2 at *
      go_wp2_with fail
      go_roundg (l.length - (k + 1))
      case measure => exact sz_m hlt hg
      case rel => exact ⟨k + 1, hlt, Nat.le_refl _, by rw [ha2, hwa], by first | rfl | rw [hw], rfl⟩
    · obtain rfl : k = l.length := by omega
      rw [List.take_length]
      have d1 := sz_no l.length
      go_wp2_with fail
      go_ret
      exact ⟨rfl, rfl⟩
theorem begins_yes {a b : List ByteArray} (h1 : a.length ≤ b.length) (h2 : ∀ (k : Nat) (h : k < a.length), a[k] = b[k]'(by omega)) : a = b.take a.length := by
  apply List.ext_getElem
  · rw [List.length_take]; omega
  · intro i h3 h4
    rw [List.getElem_take]
    exact h2 i h3
set_option maxHeartbeats 4000000 in
set_option maxRecDepth 100000 in
theorem begins_calls {A B : Option Addr} {c c' : Nat} {a b : List ByteArray} (hA : Kd.C Kd.string W A a.length a) (hB : Kd.C Kd.string W B b.length b) (hca : a.length ≤ c) (hcb : b.length ≤ c') (hl : a.length ≤ 1000000) (r : Bool) (hr : r = decide (a = b.take a.length ∧ a.length ≤ b.length)) :
    Calls Tryd.prog 19 #[.slice A a.length c, .slice B b.length c'] W fun ex W' => ex = .returned (.bool r) ∧ Below W.heap.size W W' := by
  have HA := Aside0.mk hA
  have HB := Aside0.mk hB
  have HR := Aside0.mk hr
  clear hA hB hr
  by_cases hgt : b.length < a.length
  · have hr0 : r = false := by rw [HR.out]; exact decide_eq_false (by omega)
    subst hr0
    have d0 : decide ((b.length : Int) < (a.length : Int)) = true := decide_eq_true (by omega)
    go_enter Tryd.func19, Tryd.ntmps19
    go_wp2_with fail
    go_ret
    exact ⟨rfl, Below.refl _ _⟩
  · have d0 : decide ((b.length : Int) < (a.length : Int)) = false := decide_eq_false (by omega)
    go_enter Tryd.func19, Tryd.ntmps19
    go_wp2_with fail
    clear d0
    go_loopg [5] a.length (fun gg s5 wr => ∃ k : Nat, k ≤ a.length ∧ a.length - k ≤ gg ∧ s5 = .int .i64 k ∧ Aside0 (Below W.heap.size W wr) ∧ ∀ (j : Nat) (h : j < a.length), j < k → a[j] = b[j]'(by omega))
    case atStart => exact ⟨0, Nat.zero_le _, Nat.le_refl _, rfl, ⟨Below.refl _ _⟩, fun j _ h => absurd h (Nat.not_lt_zero _)⟩
    case round =>
      obtain ⟨k, hk, hg, rfl, HW, hsame⟩ := hrel
      have HS := Aside0.mk hsame
      clear hsame
      by_cases hlt : k < a.length
      · have hlb : k < b.length := by omega
        obtain ⟨ad, rfl, x0⟩ := str_at HA.out k hlt rfl
        obtain ⟨ad', rfl, y0⟩ := str_at HB.out k hlb rfl
        replace x0 := (HW.out.cell (World.block_lt_of_cell? W _ x0)).trans x0
        replace y0 := (HW.out.cell (World.block_lt_of_cell? W _ y0)).trans y0
        have d1 := sz_lt hlt
        have d2 := sz_lt hlb
        have hw := sz_w hlt hl
        by_cases he : a[k] = b[k]
        · have HE := Aside0.mk he
          rw [he] at x0
          clear he
          generalize b[k] = y at x0 y0
          go_upto_region 6 with fail
          go_quiet (fail)
          go_wp2_with fail
          go_roundg (a.length - (k + 1))
          case measure => exact sz_m hlt hg
          case rel => exact ⟨k + 1, hlt, Nat.le_refl _, by first | rfl | rw [hw], ⟨pw_below_drewN HW.out nq⟩, fun j h h2 => by
            by_cases hjk : j = k
            · subst hjk; exact HE.out
            · exact HS.out j h (by omega)⟩
        · have hr0 : r = false := by
            rw [HR.out]
            refine decide_eq_false (fun ⟨h1, h2⟩ => he ?_)
            have h3 : a[k]? = (b.take a.length)[k]? := congrArg (·[k]?) h1
            rw [List.getElem?_eq_getElem hlt, List.getElem?_take, if_pos hlt, List.getElem?_eq_getElem hlb] at h3
            exact Option.some.inj h3
          subst hr0
          have hne := ne_toList he
          clear he
          generalize b[k] = y at hne y0
          generalize a[k] = x at hne x0
          go_upto_region 6 with fail
          go_quiet (fail)
          go_wp2_with fail
          go_ret
          exact ⟨rfl, pw_below_drewN HW.out nq⟩
      · obtain rfl : k = a.length := by omega
        have hr0 : r = true := by
          rw [HR.out]
          exact decide_eq_true ⟨begins_yes (by omega) (fun j h => HS.out j h h), by omega⟩
        subst hr0
        have d1 := sz_no a.length
        go_wp2_with fail
        go_ret
        exact ⟨rfl, HW.out⟩
set_option maxHeartbeats 4000000 in
set_option maxRecDepth 100000 in
theorem may_calls {A B : Option Addr} {c c' : Nat} {a b : List ByteArray} (q : Nat) (hA : Kd.C Kd.string W A a.length a) (hB : Kd.C Kd.string W B b.length b) (hca : a.length ≤ c) (hcb : b.length ≤ c') (hl : a.length ≤ 1000000) (r : Bool) (hr : r = decide ((a = b.take a.length ∧ a.length ≤ b.length) ∧ q ≤ a.length)) :
    Calls Tryd.prog 25 #[.agg #[.slice B b.length c', .int .i64 q], .slice A a.length c] W fun ex W' => ex = .returned (.bool r) ∧ Below W.heap.size W W' := by
  have hA' := Kd.Heap.C Kd.heap_string (w := W) (w1 := W.alloc (.cells #[.slice B b.length c', .int .i64 q] 50)) (fun k hk => (below_alloc (Below.refl _ _) _).block k hk) hA
  have hB' := Kd.Heap.C Kd.heap_string (w := W) (w1 := W.alloc (.cells #[.slice B b.length c', .int .i64 q] 50)) (fun k hk => (below_alloc (Below.refl _ _) _).block k hk) hB
  have hbg := begins_calls hA' hB' hca hcb hl _ rfl
  have HBG := Aside0.mk hbg
  clear hbg hA hB hA' hB'
  have c0 := blk_cell (blk_new W (.cells #[.slice B b.length c', .int .i64 q] 50)) 0
  have c1 := blk_cell (blk_new W (.cells #[.slice B b.length c', .int .i64 q] 50)) 1
  replace c0 : (W.alloc (.cells #[.slice B b.length c', .int .i64 q] 50)).cell? ⟨W.heap.size, 0, none⟩ = some (.slice B b.length c') := c0
  replace c1 : (W.alloc (.cells #[.slice B b.length c', .int .i64 q] 50)).cell? ⟨W.heap.size, 1, none⟩ = some (.int .i64 q) := c1
  have HW := Aside0.mk (below_alloc (Below.refl W.heap.size W) (.cells #[.slice B b.length c', .int .i64 q] 50))
  by_cases h : a = b.take a.length ∧ a.length ≤ b.length
  · rw [decide_eq_true h] at HBG
    have hr1 : r = decide (q ≤ a.length) := by rw [hr]; exact decide_eq_decide.mpr ⟨fun x => x.2, fun x => ⟨h, x⟩⟩
    clear hr h
    go_enter Tryd.func25, Tryd.ntmps25
    go_wp2_with (go_at_call 19; refine HBG.out.mono ?_; rintro e w1 ⟨rfl, h1⟩; have H1 := Aside0.mk (below_step HW.out h1); have y1 := (h1.cell (World.block_lt_of_cell? _ _ c1)).trans c1; clear h1)
    go_ret
    exact ⟨by rw [hr1]; rfl, H1.out⟩
  · rw [decide_eq_false h] at HBG
    obtain rfl : r = false := by rw [hr]; exact decide_eq_false (fun h2 => h h2.1)
    clear hr h
    go_enter Tryd.func25, Tryd.ntmps25
    go_wp2_with (go_at_call 19; refine HBG.out.mono ?_; rintro e w1 ⟨rfl, h1⟩; have H1 := Aside0.mk (below_step HW.out h1); have y1 := (h1.cell (World.block_lt_of_cell? _ _ c1)).trans c1; clear h1)
    go_ret
    exact ⟨rfl, H1.out⟩
end Go.Proofs.YtegeaemkkbenfaaDoor.Ownd
