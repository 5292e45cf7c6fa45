/- What reads a log's sectors: HasPrefix, readMaster, readPiece, of sectors that are noughts, a master, a piece. Condition: the table lies as the program lays it. -/
import Derived.Test.YtegeaemkkbenfaaDoorWSeal
import Derived.Deep.QuietTactic
import Derived.BigQuiet
namespace Go.Proofs.YtegeaemkkbenfaaDoor.Ownd
open Go.RowKit Go.Proofs.YtegeaemkkbenfaaDoorW.PrintWords Go.Proofs.YtegeaemkkbenfaaDoorW.PrintLast Go.Proofs.YtegeaemkkbenfaaDoorW.PrintMore
set_option linter.unusedVariables false
set_option linter.unusedSimpArgs false
variable {W : World}
set_option maxHeartbeats 2000000 in
set_option maxRecDepth 100000 in
theorem hpl_yes (s p : ByteArray) (h : p.size ≤ s.size) (he : s.extract 0 p.size = p) : Calls Tryd.prog 60 #[.string s, .string p] W fun ex W' => ex = .returned (.bool true) ∧ W' = W := by
  have h1 : (p.size : Int) ≤ (s.size : Int) := by omega
  have h0 := fgeI p.size
  go_enter Tryd.func60, Tryd.ntmps60
  go_wp2
  go_ret
  exact ⟨rfl, rfl⟩
set_option maxHeartbeats 2000000 in
set_option maxRecDepth 100000 in
theorem hp_yes (s p : ByteArray) (h : p.size ≤ s.size) (he : s.extract 0 p.size = p) : Calls Tryd.prog 53 #[.string s, .string p] W fun ex W' => ex = .returned (.bool true) ∧ W' = W := by
  have HC := Aside0.mk (hpl_yes (W := W) s p h he)
  clear h he
  go_enter Tryd.func53, Tryd.ntmps53
  go_wp2_with (go_at_call 60; refine HC.out.mono ?_; rintro e w1 ⟨rfl, h1⟩; rw [h1]; clear h1)
  go_ret
  exact ⟨rfl, rfl⟩
set_option maxHeartbeats 4000000 in
set_option maxRecDepth 100000 in
theorem rm_yes (s : ByteArray) (hs : s.size = 256) (e h : Int) (h0 : 1 ≤ e) (h1 : e < 281474976710656) (g0 : 0 ≤ h) (g1 : h ≤ 1) (he : getN (s.extract 2 8) = e) (h8 : ((s[8]'(by omega)).toNat : Int) = h) (hp : s.extract 0 13 = masterB e h) (hT : Tab W) :
    Calls Tryd.prog 44 #[.string s] W fun ex W' => ex = .returned (.tuple #[.int .i64 e, .int .i64 h, .bool true]) ∧ Below W.heap.size W W' := by
  have HG := Aside0.mk (fun W' : World => get_calls (W := W') (s.extract 2 8) (by rw [ByteArray.size_extract]; omega))
  rw [he] at HG
  have HM := Aside0.mk (fun W' hT' => master_calls (W := W') e h (by omega) h1 g0 (by omega) hT')
  have HP := Aside0.mk (fun W' : World => hp_yes (W := W') s (masterB e h) (by rw [masterB_size]; omega) (by rw [masterB_size]; exact hp))
  have HT := Aside0.mk hT
  have hh : ¬ ((1 : Int) < h) := by omega
  have hh2 : ¬ (e < (1 : Int)) := by omega
  have hwh : wrap64 ((s[8]'(by omega)).toNat : Int) = h := by rw [h8]; unfold wrap64; omega
  have hwh2 : IntKind.i64.wrap ((s[8]'(by omega)).toNat : Int) = h := by rw [h8, IntKind.wrap_i64]; omega
  clear hT h0 h1 g0 g1 he hp
  generalize masterB e h = m at HM HP
  go_enter Tryd.func44, Tryd.ntmps44
  go_upto_region 1 with fail
  go_quiet ((go_at_call 48; exact Calls.quiet_of_same (HG.out _)))
  have HB : Aside0 (Below W.heap.size W (W.drewN nq)) := ⟨pw_below_drewN (Below.refl _ _) nq⟩
  generalize W.drewN nq = w1 at HB ⊢
  go_wp2_with (first
    | (go_at_call 38; refine (HM.out _ (HT.out.below HB.out)).mono ?_; rintro e w2 ⟨rfl, h2⟩; have H2 := Aside0.mk (HB.out.trans (h2.mono HB.out.size)); clear h2 HM)
    | (go_at_call 53; refine (HP.out _).mono ?_; rintro e w3 ⟨rfl, h3⟩; rw [h3]; clear h3 HP))
  refine bodyPost_ret (results_tmp3 rfl _ _ _) rfl ?_
  exact ⟨rfl, H2.out⟩
set_option maxHeartbeats 4000000 in
set_option maxRecDepth 100000 in
theorem rm_no (s : ByteArray) (hs : s.size = 256) (he : getN (s.extract 2 8) = 0) (h8 : (s[8]'(by omega)).toNat = 0) :
    Calls Tryd.prog 44 #[.string s] W fun ex W' => ex = .returned (.tuple #[.int .i64 0, .int .i64 0, .bool false]) ∧ Below W.heap.size W W' := by
  have HG := Aside0.mk (fun W' : World => get_calls (W := W') (s.extract 2 8) (by rw [ByteArray.size_extract]; omega))
  rw [he] at HG
  have hwh : wrap64 ((s[8]'(by omega)).toNat : Int) = 0 := by rw [h8]; unfold wrap64; omega
  have hwh2 : IntKind.i64.wrap ((s[8]'(by omega)).toNat : Int) = 0 := by rw [h8, IntKind.wrap_i64]; omega
  clear he
  go_enter Tryd.func44, Tryd.ntmps44
  go_upto_region 1 with fail
  go_quiet ((go_at_call 48; exact Calls.quiet_of_same (HG.out _)))
  go_wp2_with fail
  refine bodyPost_ret (results_tmp3 rfl _ _ _) rfl ?_
  exact ⟨rfl, pw_below_drewN (Below.refl _ _) nq⟩
theorem results_tmp4 {fn : Func} {t u v x : Tmp} (h : fn.results = #[.tmp t, .tmp u, .tmp v, .tmp x]) (tmps : Array Value) (P : Program) (w : World) :
    (results fn tmps).run P w = .ok (.tuple #[tmps.getD t undef, tmps.getD u undef, tmps.getD v undef, tmps.getD x undef]) w := by
  simp [results, h]
set_option maxHeartbeats 4000000 in
set_option maxRecDepth 100000 in
theorem rp_no (s : ByteArray) (hs : s.size = 256) (hne : s.extract 252 256 ≠ mark (s.extract 0 252)) (hT : Tab W) :
    Calls Tryd.prog 30 #[.string s] W fun ex W' => ex = .returned (.tuple #[.int .i64 0, .int .i64 0, .string ⟨#[]⟩, .bool false]) ∧ Below W.heap.size W W' := by
  have HO := Aside0.mk (open_bad (W := W) s 252 (by omega) hs hT hne)
  clear hT hne
  go_enter Tryd.func30, Tryd.ntmps30
  go_wp2_with (go_at_call 47; refine HO.out.mono ?_; rintro e w1 ⟨rfl, h1⟩; have H1 := Aside0.mk h1; clear h1)
  refine bodyPost_ret (results_tmp4 rfl _ _ _) rfl ?_
  exact ⟨rfl, H1.out⟩
set_option maxHeartbeats 4000000 in
set_option maxRecDepth 100000 in
theorem rp_yes (s b t : ByteArray) (e i : Int) (hs : s.size = 256) (hb : s.extract 0 252 = b) (hok : s.extract 252 256 = mark b) (ht : t.size ≤ 242) (hn : getN (b.extract 8 10) = t.size) (he : getN (b.extract 0 6) = e) (hi : getN (b.extract 6 8) = i) (hx : b.extract 10 (10 + t.size) = t) (hT : Tab W) :
    Calls Tryd.prog 30 #[.string s] W fun ex W' => ex = .returned (.tuple #[.int .i64 e, .int .i64 i, .string t, .bool true]) ∧ Below W.heap.size W W' := by
  have hbs : b.size = 252 := by rw [← hb, ByteArray.size_extract]; omega
  have HO := Aside0.mk (open_ok (W := W) s 252 (by omega) hs hT (by rw [hb]; exact hok))
  rw [hb] at HO
  have HN := Aside0.mk (fun W' : World => get_calls (W := W') (b.extract 8 10) (by rw [ByteArray.size_extract]; omega))
  have HE := Aside0.mk (fun W' : World => get_calls (W := W') (b.extract 0 6) (by rw [ByteArray.size_extract]; omega))
  have HI := Aside0.mk (fun W' : World => get_calls (W := W') (b.extract 6 8) (by rw [ByteArray.size_extract]; omega))
  rw [hn] at HN
  rw [he] at HE
  rw [hi] at HI
  obtain ⟨n, hn⟩ : ∃ n, t.size = n := ⟨_, rfl⟩
  rw [hn] at HN hx ht
  have hn2 : ¬ ((242 : Int) < (n : Int)) := by omega
  have hw2 : IntKind.i64.wrap (10 + (n : Int)) = 10 + (n : Int) := by rw [IntKind.wrap_i64]; omega
  have hl1 : (10 : Int) + (n : Int) ≤ 252 := by omega
  have hl2 : (10 : Int) ≤ 10 + (n : Int) := by omega
  have hl3 : ((10 : Int) + (n : Int)).toNat = 10 + n := by omega
  clear hT he hi hb hok
  go_enter Tryd.func30, Tryd.ntmps30
  go_upto_region 7 with (first
    | (go_at_call 47; refine HO.out.mono ?_; rintro e w1 ⟨rfl, h1⟩; have H1 := Aside0.mk h1; clear h1)
    | (go_at_call 48; refine (HN.out _).mono ?_; rintro e w2 ⟨rfl, h2⟩; rw [h2]; clear h2))
  clear hn2
  go_quiet ((go_at_call 48; first | with_reducible exact Calls.quiet_of_same (HE.out _) | with_reducible exact Calls.quiet_of_same (HI.out _)))
  go_wp2_with fail
  refine bodyPost_ret (results_tmp4 rfl _ _ _) rfl ?_
  exact ⟨rfl, H1.out.trans (pw_below_drewN (Below.refl _ _) nq)⟩
/-! The sectors. -/
theorem zs_ne : (Bld.zs 256).extract 252 256 ≠ mark ((Bld.zs 256).extract 0 252) := by
  intro h
  have h2 := congrArg (fun s : ByteArray => s.data.toList) h
  revert h2
  decide +kernel
/-- What may stand in a sector of a log: noughts, a master (its epoch and half), a piece (its epoch, its place, its bytes). -/
inductive Ct where
  | z
  | m (e h : Int)
  | p (e i : Int) (s : ByteArray)
def Ct.enc : Ct → ByteArray
  | .z => Bld.zs 256
  | .m e h => pad (masterB e h)
  | .p e i s => pieceB e i s
def Ct.Ok : Ct → Prop
  | .z => True
  | .m e h => 1 ≤ e ∧ e < 281474976710656 ∧ 0 ≤ h ∧ h ≤ 1
  | .p e i s => 0 ≤ e ∧ e < 281474976710656 ∧ 0 ≤ i ∧ i < 65536 ∧ s.size ≤ 242
def Ct.rmV : Ct → Array Value
  | .z => #[.int .i64 0, .int .i64 0, .bool false]
  | .m e g => #[.int .i64 e, .int .i64 g, .bool true]
  | .p _ _ _ => #[.int .i64 0, .int .i64 0, .bool false]
def Ct.rpV : Ct → Array Value
  | .z => #[.int .i64 0, .int .i64 0, .string ⟨#[]⟩, .bool false]
  | .m _ _ => #[.int .i64 0, .int .i64 0, .string ⟨#[]⟩, .bool false]
  | .p e i s => #[.int .i64 e, .int .i64 i, .string s, .bool true]
def Ct.isM : Ct → Prop
  | .z => True
  | .m _ _ => True
  | .p _ _ _ => False
def Ct.isP : Ct → Prop
  | .z => True
  | .m _ _ => False
  | .p _ _ _ => True
theorem Ct.enc_size {c : Ct} (h : c.Ok) : c.enc.size = 256 := by
  cases c with
  | z => exact Bld.zs_size 256
  | m e g => exact pad_size (by rw [masterB_size]; decide)
  | p e i s => exact pieceB_size e i h.2.2.2.2
theorem strs_list (l : List Int) : (strOfNums l).data.toList = l.map (fun n => UInt8.ofNat n.toNat) := rfl
theorem mid_list (a b c : List UInt8) {i n : Nat} (ha : a.length = i) (hb : b.length = n) : ((a ++ (b ++ c)).drop i).take n = b := by
  rw [← ha, List.drop_left, ← hb, List.take_left]
theorem master_list (e h : Int) : (masterB e h).data.toList = [67, 77] ++ ((put6 e).data.toList ++ ((put1 h).data.toList ++ (mark ((⟨#[67, 77]⟩ ++ put6 e) ++ put1 h)).data.toList)) := by
  unfold masterB sealB
  rw [b_append, b_append, b_append, List.append_assoc, List.append_assoc]
theorem pad_master_list (e h : Int) : ∃ r : List UInt8, (pad (masterB e h)).data.toList = [67, 77] ++ ((put6 e).data.toList ++ ((put1 h).data.toList ++ r)) := by
  refine ⟨(mark ((⟨#[67, 77]⟩ ++ put6 e) ++ put1 h)).data.toList ++ (Bld.zs (256 - (masterB e h).size)).data.toList, ?_⟩
  unfold pad
  rw [b_append, master_list, List.append_assoc, List.append_assoc, List.append_assoc]
theorem put6_len (n : Int) : (put6 n).data.toList.length = 6 := rfl
theorem put2_len (n : Int) : (put2 n).data.toList.length = 2 := rfl
theorem zs_get : getN ((Bld.zs 256).extract 2 8) = 0 := by decide +kernel
theorem zs_8 : ((Bld.zs 256)[8]'(by rw [Bld.zs_size]; decide)).toNat = 0 := by decide +kernel
theorem rm_calls {c : Ct} (h : c.Ok) (hm : c.isM) (hT : Tab W) : Calls Tryd.prog 44 #[.string c.enc] W fun ex W' => ex = .returned (.tuple c.rmV) ∧ Below W.heap.size W W' := by
  have hz := Ct.enc_size h
  cases c with
  | z => exact rm_no (Bld.zs 256) (Bld.zs_size 256) zs_get zs_8
  | m e g =>
    obtain ⟨h0, h1, g0, g1⟩ := h
    obtain ⟨r, hr⟩ := pad_master_list e g
    refine rm_yes _ hz e g h0 h1 g0 g1 ?_ ?_ ?_ hT
    · change getN ((pad (masterB e g)).extract 2 8) = e
      refine Eq.trans (b := getN (put6 e)) ?_ (get_put6 e (by omega) h1)
      unfold getN
      rw [b_extract, hr, mid_list _ _ _ (show ([67, 77] : List UInt8).length = 2 from rfl) (put6_len e)]
    · have h8 : (pad (masterB e g))[8]'(by rw [show (pad (masterB e g)).size = 256 from hz]; decide) = UInt8.ofNat g.toNat := by
        have h1 : (pad (masterB e g)).data.toList[8]? = some (UInt8.ofNat g.toNat) := by rw [hr]; rfl
        have h2 : 8 < (pad (masterB e g)).data.toList.length := by rw [b_len, show (pad (masterB e g)).size = 256 from hz]; decide
        rw [List.getElem?_eq_getElem h2] at h1
        exact Option.some.inj h1
      exact (congrArg (fun x : UInt8 => ((x.toNat : Nat) : Int)) h8).trans (byte_of g0 (by omega))
    · show (pad (masterB e g)).extract 0 13 = _
      unfold pad
      rw [show (13 : Nat) = (masterB e g).size from (masterB_size e g).symm]
      exact ext_left _ _
  | p e i s => exact hm.elim
theorem piece_body (e i : Int) {s : ByteArray} (hs : s.size ≤ 242) : (pieceB e i s).extract 0 252 = (((put6 e ++ put2 i) ++ put2 s.size) ++ s) ++ Bld.zs (242 - s.size) := by
  unfold pieceB sealB
  have hb := body252 e i hs
  generalize (((put6 e ++ put2 i) ++ put2 s.size) ++ s) ++ Bld.zs (242 - s.size) = b at hb
  have := ext_left b (mark b)
  rwa [hb] at this
theorem piece_mark (e i : Int) {s : ByteArray} (hs : s.size ≤ 242) : (pieceB e i s).extract 252 256 = mark ((((put6 e ++ put2 i) ++ put2 s.size) ++ s) ++ Bld.zs (242 - s.size)) := by
  unfold pieceB sealB
  have hb := body252 e i hs
  generalize (((put6 e ++ put2 i) ++ put2 s.size) ++ s) ++ Bld.zs (242 - s.size) = b at hb
  have := ext_right b (mark b)
  rwa [ByteArray.size_append, mark_size, hb] at this
theorem rp_calls {c : Ct} (h : c.Ok) (hm : c.isP) (hT : Tab W) : Calls Tryd.prog 30 #[.string c.enc] W fun ex W' => ex = .returned (.tuple c.rpV) ∧ Below W.heap.size W W' := by
  have hz := Ct.enc_size h
  cases c with
  | z => exact rp_no _ hz zs_ne hT
  | m e g => exact hm.elim
  | p e i s =>
    obtain ⟨h0, h1, i0, i1, hs⟩ := h
    have hl : ((((put6 e ++ put2 i) ++ put2 s.size) ++ s) ++ Bld.zs (242 - s.size)).data.toList = (put6 e).data.toList ++ ((put2 i).data.toList ++ ((put2 s.size).data.toList ++ (s.data.toList ++ (Bld.zs (242 - s.size)).data.toList))) := by
      simp only [b_append, List.append_assoc]
    refine rp_yes _ _ s e i hz (piece_body e i hs) (piece_mark e i hs) hs ?_ ?_ ?_ ?_ hT
    · refine Eq.trans (b := getN (put2 s.size)) ?_ (get_put2 (s.size : Int) (by omega) (by omega))
      unfold getN
      rw [b_extract, hl, ← List.append_assoc, mid_list _ _ _ (by rw [List.length_append, put6_len, put2_len]) (put2_len _)]
    · refine Eq.trans (b := getN (put6 e)) ?_ (get_put6 e h0 h1)
      unfold getN
      rw [b_extract, hl]
      rw [List.drop_zero, show 6 - 0 = (put6 e).data.toList.length from (put6_len e).symm, List.take_left]
    · refine Eq.trans (b := getN (put2 i)) ?_ (get_put2 i i0 i1)
      unfold getN
      rw [b_extract, hl, mid_list _ _ _ (put6_len e) (put2_len i)]
    · apply b_ext
      rw [b_extract, hl, ← List.append_assoc, ← List.append_assoc, mid_list _ _ _ (by rw [List.length_append, List.length_append, put6_len, put2_len, put2_len]) (show s.data.toList.length = 10 + s.size - 10 by rw [b_len]; omega)]
end Go.Proofs.YtegeaemkkbenfaaDoor.Ownd
