/- tuple.Show's contract at a number, too: its decimal numeral, by the shelf's strconv.Itoa over this dump. Conditions: the number is an int64; the table of powers of ten lies as the program lays it. -/
import Derived.Shelf.LaysM
import Derived.Shelf.Strconv.Itoa3
import Derived.Shelf.Unicode.PredsPay
import Derived.Test.YtcpehlllgfffkaaDoorTShow
namespace Go.Proofs.YtcpehlllgfffkaaDoor.GT
open Go.RowKit Go.Sort Go.Proofs.YtcpehlllgfffkaaDoorW.PrintWords Go.Proofs.YtcpehlllgfffkaaDoorW.PrintLast Go.Proofs.YtcpehlllgfffkaaDoorW.PrintMore
set_option linter.unusedVariables false
def laysI_ren : Go.Shelf.Ren := ⟨fun | 171 => 33 | 243 => 47 | 246 => 52 | 283 => 54 | 284 => 55 | 285 => 56 | 286 => 57 | 129 => 59 | 317 => 58 | 318 => 60 | 319 => 61 | 320 => 62 | 337 => 63 | 338 => 64 | n => n, fun | 3 => 3 | 9 => 9 | 2 => 2 | 4 => 4 | 171 => 95 | 0 => 0 | 53 => 96 | 37 => 77 | 5 => 5 | 173 => 99 | 212 => 103 | 51 => 104 | 20 => 20 | 213 => 105 | 46 => 83 | 232 => 109 | 233 => 110 | n => n, fun | 17 => 0 | 18 => 1 | 19 => 2 | n => n⟩
theorem laysI : Go.Proofs.LaysM.n171 Tryd.prog laysI_ren := {
  mixed := by kernel_rfl
  f129 := Tryd.func59.trans (congrArg some (by kernel_rfl))
  f171 := Tryd.func33.trans (congrArg some (by kernel_rfl))
  f243 := Tryd.func47.trans (congrArg some (by kernel_rfl))
  f246 := Tryd.func52.trans (congrArg some (by kernel_rfl))
  f283 := Tryd.func54.trans (congrArg some (by kernel_rfl))
  f284 := Tryd.func55.trans (congrArg some (by kernel_rfl))
  f285 := Tryd.func56.trans (congrArg some (by kernel_rfl))
  f286 := Tryd.func57.trans (congrArg some (by kernel_rfl))
  f317 := Tryd.func58.trans (congrArg some (by kernel_rfl))
  f318 := Tryd.func60.trans (congrArg some (by kernel_rfl))
  f319 := Tryd.func61.trans (congrArg some (by kernel_rfl))
  f320 := Tryd.func62.trans (congrArg some (by kernel_rfl))
  f337 := Tryd.func63.trans (congrArg some (by kernel_rfl))
  f338 := Tryd.func64.trans (congrArg some (by kernel_rfl))
  t0 := Tryd.underlying0
  a0 := Tryd.isAgg0
  z0 := Tryd.sizeOf0
  v0 := Tryd.zeroValue0
  t2 := Tryd.underlying2
  a2 := Tryd.isAgg2
  z2 := Tryd.sizeOf2
  v2 := Tryd.zeroValue2
  t3 := Tryd.underlying3
  a3 := Tryd.isAgg3
  z3 := Tryd.sizeOf3
  v3 := Tryd.zeroValue3
  t4 := Tryd.underlying4
  a4 := Tryd.isAgg4
  z4 := Tryd.sizeOf4
  v4 := Tryd.zeroValue4
  t5 := Tryd.underlying5
  a5 := Tryd.isAgg5
  z5 := Tryd.sizeOf5
  v5 := Tryd.zeroValue5
  t9 := Tryd.underlying9
  a9 := Tryd.isAgg9
  z9 := Tryd.sizeOf9
  v9 := Tryd.zeroValue9
  t20 := Tryd.underlying20
  a20 := Tryd.isAgg20
  z20 := Tryd.sizeOf20
  v20 := Tryd.zeroValue20
  t37 := Tryd.underlying77
  a37 := Tryd.isAgg77
  z37 := Tryd.sizeOf77
  v37 := Tryd.zeroValue77
  t46 := Tryd.underlying83
  a46 := Tryd.isAgg83
  z46 := Tryd.sizeOf83
  v46 := Tryd.zeroValue83
  t51 := Tryd.underlying104
  a51 := Tryd.isAgg104
  z51 := Tryd.sizeOf104
  v51 := Tryd.zeroValue104
  t53 := Tryd.underlying96
  a53 := Tryd.isAgg96
  z53 := Tryd.sizeOf96
  v53 := Tryd.zeroValue96
  t171 := Tryd.underlying95
  a171 := Tryd.isAgg95
  z171 := Tryd.sizeOf95
  v171 := Tryd.zeroValue95
  t173 := Tryd.underlying99
  a173 := Tryd.isAgg99
  z173 := Tryd.sizeOf99
  v173 := Tryd.zeroValue99
  t212 := Tryd.underlying103
  a212 := Tryd.isAgg103
  z212 := Tryd.sizeOf103
  v212 := Tryd.zeroValue103
  t213 := Tryd.underlying105
  a213 := Tryd.isAgg105
  z213 := Tryd.sizeOf105
  t232 := Tryd.underlying109
  a232 := Tryd.isAgg109
  z232 := Tryd.sizeOf109
  v232 := Tryd.zeroValue109
  t233 := Tryd.underlying110
  a233 := Tryd.isAgg110
  z233 := Tryd.sizeOf110
  v233 := Tryd.zeroValue110
  i0 := by kernel_rfl
  i2 := by kernel_rfl
  i3 := by kernel_rfl
  i4 := by kernel_rfl
  i5 := by kernel_rfl
  i9 := by kernel_rfl
  i20 := by kernel_rfl
  i37 := by kernel_rfl
  i46 := by kernel_rfl
  i51 := by kernel_rfl
  i53 := by kernel_rfl
  i173 := by kernel_rfl
  g17 := by kernel_rfl
  g18 := by kernel_rfl
  g19 := by kernel_rfl
  i171 := by kernel_rfl
  i212 := by kernel_rfl
  i232 := by kernel_rfl
  i233 := by kernel_rfl
  m17 := by kernel_rfl
  m18 := by kernel_rfl
  m19 := by kernel_rfl }
/-- The table of powers of ten, as the program lays it. -/
def Tab (w : World) : Prop := Lib.TabIs Tryd.prog w "internal/strconv.uint64pow10" .u64 Lib.pow10Tab
theorem Tab.below {w w' : World} (h : Tab w) (hb : Below w.heap.size w w') : Tab w' := TabIs_below (g := 0) (by kernel_rfl) h hb
theorem below_grown_i (w : World) (q : Nat) (os : Array Obj) : Below w.heap.size w (grow (w.drewN q) os) :=
  ⟨rfl, rfl, rfl, by first | (simp [grow]; done) | (simp [grow]; omega), fun i hi => by
    show ((w.drewN q).heap ++ os)[i]? = _
    rw [Array.getElem?_append_left (by show i < w.heap.size; omega)]
    rfl⟩
theorem itoa_calls (n : Int) (h0 : -9223372036854775808 ≤ n) (h1 : n ≤ 9223372036854775807) (w : World) (hT : Tab w) :
    Calls Tryd.prog 33 #[.int .i64 n] w fun e w' => e = .returned (.string ⟨(Lib.itoa n).toArray⟩) ∧ Below w.heap.size w w' := by
  refine (Any.strconv_Itoa laysI n h0 h1 w hT).mono ?_
  rintro e w' ⟨he, k, os, rfl⟩
  exact ⟨he, below_grown_i w k os⟩
theorem show_num (s : ByteArray) (n : Int) (w : World) (h0 : -9223372036854775808 ≤ n) (h1 : n ≤ 9223372036854775807) (hT : Tab w) :
    Calls Tryd.prog 10 #[.agg #[.string s, .int .i64 n, .bool false]] w fun e w' => e = .returned (.string ⟨(Lib.itoa n).toArray⟩) ∧ Below w.heap.size w w' := by
  have hu25 := Tryd.underlying25
  have HT := Aside0.mk hT
  clear hT
  go_enter Tryd.func10, Tryd.ntmps10
  go_wp2_with (first | ((with_reducible refine gate_dst (N := 1) rfl ?_); (try (refine gate_guard (by rfl) ?_; dsimp only)); refine box_event ?hg (N := 1) ?hd (cs := #[.string s, .int .i64 n, .bool false]) (t := 25) ?hr ?_; (case hd => rfl); (case hg => rfl); (case hr => first | (go_simp; done) | (go_simp; rfl)); intro gb hg wb hbox hb; have HB := Aside0.mk hb; have BK := Aside0.mk hbox; have GE := Aside0.mk (show w.heap.size ≤ gb by rw [hg]; exact Nat.le_refl _); clear hg hbox hb; have hcz0 : wb.cell? ⟨gb, 0, none⟩ = some (.string s) := (blk_cell BK.out 0).trans rfl; have hcz1 : wb.cell? ⟨gb, 1, none⟩ = some (.int .i64 n) := (blk_cell BK.out 1).trans rfl; have hcz2 : wb.cell? ⟨gb, 2, none⟩ = some (.bool false) := (blk_cell BK.out 2).trans rfl) | fail)
  refine (itoa_calls n h0 h1 _ (HT.out.below HB.out)).mono ?_
  rintro e w' ⟨rfl, hb⟩
  go_wp2
  go_ret
  exact ⟨rfl, below_step HB.out hb⟩
/-- tuple.Show of any value: a text quoted, a number's numeral. -/
def tuple_Show.g (s : ByteArray) (n : Int) (t : Bool) : Option ByteArray := if t = true then (if s.size ≤ 1099511627776 then some ⟨(showL s).toArray⟩ else none) else (if -9223372036854775808 ≤ n ∧ n ≤ 9223372036854775807 then some ⟨(Lib.itoa n).toArray⟩ else none)
/-- THE CONTRACT. -/
theorem tuple_Show.callsG (a0_0 : ByteArray) (a0_1 : Int) (a0_2 : Bool) (r : ByteArray) (w : World) (hT : Tab w) (h : tuple_Show.g a0_0 a0_1 a0_2 = some r) :
    Calls Tryd.prog 10 #[.agg #[.string a0_0, .int .i64 a0_1, .bool a0_2]] w fun e w' => e = .returned (.string r) ∧ Below w.heap.size w w' := by
  unfold tuple_Show.g at h
  cases a0_2 with
  | true =>
    rw [if_pos rfl] at h
    by_cases hs : a0_0.size ≤ 1099511627776
    · rw [if_pos hs] at h
      obtain rfl := Option.some.inj h
      exact show_text a0_0 a0_1 w hs
    · rw [if_neg hs] at h; cases h
  | false =>
    rw [if_neg (by decide)] at h
    by_cases hs : -9223372036854775808 ≤ a0_1 ∧ a0_1 ≤ 9223372036854775807
    · rw [if_pos hs] at h
      obtain rfl := Option.some.inj h
      exact show_num a0_0 a0_1 w hs.1 hs.2 hT
    · rw [if_neg hs] at h; cases h
end Go.Proofs.YtcpehlllgfffkaaDoor.GT
