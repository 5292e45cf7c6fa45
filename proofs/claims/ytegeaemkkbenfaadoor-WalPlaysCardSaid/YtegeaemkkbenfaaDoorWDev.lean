/- Devices whose sectors hold a log's contents: a device of contents, and the device it stands for; each method done to the one is done to the other. No program. -/
import Derived.Test.YtegeaemkkbenfaaDoorWRead
namespace Go.Proofs.YtegeaemkkbenfaaDoor.Ownd
open Go.RowKit
set_option linter.unusedVariables false
set_option linter.unusedSimpArgs false
abbrev PC := Int × Ct
/-- A device of contents. -/
structure TD where
  size : Nat
  last : Int → Option Ct
  wait : List PC
  off : Bool
  fuse : Int
  keep : List Int
  cmds : Int
def encW (p : PC) : PW := (p.1, p.2.enc)
def TD.dev (T : TD) : Dev := { size := T.size, last := fun i => (T.last i).map Ct.enc, wait := T.wait.map encW, off := T.off, fuse := T.fuse, keep := T.keep, cmds := T.cmds }
def updT (f : Int → Option Ct) (i : Int) (c : Ct) : Int → Option Ct := fun j => if j = i then some c else f j
def failT (keep : List Int) : Nat → List PC → (Int → Option Ct) → (Int → Option Ct)
  | _, [], f => f
  | i, p :: r, f => failT keep (i + 1) r (if keptAt keep i then updT f p.1 p.2 else f)
def syncT (l : List PC) (f : Int → Option Ct) : Int → Option Ct := l.foldl (fun f p => updT f p.1 p.2) f
def TD.fail (T : TD) (keep : List Int) : TD := { T with last := failT keep 0 T.wait T.last, wait := [], off := true, fuse := 0, keep := [] }
def TD.command (T : TD) : Bool × TD := if T.fuse = 1 then (false, T.fail T.keep) else (true, { T with fuse := if 1 < T.fuse then wrap64 (T.fuse - 1) else T.fuse, cmds := wrap64 (T.cmds + 1) })
def TD.write (T : TD) (i : Int) (c : Ct) : Int × TD :=
  if T.off = true then (7, T) else if i < 0 ∨ (T.size : Int) ≤ i then (1, T) else
    if T.command.1 = true then (0, { T.command.2 with wait := T.command.2.wait ++ [(i, c)] }) else (7, T.command.2)
def TD.sync (T : TD) : Int × TD :=
  if T.off = true then (7, T) else if T.command.1 = true then (0, { T.command.2 with last := syncT T.command.2.wait T.command.2.last, wait := [] }) else (7, T.command.2)
def TD.blow (T : TD) (keep : List Int) : TD := if T.off = true then T else T.fail keep
def TD.on (T : TD) : TD := { T with off := false, fuse := 0, keep := [] }
def TD.setFuse (T : TD) (n : Int) (keep : List Int) : TD := if T.off = true then T else { T with fuse := if 1 < n then n else 1, keep := keep }
def TD.new (n : Nat) : TD := ⟨n, fun _ => none, [], false, 0, [], 0⟩
def lastT (l : List PC) (i : Int) : Option Ct := (l.reverse.find? (fun p => decide (p.1 = i))).map (·.2)
def TD.get (T : TD) (i : Int) : Ct := match lastT T.wait i with | some c => c | none => (T.last i).getD .z
theorem TD.dev_new (n : Nat) : (TD.new n).dev = Dev.new n := rfl
theorem TD.dev_on (T : TD) : T.on.dev = T.dev.on := rfl
theorem TD.dev_fuse (T : TD) (n : Int) (k : List Int) : (T.setFuse n k).dev = T.dev.setFuse n k := by
  unfold TD.setFuse Dev.setFuse
  show _ = if T.off = true then T.dev else _
  split <;> rfl
theorem upd_map (f : Int → Option Ct) (i : Int) (c : Ct) : (fun j => (updT f i c j).map Ct.enc) = upd (fun j => (f j).map Ct.enc) i c.enc := by
  funext j
  unfold updT upd
  split <;> rfl
theorem fail_map (keep : List Int) : ∀ (l : List PC) (i : Nat) (f : Int → Option Ct), (fun j => (failT keep i l f j).map Ct.enc) = failF keep i (l.map encW) (fun j => (f j).map Ct.enc)
  | [], i, f => rfl
  | p :: r, i, f => by
    show (fun j => (failT keep (i + 1) r (if keptAt keep i then updT f p.1 p.2 else f) j).map Ct.enc) = failF keep (i + 1) (r.map encW) (if keptAt keep i then upd (fun j => (f j).map Ct.enc) p.1 p.2.enc else _)
    rw [fail_map keep r]
    cases keptAt keep i with
    | true => rw [if_pos rfl, if_pos rfl, upd_map]
    | false => rfl
theorem sync_map : ∀ (l : List PC) (f : Int → Option Ct), (fun j => (syncT l f j).map Ct.enc) = syncF (l.map encW) (fun j => (f j).map Ct.enc)
  | [], f => rfl
  | p :: r, f => by
    show (fun j => (syncT r (updT f p.1 p.2) j).map Ct.enc) = syncF (r.map encW) (upd (fun j => (f j).map Ct.enc) p.1 p.2.enc)
    rw [sync_map r, upd_map]
theorem TD.dev_fail (T : TD) (k : List Int) : (T.fail k).dev = T.dev.fail k := by
  unfold TD.fail Dev.fail TD.dev
  dsimp only
  rw [fail_map]
  rfl
theorem TD.dev_blow (T : TD) (k : List Int) : (T.blow k).dev = T.dev.blow k := by
  unfold TD.blow Dev.blow
  show _ = if T.off = true then T.dev else _
  split
  · rfl
  · exact T.dev_fail k
theorem TD.dev_command (T : TD) : T.dev.command = (T.command.1, T.command.2.dev) := by
  unfold TD.command Dev.command
  show (if T.fuse = 1 then _ else _) = _
  split
  · rw [T.dev_fail]; rfl
  · rfl
theorem TD.dev_write (T : TD) (i : Int) (c : Ct) (s : ByteArray) (hs : s.size ≤ 256) (hp : pad s = c.enc) : T.dev.write i s = ((T.write i c).1, (T.write i c).2.dev) := by
  unfold TD.write Dev.write
  rw [T.dev_command]
  show (if T.off = true then _ else if i < 0 ∨ (T.size : Int) ≤ i then _ else if 256 < s.size then _ else _) = _
  split
  · rfl
  · split
    · rfl
    · rw [if_neg (by omega)]
      show (if T.command.1 = true then _ else _) = _
      split
      · refine Prod.ext rfl ?_
        show ({ T.command.2.dev with wait := T.command.2.dev.wait ++ [(i, pad s)] } : Dev) = _
        rw [hp]
        unfold TD.dev
        simp only [List.map_append]
        rfl
      · rfl
theorem TD.dev_sync (T : TD) : T.dev.sync = (T.sync.1, T.sync.2.dev) := by
  unfold TD.sync Dev.sync
  rw [T.dev_command]
  show (if T.off = true then _ else if T.command.1 = true then _ else _) = _
  split
  · rfl
  · split
    · refine Prod.ext rfl ?_
      show ({ T.command.2.dev with last := syncF T.command.2.dev.wait T.command.2.dev.last, wait := [] } : Dev) = _
      unfold TD.dev
      dsimp only
      rw [sync_map]
      rfl
    · rfl
theorem lastW_map (l : List PC) (i : Int) : lastW (l.map encW) i = (lastT l i).map Ct.enc := by
  unfold lastW lastT
  rw [← List.map_reverse, List.find?_map]
  rw [Option.map_map, Option.map_map]
  rfl
theorem TD.dev_get (T : TD) (i : Int) : T.dev.get i = (T.get i).enc := by
  unfold TD.get Dev.get
  rw [show T.dev.wait = T.wait.map encW from rfl, lastW_map]
  cases lastT T.wait i with
  | some c => rfl
  | none =>
    show ((T.last i).map Ct.enc).getD (Bld.zs 256) = ((T.last i).getD .z).enc
    cases T.last i <;> rfl
theorem TD.dev_read (T : TD) {i : Int} (ho : T.off = false) (h0 : 0 ≤ i) (h1 : i < (T.size : Int)) : T.dev.read i = ((T.get i).enc, 0) := by
  unfold Dev.read
  show (if T.off = true then _ else if i < 0 ∨ (T.size : Int) ≤ i then _ else _) = _
  rw [ho, if_neg (by simp), if_neg (by omega), T.dev_get]
theorem piece_pad {e i : Int} {s : ByteArray} (hs : s.size ≤ 242) : pad (pieceB e i s) = (Ct.p e i s).enc := by
  unfold pad
  rw [pieceB_size e i hs]
  show pieceB e i s ++ Bld.zs 0 = pieceB e i s
  apply b_ext
  rw [b_append]
  show _ ++ [] = _
  rw [List.append_nil]
theorem master_pad (e h : Int) : pad (masterB e h) = (Ct.m e h).enc := rfl
theorem get_snocT (i : Int) (p : PC) (l : List PC) : lastT (l ++ [p]) i = if p.1 = i then some p.2 else lastT l i := by
  unfold lastT
  rw [List.reverse_append, List.reverse_singleton, List.singleton_append, List.find?_cons]
  by_cases h : p.1 = i
  · rw [decide_eq_true h, if_pos h]; rfl
  · rw [decide_eq_false h, if_neg h]
end Go.Proofs.YtegeaemkkbenfaaDoor.Ownd
