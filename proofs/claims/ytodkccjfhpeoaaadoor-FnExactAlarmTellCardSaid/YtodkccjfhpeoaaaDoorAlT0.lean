/- Contracts of AlarmTell, of the reference and of the program, and of slices.Clone at alarms. No statement is proved here. -/
import Derived.Test.YtodkccjfhpeoaaaDoorDrG
import Derived.Test.YtodkccjfhpeoaaaDoorDrA
import Derived.Test.YtodkccjfhpeoaaaDoorAlS
import Derived.Test.YtodkccjfhpeoaaaDoorValAlarm
namespace Go.Proofs.YtodkccjfhpeoaaaDoor
open Go.RowKit

/-- a slice of its own, and a bool -/
def RetSB (E : TypeId) (size : Nat) (cs : List Value) (n : Nat) (b : Bool) (w : World) (e : Ending) (w' : World) : Prop :=
  ∃ B c, e = .returned (.tuple #[.slice B n c, .bool b]) ∧ Own w' w.heap.size E size B n cs ∧ Below w.heap.size w w'

def alTellR (r : Alarm) (ev t : Int) : Alarm := if alStep r.fState ev = r.fState then r else ⟨r.fRank, alStep r.fState ev, t⟩
def alOk (n : Nat) (ix ev t : Int) : Bool := inB ix 0 ((n : Int) - 1) && inB ev 0 2 && inB t 0 999
def alTellL (l : List Alarm) (ix ev t : Int) : List Alarm := if valAlarm l then (if alOk l.length ix ev t then l.set ix.toNat (alTellR (l.getD ix.toNat Alarm.zero) ev t) else l) else []
def alTellB (l : List Alarm) (ix ev t : Int) : Bool := valAlarm l && alOk l.length ix ev t
theorem alTell_len (l : List Alarm) (ix ev t : Int) : (alTellL l ix ev t).length ≤ 1048576 := by
  unfold alTellL
  split
  · next h =>
    have := valAlarm_len h
    split
    · simp; omega
    · omega
  · simp
theorem flatA_set : ∀ (l : List Alarm) (i : Nat) (x y : Int), i < l.length → ((flatAlarm l).set (i * 3 + 1) (.int .i64 x)).set (i * 3 + 2) (.int .i64 y) = flatAlarm (l.set i ⟨(l.getD i Alarm.zero).fRank, x, y⟩)
  | [], i, _, _, h => absurd h (by simp)
  | r :: l, 0, x, y, _ => by simp [flatAlarm, Alarm.cells]
  | r :: l, i + 1, x, y, h => by
    have ih := flatA_set l i x y (by simpa using h)
    have e : ∀ m : List Alarm, ∀ q : Alarm, flatAlarm (q :: m) = .int .i64 q.fRank :: .int .i64 q.fState :: .int .i64 q.fSince :: flatAlarm m := fun m q => by simp [flatAlarm, Alarm.cells]
    rw [show (i + 1) * 3 + 1 = (i * 3 + 1) + 1 + 1 + 1 by omega, show (i + 1) * 3 + 2 = (i * 3 + 2) + 1 + 1 + 1 by omega, List.set_cons_succ, e, e]
    simp only [List.set_cons_succ]
    rw [ih]; simp
theorem set_self (l : List Alarm) (i : Nat) (h : i < l.length) : l.set i (l.getD i Alarm.zero) = l := by
  have : l.getD i Alarm.zero = l[i] := by simp [h]
  rw [this, List.set_getElem_self]
theorem tell_same {l : List Alarm} {i : Nat} {ev t : Int} (hv : valAlarm l = true) (hi : i < l.length) (he : inB ev 0 2 = true) (ht : inB t 0 999 = true) (hs : alStep (l.getD i Alarm.zero).fState ev = (l.getD i Alarm.zero).fState) : alTellL l i ev t = l ∧ alTellB l i ev t = true := by
  have hok : alOk l.length i ev t = true := by simp only [alOk, he, ht, Bool.and_true, inB_iff]; omega
  refine ⟨?_, by rw [alTellB, hv, hok]; rfl⟩
  rw [alTellL, if_pos hv, if_pos hok, alTellR, if_pos (by simpa using hs)]
  simpa using set_self l i hi
theorem tell_new {l : List Alarm} {i : Nat} {ev t : Int} (hv : valAlarm l = true) (hi : i < l.length) (he : inB ev 0 2 = true) (ht : inB t 0 999 = true) (hs : ¬ alStep (l.getD i Alarm.zero).fState ev = (l.getD i Alarm.zero).fState) : alTellL l i ev t = l.set i ⟨(l.getD i Alarm.zero).fRank, alStep (l.getD i Alarm.zero).fState ev, t⟩ ∧ alTellB l i ev t = true := by
  have hok : alOk l.length i ev t = true := by simp only [alOk, he, ht, Bool.and_true, inB_iff]; omega
  refine ⟨?_, by rw [alTellB, hv, hok]; rfl⟩
  rw [alTellL, if_pos hv, if_pos hok, alTellR, if_neg (by simpa using hs)]
  simp
theorem tell_not {l : List Alarm} {ix ev t : Int} (hv : valAlarm l = true) (hok : alOk l.length ix ev t = false) : alTellL l ix ev t = l ∧ alTellB l ix ev t = false := by
  refine ⟨by rw [alTellL, if_pos hv, hok]; rfl, by rw [alTellB, hok, Bool.and_false]⟩
theorem tell_bad {l : List Alarm} {ix ev t : Int} (hv : valAlarm l = false) : alTellL l ix ev t = [] ∧ alTellB l ix ev t = false := by
  refine ⟨by rw [alTellL, hv]; rfl, by rw [alTellB, hv]; rfl⟩

theorem Rd.kept {w w' : World} {A : Option Addr} {cs : List Value} {row : Option Nat} (h : Rd w A cs) (hg : w.grownBy w' row) (hne : 0 < cs.length → ∀ a, A = some a → row ≠ some a.block) : Rd w' A cs := by
  intro h0
  obtain ⟨b, o, e, hlt, hc⟩ := h h0
  exact ⟨b, o, e, Nat.lt_of_lt_of_le hlt hg.size, fun k u hu => hg.cell (hc k u hu) (fun e' => hne h0 _ e e'.symm)⟩

set_option maxHeartbeats 1000000 in
theorem cloneA (ad : Addr) (n c : Nat) (l : List Alarm) (w : World) (hn : l.length = n) (hm : n ≤ 1048576) (hA : Rd w (some ad) (flatAlarm l)) :
    Calls Tryd.prog 29 #[.slice (some ad) n c] w (RetS 47 3 (flatAlarm l) n w) := by
  subst hn
  have HA := Lib.hid hA; clear hA
  obtain ⟨i0, hi0, hz0, hz1, hz2⟩ := info_parts info_Alarm
  have HI := Lib.hid (And.intro hi0 (And.intro hz0 (And.intro hz1 hz2))); clear hi0 hz0 hz1 hz2
  have hlit : (w.alloc (.cells #[] 47)).ownsRow w.heap.size 47 3 (.slice (some ⟨w.heap.size, 0, none⟩) 0 0) 0 [] := World.ownsRow_lit w #[] 0 (Nat.le_refl _) (Nat.zero_le _) rfl
  have hrd : Rd (w.alloc (.cells #[] 47)) (some ad) (flatAlarm l) := HA.out.below (allocB (Below.refl _ _) _)
  have hb : Below w.heap.size w (w.alloc (.cells #[] 47)) := allocB (Below.refl _ _) _
  have q22 : ∀ (w : World) (a : Option Addr) (n c n' c' : Nat), (binOp .eql 31 (.slice a n c) (.slice none n' c')).run Tryd.prog w = .ok (.bool a.isNone) w := fun w a n c n' c' => Lib.run_eql_slice_nil w _ _ a n c n' c' Tryd.underlying31
  go_enter Tryd.func29, Tryd.ntmps29
  go_wp2_with (at_builtin; refine wpList_appN _ rfl _ _ _ rfl w.heap.size 47 i0 _ 3 24 Tryd.underlying31 HI.out rfl (by omega) _ 0 _ rfl hlit (some ad) l.length c (flatAlarm l) rfl (flatAlarm_length _) hrd (fun e => by cases e) (flatAlarm_one _) (by omega) (by omega) hb.size ?_; intro v1 w1 hown1 hg1)
  obtain ⟨B2, d2, rfl, hr2⟩ := row_is (n' := l.length) (cs' := flatAlarm l) hown1 (by simp) (by simp)
  go_ret
  exact ⟨B2, d2, rfl, row_own hr2, grown_row hb rfl hlit hg1⟩

end Go.Proofs.YtodkccjfhpeoaaaDoor
