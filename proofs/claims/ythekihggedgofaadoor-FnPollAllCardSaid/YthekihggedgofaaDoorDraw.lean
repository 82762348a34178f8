/- The reader of drawn numbers: what its methods pick, odd and its opening do. No statement is proved here. -/
import Derived.Test.YthekihggedgofaaDoorBase
import Derived.BigQuiet
import Derived.Laws.Bits64
import Derived.Laws.AppendOwn
namespace Go.Proofs.YthekihggedgofaaDoor
open Go.RowKit

/-- a slice of m bytes that reads -/
def RdB (w : World) (A : Option Addr) (m : Nat) : Prop :=
  0 < m → ∃ b o, A = some ⟨b, o, none⟩ ∧ b < w.heap.size ∧ ∀ k, k < m → ∃ x : Int, 0 ≤ x ∧ x ≤ 255 ∧ w.cell? ⟨b, o + k, none⟩ = some (.int .u8 x)
/-- In block R lies a reader of which at most f numbers have been drawn. -/
def Rdr (w : World) (R f : Nat) : Prop :=
  ∃ (A : Option Addr) (m c p : Nat), w.heap[R]? = some (.cells #[.slice A m c, .int .i64 (p : Int)] 54 (0, 0)) ∧ m ≤ 2000 ∧ p ≤ f ∧ RdB w A m ∧ ∀ a, A = some a → 0 < m → a.block < R
theorem RdB.sub {w : World} {A : Option Addr} {m k : Nat} (h : RdB w A m) (hk : k ≤ m) : RdB w A k := by
  intro h0
  obtain ⟨b, o, e, hlt, hc⟩ := h (by omega)
  exact ⟨b, o, e, hlt, fun j hj => hc j (by omega)⟩
theorem RdB.grown {w w' : World} {A : Option Addr} {m R : Nat} (h : RdB w A m) (hne : ∀ a, A = some a → 0 < m → a.block ≠ R) (hg : w.grownBy w' (some R)) : RdB w' A m := by
  intro h0
  obtain ⟨b, o, e, hlt, hc⟩ := h h0
  refine ⟨b, o, e, Nat.lt_of_lt_of_le hlt hg.size, fun j hj => ?_⟩
  obtain ⟨x, hx0, hx1, hx⟩ := hc j hj
  exact ⟨x, hx0, hx1, hg.cell hx (by have := hne _ e h0; simpa using this)⟩
theorem Rdr.mono {w : World} {R f g : Nat} (h : Rdr w R f) (hg : f ≤ g) : Rdr w R g := by
  obtain ⟨A, m, c, p, h1, h2, h3, h4, h5⟩ := h
  exact ⟨A, m, c, p, h1, h2, by omega, h4, h5⟩
theorem Rdr.lt {w : World} {R f : Nat} (h : Rdr w R f) : R < w.heap.size := by
  obtain ⟨A, m, c, p, h1, _⟩ := h
  rcases Nat.lt_or_ge R w.heap.size with hlt | hge
  · exact hlt
  · rw [Array.getElem?_eq_none hge] at h1; cases h1
theorem Rdr.below {w w' : World} {R f : Nat} (h : Rdr w R f) (hb : Below w.heap.size w w') : Rdr w' R f := by
  have hlt := h.lt
  obtain ⟨A, m, c, p, h1, h2, h3, h4, h5⟩ := h
  refine ⟨A, m, c, p, (hb.block R hlt).trans h1, h2, h3, ?_, h5⟩
  intro h0
  obtain ⟨b, o, e, hlt, hc⟩ := h4 h0
  refine ⟨b, o, e, Nat.lt_of_lt_of_le hlt hb.size, fun j hj => ?_⟩
  obtain ⟨x, hx0, hx1, hx⟩ := hc j hj
  exact ⟨x, hx0, hx1, (hb.cell (p := ⟨b, o + j, none⟩) hlt).trans hx⟩
theorem Rdr.kept {w w' : World} {R f : Nat} {row : Option Nat} (h : Rdr w R f) (hg : w.grownBy w' row) (hrow : ∀ j, row = some j → R < j) : Rdr w' R f := by
  have hlt := h.lt
  obtain ⟨A, m, c, p, h1, h2, h3, h4, h5⟩ := h
  refine ⟨A, m, c, p, (hg.block R hlt (by intro e; have := hrow R e.symm; omega)).trans h1, h2, h3, ?_, h5⟩
  intro h0
  obtain ⟨b, o, e, hlt, hc⟩ := h4 h0
  refine ⟨b, o, e, Nat.lt_of_lt_of_le hlt hg.size, fun j hj => ?_⟩
  obtain ⟨x, hx0, hx1, hx⟩ := hc j hj
  exact ⟨x, hx0, hx1, hg.cell hx (by intro e'; have := hrow b e'.symm; have := h5 _ e h0; simp at this; omega)⟩

/-- a call behind which only the block R and newer ones have turned -/
theorem grown_below {B R : Nat} {a w w' : World} (h : Below B a w) (hg : w.grownBy w' (some R)) (hR : B ≤ R) (hB : B ≤ w.heap.size) : Below B a w' :=
  ⟨hg.os.trans h.os, hg.tape.trans h.tape, hg.output.trans h.output, Nat.le_trans h.size hg.size, fun k hk => (hg.block k (by omega) (by simp; omega)).trans (h.block k hk)⟩
theorem grown_of_below {R : Nat} {w w' : World} (h : Below w.heap.size w w') : w.grownBy w' (some R) :=
  ⟨h.os, h.tape, h.output, h.size, fun k hk _ => h.block k hk⟩

theorem i64_xor_nat (a b : Nat) (ha : a < 2 ^ 62) (hb : b < 2 ^ 62) : bits .xor .i64 (a : Int) (b : Int) = ((a ^^^ b : Nat) : Int) := by
  show IntKind.i64.wrap ((BitVec.ofInt 64 (a : Int) ^^^ BitVec.ofInt 64 (b : Int)).toNat : Int) = _
  have h1 : ∀ x : Nat, x < 2 ^ 62 → (BitVec.ofInt 64 (x : Int)).toNat = x := by
    intro x hx
    rw [BitVec.ofInt_natCast, BitVec.toNat_ofNat]; exact Nat.mod_eq_of_lt (by omega)
  have h3 : a ^^^ b < 2 ^ 62 := Nat.xor_lt_two_pow ha hb
  rw [BitVec.toNat_xor, h1 a ha, h1 b hb, IntKind.wrap_i64]
  omega

/-- what a call of pick leaves -/
def Picked (R f : Nat) (n : Int) (w : World) (e : Ending) (w' : World) : Prop :=
  ∃ x : Nat, e = .returned (.int .i64 (x : Int)) ∧ ((x : Int) < n ∨ x = 0) ∧ Rdr w' R (f + 1) ∧ w.grownBy w' (some R)

theorem picked_set {w : World} {R f p m c : Nat} {A : Option Addr} (h1 : w.heap[R]? = some (.cells #[.slice A m c, .int .i64 (p : Int)] 54 (0, 0))) (h2 : m ≤ 2000) (h3 : p ≤ f) (h4 : RdB w A m) (h5 : ∀ a, A = some a → 0 < m → a.block < R) (n : Nat) :
    Rdr ((w.setCell ⟨R, 1, none⟩ (.int .i64 ((p : Int) + 1))).drewN n) R (f + 1) ∧ w.grownBy ((w.setCell ⟨R, 1, none⟩ (.int .i64 ((p : Int) + 1))).drewN n) (some R) := by
  have hg : w.grownBy (w.setCell ⟨R, 1, none⟩ (.int .i64 ((p : Int) + 1))) (some R) :=
    ⟨rfl, rfl, rfl, by simp [World.setCell], fun k _ hk => Below.heap_setCell w ⟨R, 1, none⟩ _ k (by intro e; exact hk (by rw [e]))⟩
  have hg' : w.grownBy ((w.setCell ⟨R, 1, none⟩ (.int .i64 ((p : Int) + 1))).drewN n) (some R) := ⟨hg.os, hg.tape, hg.output, hg.size, hg.block⟩
  refine ⟨⟨A, m, c, p + 1, ?_, h2, by omega, h4.grown (fun a ha h0 => Nat.ne_of_lt (h5 a ha h0)) hg', h5⟩, hg'⟩
  have := heap_setCell_same w R 1 #[.slice A m c, .int .i64 (p : Int)] 54 (.int .i64 ((p : Int) + 1)) h1
  simpa using this

set_option maxHeartbeats 1000000 in
theorem pickC (R f : Nat) (n : Int) (w : World) (hr : Rdr w R f) (hf : f ≤ 1000000) (hn : n ≤ 1000000) :
    Calls Tryd.prog 28 #[.pointer (some ⟨R, 0, none⟩), .int .i64 n] w (Picked R f n w) := by
  obtain ⟨A, m, c, p, h1, h2, h3, h4, h5⟩ := hr
  have hs := Lib.hid (picked_set h1 h2 h3 h4 h5)
  have hc0 : w.cell? ⟨R, 0, none⟩ = some (.slice A m c) := by rw [cell_of_row w R 0 _ _ (0, 0) h1]; rfl
  have hc1 : w.cell? ⟨R, 1, none⟩ = some (.int .i64 (p : Int)) := by rw [cell_of_row w R 1 _ _ (0, 0) h1]; rfl
  have hfr : w.frozen? ⟨R, 1, none⟩ = false := frozen_of_row w R 1 _ _ h1
  have hd0 : (w.setCell ⟨R, 1, none⟩ (.int .i64 ((p : Int) + 1))).cell? ⟨R, 0, none⟩ = some (.slice A m c) := (World.cell?_setCell_other w ⟨R, 1, none⟩ ⟨R, 0, none⟩ _ (by intro e; cases e)).trans hc0
  have hd1 : (w.setCell ⟨R, 1, none⟩ (.int .i64 ((p : Int) + 1))).cell? ⟨R, 1, none⟩ = some (.int .i64 ((p : Int) + 1)) := by
    rw [cell_of_row _ R 1 _ _ (0, 0) (heap_setCell_same w R 1 _ _ _ h1)]; rfl
  clear h1
  by_cases hn1 : n < 1
  · go_enter Tryd.func28, Tryd.ntmps28
    go_wp2_with fail
    go_ret
    exact ⟨0, rfl, .inr rfl, hs.out 0⟩
  · by_cases hm0 : m = 0
    · subst hm0
      go_enter Tryd.func28, Tryd.ntmps28
      go_wp2_with fail
      go_ret
      exact ⟨0, rfl, .inr rfl, hs.out 0⟩
    · obtain ⟨b, o, rfl, hlt, hc⟩ := h4 (by omega)
      have hne : b ≠ R := Nat.ne_of_lt (h5 _ rfl (by omega))
      clear h5
      have hcb : ∀ k, k < m → ∃ x : Int, 0 ≤ x ∧ x ≤ 255 ∧ (w.setCell ⟨R, 1, none⟩ (.int .i64 ((p : Int) + 1))).cell? ⟨b, o + k, none⟩ = some (.int .u8 x) := by
        intro k hk
        obtain ⟨x, h0, h255, hx⟩ := hc k hk
        exact ⟨x, h0, h255, (World.cell?_setCell_other w ⟨R, 1, none⟩ ⟨b, o + k, none⟩ _ (by intro e; exact hne (congrArg Addr.block e).symm)).trans hx⟩
      by_cases hp : p < m
      · obtain ⟨x, hx0, hx1, hx⟩ := hcb p hp
        clear hcb hc
        go_enter Tryd.func28, Tryd.ntmps28
        go_wp2_with fail
        go_ret
        exact ⟨(x % n).toNat, by rw [Int.toNat_of_nonneg (Int.emod_nonneg _ (by omega))]; rfl, .inl (by rw [Int.toNat_of_nonneg (Int.emod_nonneg _ (by omega))]; exact Int.emod_lt_of_pos _ (by omega)), hs.out 0⟩
      · go_enter Tryd.func28, Tryd.ntmps28
        go_wp2_with fail
        obtain ⟨q1, hq1, hl1⟩ : ∃ q : Nat, (p : Int) % (m : Int) = (q : Int) ∧ q < m := ⟨p % m, by simp, Nat.mod_lt _ (by omega)⟩
        obtain ⟨q2, hq2, hl2⟩ : ∃ q : Nat, ((p : Int) * 7 + 3) % (m : Int) = (q : Int) ∧ q < m := ⟨(p * 7 + 3) % m, by simp, Nat.mod_lt _ (by omega)⟩
        obtain ⟨q3, hq3, hl3⟩ : ∃ q : Nat, (p : Int) / (m : Int) = (q : Int) ∧ q ≤ p := ⟨p / m, by simp, Nat.div_le_self _ _⟩
        obtain ⟨x, hx0, hx1, hx⟩ := hcb q1 hl1
        obtain ⟨y, hy0, hy1, hy⟩ := hcb q2 hl2
        clear hcb hc hc0 hc1 h4 hfr
        generalize w.setCell ⟨R, 1, none⟩ (.int .i64 ((p : Int) + 1)) = wr at *
        go_quiet (fail)
        obtain ⟨z, hz, hlz⟩ : ∃ z : Nat, x * 131 + y * 1117 + (p : Int) * 29 + (q3 : Int) * 53 = (z : Int) ∧ z < 2 ^ 62 := ⟨(x * 131 + y * 1117 + (p : Int) * 29 + (q3 : Int) * 53).toNat, by omega, by omega⟩
        have hz2 : bits .xor .i64 (z : Int) ((z : Int) / 64) = ((z ^^^ (z / 64) : Nat) : Int) := by
          rw [← i64_xor_nat z (z / 64) hlz (by omega)]; rfl
        generalize z ^^^ (z / 64) = v at hz2
        rw [hz]
        clear hz hx hy hd0 hd1 hq1 hq2 hq3
        go_wp2_with fail
        go_ret
        exact ⟨((v : Int) % n).toNat, by rw [Int.toNat_of_nonneg (Int.emod_nonneg _ (by omega))]; rfl, .inl (by rw [Int.toNat_of_nonneg (Int.emod_nonneg _ (by omega))]; exact Int.emod_lt_of_pos _ (by omega)), hs.out _⟩

/-- what a call of odd leaves -/
def Odded (R f : Nat) (w : World) (e : Ending) (w' : World) : Prop :=
  ∃ b : Bool, e = .returned (.bool b) ∧ Rdr w' R (f + 1) ∧ w.grownBy w' (some R)
set_option maxHeartbeats 400000 in
theorem oddC (R f : Nat) (n : Int) (w : World) (hr : Rdr w R f) (hf : f ≤ 1000000) (hn0 : 1 ≤ n) (hn : n ≤ 1000000) :
    Calls Tryd.prog 27 #[.pointer (some ⟨R, 0, none⟩), .int .i64 n] w (Odded R f w) := by
  go_enter Tryd.func27, Tryd.ntmps27
  go_wp2_with (go_at_call 28; refine (pickC R f n _ hr hf hn).mono ?_; rintro e w' ⟨x, rfl, hx, hR, hg⟩)
  go_ret
  exact ⟨_, rfl, hR, hg⟩

set_option maxHeartbeats 400000 in
theorem openC (A : Option Addr) (m c : Nat) (w : World) (hc : m ≤ c) (hm : m ≤ 1048576) (hA : RdB w A m) :
    Calls Tryd.prog 15 #[.slice A m c] w fun e w' => e = .returned (.pointer (some ⟨w.heap.size, 0, none⟩)) ∧ Rdr w' w.heap.size 0 ∧ Below w.heap.size w w' := by
  have key : ∀ (k c : Nat), k ≤ 2000 → k ≤ m → Rdr (w.alloc (.cells #[.slice A k c, .int .i64 0] 54)) w.heap.size 0 := by
    intro k c hk hkm
    refine ⟨A, k, c, 0, heap_alloc_new w _, hk, Nat.le_refl _, ?_, ?_⟩
    · intro h0
      obtain ⟨b, o, e, hlt, hcb⟩ := hA.sub hkm h0
      have bel : Below w.heap.size w (w.alloc (.cells #[.slice A k c, .int .i64 0] 54)) := allocB (Below.refl _ _) _
      refine ⟨b, o, e, Nat.lt_of_lt_of_le hlt bel.size, fun j hj => ?_⟩
      obtain ⟨x, h0, h1, h2⟩ := hcb j hj
      exact ⟨x, h0, h1, (bel.cell (p := ⟨b, o + j, none⟩) hlt).trans h2⟩
    · intro a ha h0
      obtain ⟨b, o, e, hlt, hcb⟩ := hA.sub hkm h0
      rw [ha] at e; cases e
      exact hlt
  by_cases h : 2000 < m
  · obtain ⟨b, o, rfl, _, _⟩ := hA (by omega)
    clear hA
    have K := Lib.hid key; clear key
    go_enter Tryd.func15, Tryd.ntmps15
    go_wp2_with fail
    go_ret
    exact ⟨rfl, K.out _ _ (by omega) (by omega), allocB (Below.refl _ _) _⟩
  · clear hA
    have K := Lib.hid key; clear key
    go_enter Tryd.func15, Tryd.ntmps15
    go_wp2_with fail
    go_ret
    exact ⟨rfl, K.out _ _ (by omega) (by omega), allocB (Below.refl _ _) _⟩
end Go.Proofs.YthekihggedgofaaDoor
