/- Small lemmas and words for memory, used by all proofs of this seat: a slice that reads as a list, a slice that the call owns. No statement is proved here. -/
import Derived.WalkKit
import Derived.WalkLawsBesides
import Derived.WalkSpells
import Derived.Below
import Derived.Lib.Hide
import Derived.Laws.OwnMore
import Derived.Laws.Rows
import Derived.Deep.Draws
import Derived.Deep.QuietTactic
import Derived.OwnWalk
import Derived.Maps.AppendAt
namespace Go.Proofs.YthekihggedgofaaDoor
open Go.RowKit

theorem ret_bool {a b : Bool} (h : a = b) : Ending.returned (.bool a) = .returned (.bool b) := by rw [h]
theorem ret_int {k : IntKind} {a b : Int} (h : a = b) : Ending.returned (.int k a) = .returned (.int k b) := by rw [h]
theorem below_drewN {B : Nat} {a w : World} (h : Below B a w) (n : Nat) : Below B a (w.drewN n) := ⟨h.os, h.tape, h.output, h.size, h.block⟩

theorem seqB {a b c : World} (h : Below a.heap.size a b) (k : Below b.heap.size b c) : Below a.heap.size a c := h.trans (k.mono h.size)
theorem drewB (w : World) (n : Nat) : Below w.heap.size w (w.drewN n) := below_drewN (Below.refl _ _) n

/- quiet calls behind quiet regions -/
theorem quiet_left {P : Program} {f : FuncId} {args : Array Value} {w : World} {n : Nat} {v : Value}
    (h : Calls P f args (w.drewN n) fun e w' => e = .returned v ∧ w.drewN n = w') : Calls P f args (w.drewN n) fun e w'' => e = .returned v ∧ ∃ m, w'' = w.drewN m :=
  h.mono fun _ _ ⟨he, hm⟩ => ⟨he, n, hm.symm⟩
theorem quiet_draws {P : Program} {f : FuncId} {args : Array Value} {w : World} {n : Nat} {v : Value}
    (h : Calls P f args (w.drewN n) fun e w' => e = .returned v ∧ ∃ q, w' = (w.drewN n).drewN q) : Calls P f args (w.drewN n) fun e w'' => e = .returned v ∧ ∃ m, w'' = w.drewN m :=
  h.mono fun _ _ ⟨he, q, hm⟩ => ⟨he, n + q, by rw [hm, World.drewN_drewN]⟩
theorem drewN_more {w wr : World} {n : Nat} (h : Hid (∃ q, wr = w.drewN q)) : ∃ q, wr.drewN n = w.drewN q := by
  obtain ⟨q, rfl⟩ := h.out
  exact ⟨_, World.drewN_drewN _ _ _⟩

/-- ints as cells -/
def ints (xs : List Int) : List Value := xs.map (Value.int .i64)
theorem ints_length (xs : List Int) : (ints xs).length = xs.length := by simp [ints]

/-- A slice with address A reads the cells cs. -/
def Rd (w : World) (A : Option Addr) (cs : List Value) : Prop :=
  0 < cs.length → ∃ b o, A = some ⟨b, o, none⟩ ∧ b < w.heap.size ∧ ∀ k u, cs[k]? = some u → w.cell? ⟨b, o + k, none⟩ = some u

theorem Rd.below {w w' : World} {A : Option Addr} {cs : List Value} (h : Rd w A cs) (hb : Below w.heap.size w w') : Rd w' A cs := by
  intro h0
  obtain ⟨b, o, e, hlt, hc⟩ := h h0
  exact ⟨b, o, e, Nat.lt_of_lt_of_le hlt hb.size, fun k u hu => (hb.cell (p := ⟨b, o + k, none⟩) hlt).trans (hc k u hu)⟩
theorem Rd.nil {w : World} {A : Option Addr} : Rd w A [] := fun h => absurd h (by simp)
theorem Rd.drewN {w : World} {A : Option Addr} {cs : List Value} (h : Rd w A cs) (n : Nat) : Rd (w.drewN n) A cs := h

/-- the slice's k-th int -/
theorem Rd.int {w : World} {A : Option Addr} {xs : List Int} (h : Rd w A (ints xs)) {k : Nat} (hk : k < xs.length) :
    ∃ b o, A = some ⟨b, o, none⟩ ∧ b < w.heap.size ∧ w.cell? ⟨b, o + k, none⟩ = some (.int .i64 (xs.getD k 0)) := by
  obtain ⟨b, o, e, hlt, hc⟩ := h (by rw [ints_length]; omega)
  refine ⟨b, o, e, hlt, hc k _ ?_⟩
  simp [ints, hk]
theorem Rd.ints {w : World} {A : Option Addr} {xs : List Int} (h : Rd w A (ints xs)) (h0 : 0 < xs.length) :
    ∃ b o, A = some ⟨b, o, none⟩ ∧ b < w.heap.size ∧ ∀ k, k < xs.length → w.cell? ⟨b, o + k, none⟩ = some (.int .i64 (xs.getD k 0)) := by
  obtain ⟨b, o, e, hlt, hc⟩ := h (by rw [ints_length]; omega)
  refine ⟨b, o, e, hlt, fun k hk => hc k _ ?_⟩
  simp [Go.Proofs.YthekihggedgofaaDoor.ints, hk]

/-- A slice that the call owns: its block is from base on, not frozen; of an empty one nothing is said. -/
def Own (w : World) (base : Nat) (E : TypeId) (size : Nat) (A : Option Addr) (n : Nat) (cs : List Value) : Prop :=
  cs.length = n * size ∧ (0 < n → ∃ g cur, A = some ⟨g, 0, none⟩ ∧ base ≤ g ∧ w.heap[g]? = some (.cells cur E (0, 0)) ∧ cur.toList.take (n * size) = cs)

theorem Own.rd {w : World} {base : Nat} {E : TypeId} {size n : Nat} {A : Option Addr} {cs : List Value} (h : Own w base E size A n cs) : Rd w A cs := by
  intro h0
  have hn : 0 < n := by
    rcases Nat.eq_zero_or_pos n with e | e
    · have := h.1; subst e; omega
    · exact e
  obtain ⟨g, cur, e, _, hg, ht⟩ := h.2 hn
  have hlt : g < w.heap.size := by
    rcases Nat.lt_or_ge g w.heap.size with hlt | hge
    · exact hlt
    · rw [Array.getElem?_eq_none hge] at hg; cases hg
  refine ⟨g, 0, e, hlt, fun k u hu => ?_⟩
  rw [Nat.zero_add, cell_of_row w g k cur E (0, 0) hg]
  rw [← ht] at hu
  rw [List.getElem?_take] at hu
  split at hu
  · simpa using hu
  · cases hu

theorem Own.below {w w' : World} {base : Nat} {E : TypeId} {size n : Nat} {A : Option Addr} {cs : List Value} (h : Own w base E size A n cs) (hb : Below w.heap.size w w') : Own w' base E size A n cs := by
  refine ⟨h.1, fun hn => ?_⟩
  obtain ⟨g, cur, e, hge, hg, ht⟩ := h.2 hn
  have hlt : g < w.heap.size := by
    rcases Nat.lt_or_ge g w.heap.size with hlt | hge
    · exact hlt
    · rw [Array.getElem?_eq_none hge] at hg; cases hg
  exact ⟨g, cur, e, hge, (hb.block g hlt).trans hg, ht⟩
theorem Own.mono {w : World} {base base' : Nat} {E : TypeId} {size n : Nat} {A : Option Addr} {cs : List Value} (h : Own w base E size A n cs) (hb : base' ≤ base) : Own w base' E size A n cs := by
  refine ⟨h.1, fun hn => ?_⟩
  obtain ⟨g, cur, e, hge, hg, ht⟩ := h.2 hn
  exact ⟨g, cur, e, by omega, hg, ht⟩

theorem own_of_row {w : World} {base : Nat} {E : TypeId} {size n : Nat} {v : Value} {cs : List Value} (h : w.ownsRow base E size v n cs) :
    ∃ A c, v = .slice A n c ∧ Own w base E size A n cs := by
  rcases h.2 with ⟨rfl, rfl⟩ | ⟨g, cap, cur, rfl, hb, hg, hn, hm, hs, ht⟩
  · exact ⟨none, 0, rfl, h.1, fun h => absurd h (by omega)⟩
  · exact ⟨_, _, rfl, h.1, fun _ => ⟨g, cur, rfl, hb, hg, ht⟩⟩

theorem row_cell {w : World} {base : Nat} {E : TypeId} {size n cap g : Nat} {cs : List Value} (h : w.ownsRow base E size (.slice (some ⟨g, 0, none⟩) n cap) n cs) {j : Nat} (hj : j < n * size) :
    ∃ u, w.cell? ⟨g, j, none⟩ = some u := by
  refine ⟨cs[j]'(by rw [h.1]; exact hj), ?_⟩
  rw [h.cellAt j hj, List.getElem?_eq_getElem]
theorem Own.nil {w : World} {base : Nat} {E : TypeId} {size : Nat} {A : Option Addr} : Own w base E size A 0 [] := ⟨by simp, fun h => absurd h (by omega)⟩

theorem Own.form {w : World} {base : Nat} {E : TypeId} {size n : Nat} {A : Option Addr} {cs : List Value} (h : Own w base E size A n cs) (hn : 0 < n) : ∃ g, A = some ⟨g, 0, none⟩ ∧ base ≤ g ∧ g < w.heap.size := by
  obtain ⟨g, cur, e, hge, hg, _⟩ := h.2 hn
  refine ⟨g, e, hge, ?_⟩
  rcases Nat.lt_or_ge g w.heap.size with hlt | hge
  · exact hlt
  · rw [Array.getElem?_eq_none hge] at hg; cases hg
theorem Own.cell {w : World} {base : Nat} {E : TypeId} {size n g : Nat} {cs : List Value} (h : Own w base E size (some ⟨g, 0, none⟩) n cs) (hn : 0 < n) (j : Nat) (hj : j < n * size) : w.cell? ⟨g, j, none⟩ = cs[j]? := by
  obtain ⟨g', cur, e, hge, hg, ht⟩ := h.2 hn
  cases e
  rw [cell_of_row w g j cur E (0, 0) hg, ← ht, List.getElem?_take, if_pos hj]
  simp
theorem Own.has {w : World} {base : Nat} {E : TypeId} {size n g : Nat} {cs : List Value} (h : Own w base E size (some ⟨g, 0, none⟩) n cs) (hn : 0 < n) (j : Nat) (hj : j < n * size) : ∃ u, w.cell? ⟨g, j, none⟩ = some u := by
  rw [h.cell hn j hj]
  exact ⟨cs[j]'(by rw [h.1]; exact hj), List.getElem?_eq_getElem _⟩
theorem Own.frozen {w : World} {base : Nat} {E : TypeId} {size n g : Nat} {cs : List Value} (h : Own w base E size (some ⟨g, 0, none⟩) n cs) (hn : 0 < n) (j : Nat) : w.frozen? ⟨g, j, none⟩ = false := by
  obtain ⟨g', cur, e, hge, hg, ht⟩ := h.2 hn
  cases e
  exact frozen_of_row w g j cur E hg
theorem Own.set {w : World} {base : Nat} {E : TypeId} {size n g : Nat} {cs : List Value} (h : Own w base E size (some ⟨g, 0, none⟩) n cs) (j : Nat) (u : Value) : Own (w.setCell ⟨g, j, none⟩ u) base E size (some ⟨g, 0, none⟩) n (cs.set j u) := by
  refine ⟨by simpa using h.1, fun hn => ?_⟩
  obtain ⟨g', cur, e, hge, hg, ht⟩ := h.2 hn
  cases e
  refine ⟨g, cur.setIfInBounds j u, rfl, hge, heap_setCell_same w g j cur E u hg, ?_⟩
  rw [Array.toList_setIfInBounds, ← ht, List.take_set]

/-- Only the block of the slice (A, n) has turned. -/
structure Turned (A : Option Addr) (n : Nat) (w w' : World) : Prop where
  os : w'.os = w.os
  tape : w'.tape = w.tape
  output : w'.output = w.output
  size : w'.heap.size = w.heap.size
  block : ∀ k, (∀ a, 0 < n → A = some a → k ≠ a.block) → w'.heap[k]? = w.heap[k]?
theorem Turned.refl (A : Option Addr) (n : Nat) (w : World) : Turned A n w w := ⟨rfl, rfl, rfl, rfl, fun _ _ => rfl⟩
theorem Turned.setCell {g n : Nat} {a w : World} (h : Turned (some ⟨g, 0, none⟩) n a w) (hn : 0 < n) (o : Nat) (u : Value) : Turned (some ⟨g, 0, none⟩) n a (w.setCell ⟨g, o, none⟩ u) :=
  ⟨h.os, h.tape, h.output, by simpa [World.setCell] using h.size, fun k hk => (Below.heap_setCell w ⟨g, o, none⟩ u k (hk ⟨g, 0, none⟩ hn rfl)).trans (h.block k hk)⟩
theorem Turned.below {A : Option Addr} {n B : Nat} {w w' : World} (h : Turned A n w w') (hB : ∀ a, 0 < n → A = some a → B ≤ a.block) : Below B w w' :=
  ⟨h.os, h.tape, h.output, by rw [h.size]; exact Nat.le_refl _, fun k hk => h.block k (fun a hn ha => by have := hB a hn ha; omega)⟩
/-- what lies from a later base on is kept -/
theorem Turned.own {A A' : Option Addr} {n base : Nat} {w w' : World} {E : TypeId} {size n' : Nat} {cs : List Value} (h : Turned A n w w') (ho : Own w base E size A' n' cs) (hg : ∀ a, 0 < n → A = some a → a.block < base) : Own w' base E size A' n' cs := by
  refine ⟨ho.1, fun hn => ?_⟩
  obtain ⟨g', cur, e, hge, hh, ht⟩ := ho.2 hn
  exact ⟨g', cur, e, hge, (h.block g' (fun a h0 ha => by have := hg a h0 ha; omega)).trans hh, ht⟩

/- lists of structs as flat lists of cells -/
theorem flat_length {α : Type} (f : α → List Value) (s : Nat) (hs : ∀ a, (f a).length = s) (l : List α) : (l.flatMap f).length = l.length * s := by
  induction l with
  | nil => simp
  | cons a l ih => rw [List.flatMap_cons, List.length_append, hs, ih, List.length_cons, Nat.succ_mul, Nat.add_comm]
theorem flat_get {α : Type} (f : α → List Value) (s : Nat) (hs : ∀ a, (f a).length = s) (d : α) : ∀ (l : List α) (k j : Nat), k < l.length → j < s → (l.flatMap f)[k * s + j]? = (f (l.getD k d))[j]?
  | [], k, j, hk, _ => absurd hk (by simp)
  | a :: l, 0, j, _, hj => by
    rw [List.flatMap_cons, List.getElem?_append_left (by rw [hs]; omega)]
    simp
  | a :: l, k + 1, j, hk, hj => by
    have e : (k + 1) * s + j = s + (k * s + j) := by rw [Nat.succ_mul]; omega
    rw [List.flatMap_cons, List.getElem?_append_right (by rw [hs, e]; omega), hs, e, show s + (k * s + j) - s = k * s + j by omega, flat_get f s hs d l k j (by simpa using hk) hj]
    simp
theorem flat_take_succ {α : Type} (f : α → List Value) (d : α) (l : List α) (k : Nat) (h : k < l.length) : (l.take (k + 1)).flatMap f = (l.take k).flatMap f ++ f (l.getD k d) := by
  rw [List.take_succ_eq_append_getElem h, List.flatMap_append]; simp [h]
theorem take_set_succ {cs pre : List Value} {j : Nat} (u : Value) (hl : j < cs.length) (ht : cs.take j = pre) : (cs.set j u).take (j + 1) = pre ++ [u] := by
  rw [List.take_succ_eq_append_getElem (by simpa using hl), List.take_set, List.set_eq_of_length_le (by simp; omega), ht]
  simp

theorem cell_news (w : World) (cs : Array Value) (t : TypeId) : ∀ j u, cs.toList[j]? = some u → (w.alloc (.cells cs t)).cell? ((⟨w.heap.size, 0, none⟩ : Addr).add j) = some u := by
  intro j u hu
  have e : ((⟨w.heap.size, 0, none⟩ : Addr).add j) = ⟨w.heap.size, j, none⟩ := by unfold Addr.add; split <;> simp_all
  rw [e, cell_of_row (w.alloc (.cells cs t)) w.heap.size j cs t (0, 0) (heap_alloc_new w _)]
  simpa using hu

/-- append of one value that has just been laid in a new block of its own, onto a slice of the call's own -/
theorem wpList_app1 {P : Program} (w : World) {ops : Array Oper} {rest : List Oper} {o : Oper} {a : Act} {Q : Exit → Act → World → Prop} (hgd : o.guard = none) (s x : Operand) (t : TypeId)
    (ho : o.op = .call { callee := .builtin .append, args := #[s, x], argTypes := #[t, t] })
    (base : Nat) (e : TypeId) (i : TypeInfo) (z : Value) (size bytes : Nat) (ht : P.underlying t = some (.slice e)) (hinfo : P.info? e = some i ∧ i.zero = some z ∧ i.size = size ∧ i.bytes = bytes)
    (hzs : z.cells.size = size) (hsz : 0 < size)
    (v : Value) (n : Nat) (xs : List Value) (hs : a.eval s = v) (hown : w.ownsRow base e size v n xs)
    (news : Array Value) (hx : a.eval x = .slice (some ⟨w.heap.size, 0, none⟩) 1 1) (hl : news.toList.length = 1 * size) (h1 : ∀ u ∈ news.toList, u.oneCell' = true)
    (hn : n ≤ 10000000) (hby : bytes ≤ 1000) (hbase : base ≤ w.heap.size)
    (hK : ∀ v' w', w'.ownsRow base e size v' (n + 1) (xs ++ news.toList) → (w.alloc (.cells news e)).grownBy w' v.ownBlock → wpList P ops Q rest (a.put o.dst v') w') : wpList P ops Q (o :: rest) a (w.alloc (.cells news e)) :=
  wpList_append_own _ hgd s x t ho base e i z size bytes ht hinfo.1 hinfo.2.1 hinfo.2.2.1 hinfo.2.2.2 hzs hsz v n xs hs (hown.alloc _) ⟨w.heap.size, 0, none⟩ 1 1 news.toList hx hl (cell_news w news e) h1
    (by unfold maxLen; omega) (by have : (n + 1) * bytes ≤ 10000001 * 1000 := Nat.mul_le_mul (by omega) hby
                                  omega) (by simp; omega) (fun v' w' h2 h3 _ => hK v' w' h2 h3)

theorem Own.lt {w : World} {base : Nat} {E : TypeId} {size n : Nat} {A : Option Addr} {cs : List Value} (h : Own w base E size A n cs) : ∀ a, 0 < n → A = some a → a.block < w.heap.size := by
  intro a hn e
  obtain ⟨g, e', _, hlt⟩ := h.form hn
  rw [e] at e'; cases e'; exact hlt
theorem Own.ge {w : World} {base B : Nat} {E : TypeId} {size n : Nat} {A : Option Addr} {cs : List Value} (h : Own w base E size A n cs) (hB : B ≤ base) : ∀ a, 0 < n → A = some a → B ≤ a.block := by
  intro a hn e
  obtain ⟨g, e', hge, _⟩ := h.form hn
  rw [e] at e'; cases e'; exact Nat.le_trans hB hge

/-- the call returns a slice of its own that reads cs (n elements); nothing that was there has turned -/
def RetS (E : TypeId) (size : Nat) (cs : List Value) (n : Nat) (w : World) (e : Ending) (w' : World) : Prop :=
  ∃ B c, e = .returned (.slice B n c) ∧ Own w' w.heap.size E size B n cs ∧ Below w.heap.size w w'

theorem allocB {a w : World} (h : Below a.heap.size a w) (o : Obj) : Below a.heap.size a (w.alloc o) := h.alloc h.size o
theorem drewNB {a w : World} (h : Below a.heap.size a w) (n : Nat) : Below a.heap.size a (w.drewN n) := below_drewN h n
theorem drew1B {a w : World} (h : Below a.heap.size a w) : Below a.heap.size a w.drew := h.drew
end Go.Proofs.YthekihggedgofaaDoor
