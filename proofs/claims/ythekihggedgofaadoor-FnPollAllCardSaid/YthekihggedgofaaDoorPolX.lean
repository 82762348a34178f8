/- Append onto a slice of a function's own, perhaps with an offset; the contracts of l27Hear and l27Take. No statement is proved here. -/
import Derived.Test.YthekihggedgofaaDoorPolW
import Derived.ArgAppend
namespace Go.Proofs.YthekihggedgofaaDoor
open Go.RowKit

theorem take_set_end (l : List Value) (n : Nat) (u : Value) (h : n < l.length) : (l.set n u).take (n + 1) = l.take n ++ [u] := by
  apply List.ext_getElem?
  intro k
  rw [List.getElem?_take]
  by_cases h1 : k < n
  · rw [if_pos (by omega), List.getElem?_append_left (by rw [List.length_take]; omega), List.getElem?_take, if_pos h1, List.getElem?_set_ne (by omega)]
  · by_cases h2 : k = n
    · subst h2
      rw [if_pos (by omega), List.getElem?_append_right (by rw [List.length_take]; omega), List.length_take, Nat.min_eq_left (by omega), List.getElem?_set_self h]; simp
    · rw [if_neg (by omega), List.getElem?_append_right (by rw [List.length_take]; omega), List.length_take, Nat.min_eq_left (by omega)]
      rw [List.getElem?_eq_none]; simp; omega
theorem Off.room {w : World} {base g o n c : Nat} {cs : List Value} (h : Off w base (some ⟨g, o, none⟩) n c cs) (hc : n + 1 ≤ c) (u : Value) :
    Off (w.setCell ⟨g, o + n, none⟩ u) base (some ⟨g, o, none⟩) (n + 1) c (cs ++ [u]) ∧ (w.cell? ⟨g, o + n, none⟩).isSome = true ∧ w.frozen? ⟨g, o + n, none⟩ = false := by
  obtain ⟨hl, hh⟩ := h
  rcases hh with ⟨e, _⟩ | ⟨g', o', cur, e, hge, hg, hn, hz, ht⟩
  · cases e
  · cases e
    refine ⟨⟨by simp [hl], .inr ⟨g, o, cur.setIfInBounds (o + n) u, rfl, hge, heap_setCell_same w g (o + n) cur 3 u hg, hc, by simpa using hz, ?_⟩⟩, ?_, frozen_of_row w g (o + n) cur _ hg⟩
    · rw [Array.toList_setIfInBounds, List.drop_set, if_neg (by omega), Nat.add_sub_cancel_left, take_set_end _ _ _ (by rw [List.length_drop]; simp; omega), ht]
    · rw [cell_of_row w g (o + n) cur 3 (0, 0) hg]; simp; omega
/-- append of one int, onto nil, in place or into a new block -/
theorem wpList_appOff {P : Program} (w : World) {ops : Array Oper} {rest : List Oper} {o : Oper} {a : Act} {Q : Exit → Act → World → Prop} (hgd : o.guard = none) (s x : Operand) (t : TypeId)
    (ho : o.op = .call { callee := .builtin .append, args := #[s, x], argTypes := #[t, t] })
    (i : TypeInfo) (z : Value) (ht : P.underlying t = some (.slice 3)) (hinfo : P.info? 3 = some i ∧ i.zero = some z ∧ i.size = 1 ∧ i.bytes = 8) (hzs : z.cells.size = 1)
    (base : Nat) (A : Option Addr) (n c : Nat) (xs : List Value) (hs : a.eval s = .slice A n c) (hoff : Off w base A n c xs)
    (G : Nat) (u : Value) (hx : a.eval x = .slice (some ⟨G, 0, none⟩) 1 1) (hu : w.cell? ⟨G, 0, none⟩ = some u) (h1 : u.oneCell' = true)
    (hn : n ≤ 10000000) (hbase : base ≤ w.heap.size)
    (hK : ∀ A' c' w', Off w' base A' (n + 1) c' (xs ++ [u]) → w.grownBy w' (Value.slice A n c).ownBlock → (∀ b, A' = some b → (Value.slice A n c).ownBlock = some b.block ∨ w.heap.size ≤ b.block) → wpList P ops Q rest (a.put o.dst (.slice A' (n + 1) c')) w') : wpList P ops Q (o :: rest) a w := by
  obtain ⟨i1, i2, i3, i4⟩ := hinfo
  have hnew : ∀ j v, ([u] : List Value)[j]? = some v → w.cell? ((⟨G, 0, none⟩ : Addr).add j) = some v := by
    intro j v hj
    rw [Addr.add_lit]
    rcases j with _ | j
    · simp at hj; subst hj; simpa using hu
    · simp at hj
  have hgrow : ∀ v' w', w'.ownsRow w.heap.size 3 1 v' (n + 1) (xs ++ [u]) → w.grownBy w' none → wpList P ops Q rest (a.put o.dst v') w' := by
    intro v' w' h2 h3
    obtain ⟨B, d, rfl, _⟩ := own_of_row h2
    refine hK B d w' ((off_row h2).mono hbase) ⟨h3.os, h3.tape, h3.output, h3.size, fun k hk _ => h3.block k hk (by simp)⟩ (fun b e => .inr ?_)
    exact ((off_row h2).ge b e).1
  by_cases hr : n + 1 ≤ c
  · cases A with
    | none => have := hoff.nil rfl; omega
    | some ad =>
      obtain ⟨g, o', e, _⟩ : ∃ g o', ad = ⟨g, o', none⟩ ∧ True := by
        rcases hoff.2 with ⟨e, _⟩ | ⟨g, o', cur, e, _⟩
        · cases e
        · cases e; exact ⟨g, o', rfl, trivial⟩
      subst e
      refine wpList_append_arg w hgd s x t ho 3 i z 1 8 ht i1 i2 i3 i4 hzs Nat.one_pos g o' n c xs hs (by rw [hoff.1, Nat.mul_one]) ?_ ⟨G, 0, none⟩ 1 1 [u] hx rfl hnew (by simpa using h1) ?_ (by unfold maxLen; omega) (by omega) ?_ (fun _ v' w' => hgrow v' w')
      · intro j v hj
        have h0 : 0 < xs.length := by rcases xs with _ | ⟨y, ys⟩ <;> simp at hj ⊢
        obtain ⟨b, o2, e, _, hc⟩ := hoff.rd h0
        cases e; exact hc j v hj
      · intro _ j hj
        obtain rfl : j = 0 := by simp at hj; omega
        obtain ⟨_, h2, h3⟩ := hoff.room hr u
        simpa using ⟨h2, h3⟩
      · intro _
        obtain ⟨h2, _, _⟩ := hoff.room hr u
        have e : w.setCells g (o' + n * 1) [u] = w.setCell ⟨g, o' + n, none⟩ u := by simp [World.setCells]
        rw [e]
        exact hK _ _ _ h2 (set_grown w g (o' + n) u) (fun b e => .inl (by cases e; rfl))
  · refine wpList_append_grows w hgd s x t ho 3 i z 1 8 ht i1 i2 i3 i4 hzs Nat.one_pos A n c xs hs hoff.nil (by rw [hoff.1, Nat.mul_one]) ?_ ⟨G, 0, none⟩ 1 1 [u] hx rfl hnew (by simpa using h1) (by omega) (by unfold maxLen; omega) (by omega) hgrow
    intro b e j v hj
    have h0 : 0 < xs.length := by rcases xs with _ | ⟨y, ys⟩ <;> simp at hj ⊢
    obtain ⟨g, o2, e2, _, hc⟩ := hoff.rd h0
    rw [e] at e2; cases e2
    rw [Addr.add_lit]; exact hc j v hj
theorem grR_set {a w : World} {row : Option Nat} {g : Nat} (h : a.grownBy w row) (j : Nat) (u : Value) (hg : a.heap.size ≤ g) : a.grownBy (w.setCell ⟨g, j, none⟩ u) row :=
  h.andThen (set_grown w g j u) (fun k e => by cases e; exact .inl hg)
theorem grR_alloc {a w : World} {row : Option Nat} (h : a.grownBy w row) (o : Obj) : a.grownBy (w.alloc o) row := h.trans (World.grownBy_alloc w o _)
theorem box_own {w w' : World} {g : Nat} {row : Option Nat} {o : Obj} (h : Hid (w.heap[g]? = some o)) (hg : w.grownBy w' row) (hne : row ≠ some g) : Hid (w'.heap[g]? = some o) := (hg.block g (blk_inP h.out) (fun e => hne e.symm)).trans h.out
theorem Off.ne {w : World} {base n c : Nat} {A : Option Addr} {cs : List Value} (h : Off w base A n c cs) {g : Nat} (hg : w.heap.size ≤ g) : (Value.slice A n c).ownBlock ≠ some g := by
  cases A with
  | none => simp [Value.ownBlock]
  | some a => have := (h.ge a rfl).2; simp [Value.ownBlock]; omega
theorem keepA2 {w : World} {a : Addr} {v : Value} (h : w.cell? a = some v) (o : Obj) : (w.alloc o).cell? a = some v := keepC h (allocB (Below.refl _ _) o)
theorem Off.tail {w : World} {base g o n c : Nat} {x : Value} {cs : List Value} (h : Off w base (some ⟨g, o, none⟩) (n + 1) c (x :: cs)) : Off w base (some ⟨g, o + 1, none⟩) n (c - 1) cs := by
  obtain ⟨hl, hh⟩ := h
  rcases hh with ⟨e, _⟩ | ⟨g', o', cur, e, hge, hg, hn, hz, ht⟩
  · cases e
  · cases e
    refine ⟨by simpa using hl, .inr ⟨g, o + 1, cur, rfl, hge, hg, by omega, by omega, ?_⟩⟩
    have := congrArg (List.drop 1) ht
    rw [List.drop_take, List.drop_drop] at this
    simpa using this
theorem Off.empty {w : World} {base g o n c : Nat} {cs : List Value} (h : Off w base (some ⟨g, o, none⟩) n c cs) : Off w base (some ⟨g, o, none⟩) 0 0 (ints []) := by
  refine ⟨rfl, ?_⟩
  rcases h.2 with ⟨e, _⟩ | ⟨g', o', cur, e, hge, hg, hn, hz, ht⟩
  · cases e
  · exact .inr ⟨g', o', cur, e, hge, hg, Nat.le_refl _, by omega, rfl⟩
theorem Off.cons {w : World} {base n c : Nat} {A : Option Addr} {Q : List Int} (h : Off w base A n c (ints Q)) (hn : 0 < n) : ∃ (g o : Nat) (x : Int) (Q' : List Int), A = some ⟨g, o, none⟩ ∧ Q = x :: Q' ∧ w.cell? ⟨g, o, none⟩ = some (.int .i64 x) ∧ n ≤ c := by
  have hl := h.1
  rcases Q with _ | ⟨x, Q'⟩
  · simp [ints] at hl; omega
  · obtain ⟨g, o, e, _, hc⟩ := h.rd (by rw [hl]; exact hn)
    refine ⟨g, o, x, Q', e, rfl, by simpa [ints] using hc 0 (.int .i64 x) (by simp [ints]), ?_⟩
    rcases h.2 with ⟨e2, h2, _⟩ | ⟨g', o', cur, e2, _, _, hn2, _⟩
    · omega
    · exact hn2
/-- heard: the queue may have lost its first event -/
def RetHear (base : Nat) (M : Int) (A1 : Option Addr) (n1 c1 n3 : Nat) (A3 : Option Addr) (K : Int) (w : World) (e : Ending) (w' : World) : Prop :=
  ∃ (S : Int) (B3 : Option Addr) (m3 d3 : Nat) (Q : List Int) (L T E : Int), e = .returned (.agg #[.int .i64 M, .slice A1 n1 c1, .int .i64 S, .slice B3 m3 d3, .int .i64 L, .int .i64 K, .int .i64 T, .int .i64 E]) ∧ m3 ≤ n3 ∧ Off w' base B3 m3 d3 (ints Q) ∧ (∀ b, B3 = some b → ∃ a, A3 = some a ∧ a.block = b.block) ∧ Below w.heap.size w w'
set_option maxRecDepth 100000 in
set_option maxHeartbeats 4000000 in
theorem hearC (base : Nat) (M : Int) (A1 : Option Addr) (n1 c1 : Nat) (S : Int) (A3 : Option Addr) (n3 c3 : Nat) (Q : List Int) (L K T E : Int) (w : World) (hm3 : n3 ≤ 1048576) (hA3 : Off w base A3 n3 c3 (ints Q)) :
    Calls Tryd.prog 41 #[.agg #[.int .i64 M, .slice A1 n1 c1, .int .i64 S, .slice A3 n3 c3, .int .i64 L, .int .i64 K, .int .i64 T, .int .i64 E]] w (RetHear base M A1 n1 c1 n3 A3 K w) := by
  have HO := Lib.hid hA3; clear hA3
  have HG := Lib.hid (Below.refl w.heap.size w)
  go_enter Tryd.func41, Tryd.ntmps41
  clear HG
  cases e1 : (K != S) with
  | false =>
    go_wp2_with fail
    exact bodyPost_ret (v := .agg #[.int .i64 M, .slice A1 n1 c1, .int .i64 S, .slice A3 n3 c3, .int .i64 L, .int .i64 K, .int .i64 S, .int .i64 L]) (by simp [results, Tryd.results41, go_sem]) rfl ⟨S, A3, n3, c3, Q, L, S, L, rfl, by omega, (HO.out.alloc _).alloc _, fun b e => ⟨b, e, rfl⟩, allocB (allocB (Below.refl _ _) _) _⟩
  | true =>
    by_cases hn : 0 < n3
    · skip
      obtain ⟨g, o, x, Q', rfl, rfl, hc0, hnc⟩ := HO.out.cons hn
      obtain ⟨n', rfl⟩ : ∃ n', n3 = n' + 1 := ⟨n3 - 1, by omega⟩
      have HT : Hid (Off w base (some ⟨g, o + 1, none⟩) n' (c3 - 1) (ints Q')) := Lib.hid HO.out.tail
      have HE : Hid (Off w base (some ⟨g, o, none⟩) 0 0 (ints [])) := Lib.hid HO.out.empty
      have hcx : ((w.alloc (.cells #[.int .i64 M, .slice A1 n1 c1, .int .i64 K, .slice (some ⟨g, o, none⟩) (n' + 1) c3, .int .i64 (-1), .int .i64 K, .int .i64 T, .int .i64 E] 25)).alloc (.cells #[.int .i64 0, .slice none 0 0, .int .i64 0, .slice none 0 0, .int .i64 0, .int .i64 0, .int .i64 0, .int .i64 0] 25)).cell? ⟨g, o, none⟩ = some (.int .i64 x) := keepA2 (keepA2 hc0 _) _
      have hz : (0 : Int) < ((n' + 1 : Nat) : Int) := by omega
      have hn1 : 1 ≤ n' + 1 := by omega
      clear HO
      by_cases hcc : c3 = 1
      · subst hcc
        obtain rfl : n' = 0 := by omega
        go_wp2_with fail
        exact bodyPost_ret (v := .agg #[.int .i64 M, .slice A1 n1 c1, .int .i64 K, .slice (some ⟨g, o, none⟩) 0 0, .int .i64 x, .int .i64 K, .int .i64 K, .int .i64 x]) (by simp [results, Tryd.results41, go_sem]) rfl ⟨K, some ⟨g, o, none⟩, 0, 0, [], x, K, x, rfl, by omega, (HE.out.alloc _).alloc _, fun b e => by cases e; exact ⟨_, rfl, rfl⟩, allocB (allocB (Below.refl _ _) _) _⟩
      · skip
        go_wp2_with fail
        exact bodyPost_ret (v := .agg #[.int .i64 M, .slice A1 n1 c1, .int .i64 K, .slice (some ⟨g, o + 1, none⟩) n' (c3 - 1), .int .i64 x, .int .i64 K, .int .i64 K, .int .i64 x]) (by simp [results, Tryd.results41, go_sem]) rfl ⟨K, some ⟨g, o + 1, none⟩, n', (c3 - 1), Q', x, K, x, rfl, by omega, (HT.out.alloc _).alloc _, fun b e => by cases e; exact ⟨_, rfl, rfl⟩, allocB (allocB (Below.refl _ _) _) _⟩
    · skip
      have hz : n3 = 0 := by omega
      subst hz
      clear hn
      go_wp2_with fail
      exact bodyPost_ret (v := .agg #[.int .i64 M, .slice A1 n1 c1, .int .i64 K, .slice A3 0 c3, .int .i64 (-1), .int .i64 K, .int .i64 K, .int .i64 (-1)]) (by simp [results, Tryd.results41, go_sem]) rfl ⟨K, A3, 0, c3, Q, (-1), K, (-1), rfl, by omega, (HO.out.alloc _).alloc _, fun b e => ⟨b, e, rfl⟩, allocB (allocB (Below.refl _ _) _) _⟩
/-- taken: the list of what was got may have one event more -/
def RetTake (base : Nat) (A1 : Option Addr) (n1 c1 : Nat) (S : Int) (A3 : Option Addr) (n3 c3 : Nat) (L K T E : Int) (w : World) (e : Ending) (w' : World) : Prop :=
  ∃ (M : Int) (B1 : Option Addr) (m1 d1 : Nat) (G : List Int), e = .returned (.agg #[.int .i64 M, .slice B1 m1 d1, .int .i64 S, .slice A3 n3 c3, .int .i64 L, .int .i64 K, .int .i64 T, .int .i64 E]) ∧ m1 ≤ n1 + 1 ∧ Off w' base B1 m1 d1 (ints G) ∧ (∀ b, B1 = some b → (Value.slice A1 n1 c1).ownBlock = some b.block ∨ w.heap.size ≤ b.block) ∧ w.grownBy w' (Value.slice A1 n1 c1).ownBlock
set_option maxRecDepth 100000 in
set_option maxHeartbeats 4000000 in
theorem takeC (base : Nat) (M : Int) (A1 : Option Addr) (n1 c1 : Nat) (G : List Int) (S : Int) (A3 : Option Addr) (n3 c3 : Nat) (L K T E : Int) (w : World) (hm1 : n1 ≤ 1048576) (hbs : base ≤ w.heap.size) (hA1 : Off w base A1 n1 c1 (ints G)) :
    Calls Tryd.prog 42 #[.agg #[.int .i64 M, .slice A1 n1 c1, .int .i64 S, .slice A3 n3 c3, .int .i64 L, .int .i64 K, .int .i64 T, .int .i64 E]] w (RetTake base A1 n1 c1 S A3 n3 c3 L K T E w) := by
  have HO := Lib.hid hA1; clear hA1
  obtain ⟨i0, hi0, hq0, hq1, hq2⟩ := info_parts info_int
  have HI := Lib.hid (And.intro hi0 (And.intro hq0 (And.intro hq1 hq2))); clear hi0 hq0 hq1 hq2
  have HG := Lib.hid (World.grownBy.refl w (Value.slice A1 n1 c1).ownBlock)
  obtain ⟨M', hM'⟩ : ∃ M', IntKind.i64.wrap (1 - M) = M' := ⟨_, rfl⟩
  go_enter Tryd.func42, Tryd.ntmps42
  cases e1 : (T == M) with
  | false =>
    go_wp2_with fail
    exact bodyPost_ret (v := .agg #[.int .i64 M, .slice A1 n1 c1, .int .i64 S, .slice A3 n3 c3, .int .i64 L, .int .i64 K, .int .i64 T, .int .i64 E]) (by simp [results, Tryd.results42, go_sem]) rfl ⟨M, A1, n1, c1, G, rfl, by omega, (HO.out.alloc _).alloc _, (fun b e => .inl (by subst e; rfl)), grR_alloc (grR_alloc HG.out _) _⟩
  | true =>
    cases e2 : decide (0 ≤ E) with
    | false =>
      go_wp2_with fail
      exact bodyPost_ret (v := .agg #[.int .i64 M', .slice A1 n1 c1, .int .i64 S, .slice A3 n3 c3, .int .i64 L, .int .i64 K, .int .i64 T, .int .i64 E]) (by simp [results, Tryd.results42, go_sem]) rfl ⟨M', A1, n1, c1, G, rfl, by omega, (HO.out.alloc _).alloc _, (fun b e => .inl (by subst e; rfl)), grR_alloc (grR_alloc HG.out _) _⟩
    | true =>
      have B_p := new_box w (.cells #[.int .i64 M', .slice A1 n1 c1, .int .i64 S, .slice A3 n3 c3, .int .i64 L, .int .i64 K, .int .i64 T, .int .i64 E] 25)
      have Z_p : w.heap.size ≤ w.heap.size := by have := HG.out.size; first | omega | (simp at this; omega) | (simp at this ⊢; omega)
      replace HG := Lib.hid (grR_alloc HG.out (.cells #[.int .i64 M', .slice A1 n1 c1, .int .i64 S, .slice A3 n3 c3, .int .i64 L, .int .i64 K, .int .i64 T, .int .i64 E] 25))
      have M0_p := blk_lt B_p.out
      replace M0_p : w.heap.size < (w.heap.size + 1) := by first | (simp; done) | (simp; omega) | omega
      replace B_p := al_box B_p (.cells #[.int .i64 0, .slice none 0 0, .int .i64 0, .slice none 0 0, .int .i64 0, .int .i64 0, .int .i64 0, .int .i64 0] 25)
      have B_r := new_box (w.alloc (.cells #[.int .i64 M', .slice A1 n1 c1, .int .i64 S, .slice A3 n3 c3, .int .i64 L, .int .i64 K, .int .i64 T, .int .i64 E] 25)) (.cells #[.int .i64 0, .slice none 0 0, .int .i64 0, .slice none 0 0, .int .i64 0, .int .i64 0, .int .i64 0, .int .i64 0] 25)
      replace B_r : Hid (((w.alloc (.cells #[.int .i64 M', .slice A1 n1 c1, .int .i64 S, .slice A3 n3 c3, .int .i64 L, .int .i64 K, .int .i64 T, .int .i64 E] 25)).alloc (.cells #[.int .i64 0, .slice none 0 0, .int .i64 0, .slice none 0 0, .int .i64 0, .int .i64 0, .int .i64 0, .int .i64 0] 25)).heap[(w.heap.size + 1)]? = some (.cells #[.int .i64 0, .slice none 0 0, .int .i64 0, .slice none 0 0, .int .i64 0, .int .i64 0, .int .i64 0, .int .i64 0] 25 (0, 0))) := by have := B_r.out; rw [Hid]; simpa using this
      have Z_r : w.heap.size ≤ (w.heap.size + 1) := by have := HG.out.size; first | omega | (simp at this; omega) | (simp at this ⊢; omega)
      have M_p_r : w.heap.size < (w.heap.size + 1) := M0_p
      replace HG := Lib.hid (grR_alloc HG.out (.cells #[.int .i64 0, .slice none 0 0, .int .i64 0, .slice none 0 0, .int .i64 0, .int .i64 0, .int .i64 0, .int .i64 0] 25))
      have hlit : (((w.alloc (.cells #[.int .i64 M', .slice A1 n1 c1, .int .i64 S, .slice A3 n3 c3, .int .i64 L, .int .i64 K, .int .i64 T, .int .i64 E] 25)).alloc (.cells #[.int .i64 0, .slice none 0 0, .int .i64 0, .slice none 0 0, .int .i64 0, .int .i64 0, .int .i64 0, .int .i64 0] 25)).alloc (.cells #[.int .i64 E] 3)).cell? ⟨w.heap.size + 1 + 1, 0, none⟩ = some (.int .i64 E) := by have hl := box_cell (new_box ((w.alloc (.cells #[.int .i64 M', .slice A1 n1 c1, .int .i64 S, .slice A3 n3 c3, .int .i64 L, .int .i64 K, .int .i64 T, .int .i64 E] 25)).alloc (.cells #[.int .i64 0, .slice none 0 0, .int .i64 0, .slice none 0 0, .int .i64 0, .int .i64 0, .int .i64 0, .int .i64 0] 25)) (.cells #[.int .i64 E] 3)) 0; simpa using hl
      have HOF : Hid (Off (((w.alloc (.cells #[.int .i64 M', .slice A1 n1 c1, .int .i64 S, .slice A3 n3 c3, .int .i64 L, .int .i64 K, .int .i64 T, .int .i64 E] 25)).alloc (.cells #[.int .i64 0, .slice none 0 0, .int .i64 0, .slice none 0 0, .int .i64 0, .int .i64 0, .int .i64 0, .int .i64 0] 25)).alloc (.cells #[.int .i64 E] 3)) base A1 n1 c1 (ints G)) := Lib.hid (((HO.out.alloc _).alloc _).alloc _)
      have hbz : base ≤ (((w.alloc (.cells #[.int .i64 M', .slice A1 n1 c1, .int .i64 S, .slice A3 n3 c3, .int .i64 L, .int .i64 K, .int .i64 T, .int .i64 E] 25)).alloc (.cells #[.int .i64 0, .slice none 0 0, .int .i64 0, .slice none 0 0, .int .i64 0, .int .i64 0, .int .i64 0, .int .i64 0] 25)).alloc (.cells #[.int .i64 E] 3)).heap.size := by simp; omega
      have L_p := al_box B_p (.cells #[.int .i64 E] 3)
      have L_r := al_box B_r (.cells #[.int .i64 E] 3)
      have HGL := Lib.hid (grR_alloc HG.out (.cells #[.int .i64 E] 3))
      go_upto_region 5 with (at_builtin; refine wpList_appOff _ rfl _ _ _ rfl i0 (.int .i64 0) Tryd.underlying23 HI.out rfl base A1 n1 c1 (ints G) rfl HOF.out (w.heap.size + 1 + 1) (.int .i64 E) rfl hlit rfl (by omega) hbz ?_; intro A' c' wa hoff hg3 hap; have K_p := box_own L_p hg3 (HO.out.ne (Nat.le_refl _)); have K_r := box_own L_r hg3 (HO.out.ne (by omega)); have q0 := box_cell K_p 1; have q1 := box_free K_p 1; simp at q0; have HG3 := Lib.hid (World.grownBy.trans HGL.out hg3); have HOA := Lib.hid hoff; have HAP := Lib.hid hap; clear hoff hg3 hap hlit HOF hbz L_p L_r HGL)
      replace B_p := K_p; replace B_r := K_r; replace HG := HG3; clear K_p K_r HG3 q0 q1
      replace HOA : Hid (Off wa base A' (n1 + 1) c' (ints (G ++ [E]))) := by rw [Hid, ints_snoc]; exact HOA.out
      have HN1 : Hid (∀ b, A' = some b → b.block ≠ w.heap.size ∧ b.block ≠ w.heap.size + 1) := fun b e => by rcases HAP.out b e with h | h; (· have h1 := HO.out.ne (g := b.block); constructor <;> (intro e2; exact absurd h (h1 (by omega)))); (· simp at h; omega)
      replace HOA := Lib.hid (HOA.out.setN (g := w.heap.size) (j := 1) (u := .slice A' (n1 + 1) c') (.inr (fun a e => (HN1.out a e).1)))
      have k_p_1 : wa.cell? ⟨w.heap.size, 1, none⟩ = some (.slice A1 n1 c1) := box_cell B_p 1
      have y_p_1 : wa.frozen? ⟨w.heap.size, 1, none⟩ = false := box_free B_p 1
      replace B_r := st_box (g' := w.heap.size) (j := 1) B_r (.slice A' (n1 + 1) c') (by omega)
      replace B_p := st_same B_p 1 (.slice A' (n1 + 1) c')
      replace HG := Lib.hid (grR_set HG.out 1 (.slice A' (n1 + 1) c') Z_p)
      replace B_p : Hid ((wa.setCell ⟨w.heap.size, 1, none⟩ (.slice A' (n1 + 1) c')).heap[w.heap.size]? = some (.cells #[.int .i64 M', .slice A' (n1 + 1) c', .int .i64 S, .slice A3 n3 c3, .int .i64 L, .int .i64 K, .int .i64 T, .int .i64 E] 25 (0, 0))) := B_p
      have c_p_0 : (wa.setCell ⟨w.heap.size, 1, none⟩ (.slice A' (n1 + 1) c')).cell? ⟨w.heap.size, 0, none⟩ = some (.int .i64 M') := box_cell B_p 0
      have c_p_1 : (wa.setCell ⟨w.heap.size, 1, none⟩ (.slice A' (n1 + 1) c')).cell? ⟨w.heap.size, 1, none⟩ = some (.slice A' (n1 + 1) c') := box_cell B_p 1
      have c_p_2 : (wa.setCell ⟨w.heap.size, 1, none⟩ (.slice A' (n1 + 1) c')).cell? ⟨w.heap.size, 2, none⟩ = some (.int .i64 S) := box_cell B_p 2
      have c_p_3 : (wa.setCell ⟨w.heap.size, 1, none⟩ (.slice A' (n1 + 1) c')).cell? ⟨w.heap.size, 3, none⟩ = some (.slice A3 n3 c3) := box_cell B_p 3
      have c_p_4 : (wa.setCell ⟨w.heap.size, 1, none⟩ (.slice A' (n1 + 1) c')).cell? ⟨w.heap.size, 4, none⟩ = some (.int .i64 L) := box_cell B_p 4
      have c_p_5 : (wa.setCell ⟨w.heap.size, 1, none⟩ (.slice A' (n1 + 1) c')).cell? ⟨w.heap.size, 5, none⟩ = some (.int .i64 K) := box_cell B_p 5
      have c_p_6 : (wa.setCell ⟨w.heap.size, 1, none⟩ (.slice A' (n1 + 1) c')).cell? ⟨w.heap.size, 6, none⟩ = some (.int .i64 T) := box_cell B_p 6
      have c_p_7 : (wa.setCell ⟨w.heap.size, 1, none⟩ (.slice A' (n1 + 1) c')).cell? ⟨w.heap.size, 7, none⟩ = some (.int .i64 E) := box_cell B_p 7
      replace HOA := Lib.hid (HOA.out.setN (g := (w.heap.size + 1)) (j := 0) (u := .int .i64 M') (.inr (fun a e => (HN1.out a e).2)))
      have k_r_2 : (wa.setCell ⟨w.heap.size, 1, none⟩ (.slice A' (n1 + 1) c')).cell? ⟨(w.heap.size + 1), 0, none⟩ = some (.int .i64 0) := box_cell B_r 0
      have y_r_2 : (wa.setCell ⟨w.heap.size, 1, none⟩ (.slice A' (n1 + 1) c')).frozen? ⟨(w.heap.size + 1), 0, none⟩ = false := box_free B_r 0
      replace B_p := st_box (g' := (w.heap.size + 1)) (j := 0) B_p (.int .i64 M') (by omega)
      replace B_r := st_same B_r 0 (.int .i64 M')
      replace HG := Lib.hid (grR_set HG.out 0 (.int .i64 M') Z_r)
      replace B_r : Hid (((wa.setCell ⟨w.heap.size, 1, none⟩ (.slice A' (n1 + 1) c')).setCell ⟨(w.heap.size + 1), 0, none⟩ (.int .i64 M')).heap[(w.heap.size + 1)]? = some (.cells #[.int .i64 M', .slice none 0 0, .int .i64 0, .slice none 0 0, .int .i64 0, .int .i64 0, .int .i64 0, .int .i64 0] 25 (0, 0))) := B_r
      replace HOA := Lib.hid (HOA.out.setN (g := (w.heap.size + 1)) (j := 1) (u := .slice A' (n1 + 1) c') (.inr (fun a e => (HN1.out a e).2)))
      have k_r_3 : ((wa.setCell ⟨w.heap.size, 1, none⟩ (.slice A' (n1 + 1) c')).setCell ⟨(w.heap.size + 1), 0, none⟩ (.int .i64 M')).cell? ⟨(w.heap.size + 1), 1, none⟩ = some (.slice none 0 0) := box_cell B_r 1
      have y_r_3 : ((wa.setCell ⟨w.heap.size, 1, none⟩ (.slice A' (n1 + 1) c')).setCell ⟨(w.heap.size + 1), 0, none⟩ (.int .i64 M')).frozen? ⟨(w.heap.size + 1), 1, none⟩ = false := box_free B_r 1
      replace B_p := st_box (g' := (w.heap.size + 1)) (j := 1) B_p (.slice A' (n1 + 1) c') (by omega)
      replace B_r := st_same B_r 1 (.slice A' (n1 + 1) c')
      replace HG := Lib.hid (grR_set HG.out 1 (.slice A' (n1 + 1) c') Z_r)
      replace B_r : Hid ((((wa.setCell ⟨w.heap.size, 1, none⟩ (.slice A' (n1 + 1) c')).setCell ⟨(w.heap.size + 1), 0, none⟩ (.int .i64 M')).setCell ⟨(w.heap.size + 1), 1, none⟩ (.slice A' (n1 + 1) c')).heap[(w.heap.size + 1)]? = some (.cells #[.int .i64 M', .slice A' (n1 + 1) c', .int .i64 0, .slice none 0 0, .int .i64 0, .int .i64 0, .int .i64 0, .int .i64 0] 25 (0, 0))) := B_r
      replace HOA := Lib.hid (HOA.out.setN (g := (w.heap.size + 1)) (j := 2) (u := .int .i64 S) (.inr (fun a e => (HN1.out a e).2)))
      have k_r_4 : (((wa.setCell ⟨w.heap.size, 1, none⟩ (.slice A' (n1 + 1) c')).setCell ⟨(w.heap.size + 1), 0, none⟩ (.int .i64 M')).setCell ⟨(w.heap.size + 1), 1, none⟩ (.slice A' (n1 + 1) c')).cell? ⟨(w.heap.size + 1), 2, none⟩ = some (.int .i64 0) := box_cell B_r 2
      have y_r_4 : (((wa.setCell ⟨w.heap.size, 1, none⟩ (.slice A' (n1 + 1) c')).setCell ⟨(w.heap.size + 1), 0, none⟩ (.int .i64 M')).setCell ⟨(w.heap.size + 1), 1, none⟩ (.slice A' (n1 + 1) c')).frozen? ⟨(w.heap.size + 1), 2, none⟩ = false := box_free B_r 2
      replace B_p := st_box (g' := (w.heap.size + 1)) (j := 2) B_p (.int .i64 S) (by omega)
      replace B_r := st_same B_r 2 (.int .i64 S)
      replace HG := Lib.hid (grR_set HG.out 2 (.int .i64 S) Z_r)
      replace B_r : Hid (((((wa.setCell ⟨w.heap.size, 1, none⟩ (.slice A' (n1 + 1) c')).setCell ⟨(w.heap.size + 1), 0, none⟩ (.int .i64 M')).setCell ⟨(w.heap.size + 1), 1, none⟩ (.slice A' (n1 + 1) c')).setCell ⟨(w.heap.size + 1), 2, none⟩ (.int .i64 S)).heap[(w.heap.size + 1)]? = some (.cells #[.int .i64 M', .slice A' (n1 + 1) c', .int .i64 S, .slice none 0 0, .int .i64 0, .int .i64 0, .int .i64 0, .int .i64 0] 25 (0, 0))) := B_r
      replace HOA := Lib.hid (HOA.out.setN (g := (w.heap.size + 1)) (j := 3) (u := .slice A3 n3 c3) (.inr (fun a e => (HN1.out a e).2)))
      have k_r_5 : ((((wa.setCell ⟨w.heap.size, 1, none⟩ (.slice A' (n1 + 1) c')).setCell ⟨(w.heap.size + 1), 0, none⟩ (.int .i64 M')).setCell ⟨(w.heap.size + 1), 1, none⟩ (.slice A' (n1 + 1) c')).setCell ⟨(w.heap.size + 1), 2, none⟩ (.int .i64 S)).cell? ⟨(w.heap.size + 1), 3, none⟩ = some (.slice none 0 0) := box_cell B_r 3
      have y_r_5 : ((((wa.setCell ⟨w.heap.size, 1, none⟩ (.slice A' (n1 + 1) c')).setCell ⟨(w.heap.size + 1), 0, none⟩ (.int .i64 M')).setCell ⟨(w.heap.size + 1), 1, none⟩ (.slice A' (n1 + 1) c')).setCell ⟨(w.heap.size + 1), 2, none⟩ (.int .i64 S)).frozen? ⟨(w.heap.size + 1), 3, none⟩ = false := box_free B_r 3
      replace B_p := st_box (g' := (w.heap.size + 1)) (j := 3) B_p (.slice A3 n3 c3) (by omega)
      replace B_r := st_same B_r 3 (.slice A3 n3 c3)
      replace HG := Lib.hid (grR_set HG.out 3 (.slice A3 n3 c3) Z_r)
      replace B_r : Hid ((((((wa.setCell ⟨w.heap.size, 1, none⟩ (.slice A' (n1 + 1) c')).setCell ⟨(w.heap.size + 1), 0, none⟩ (.int .i64 M')).setCell ⟨(w.heap.size + 1), 1, none⟩ (.slice A' (n1 + 1) c')).setCell ⟨(w.heap.size + 1), 2, none⟩ (.int .i64 S)).setCell ⟨(w.heap.size + 1), 3, none⟩ (.slice A3 n3 c3)).heap[(w.heap.size + 1)]? = some (.cells #[.int .i64 M', .slice A' (n1 + 1) c', .int .i64 S, .slice A3 n3 c3, .int .i64 0, .int .i64 0, .int .i64 0, .int .i64 0] 25 (0, 0))) := B_r
      replace HOA := Lib.hid (HOA.out.setN (g := (w.heap.size + 1)) (j := 4) (u := .int .i64 L) (.inr (fun a e => (HN1.out a e).2)))
      have k_r_6 : (((((wa.setCell ⟨w.heap.size, 1, none⟩ (.slice A' (n1 + 1) c')).setCell ⟨(w.heap.size + 1), 0, none⟩ (.int .i64 M')).setCell ⟨(w.heap.size + 1), 1, none⟩ (.slice A' (n1 + 1) c')).setCell ⟨(w.heap.size + 1), 2, none⟩ (.int .i64 S)).setCell ⟨(w.heap.size + 1), 3, none⟩ (.slice A3 n3 c3)).cell? ⟨(w.heap.size + 1), 4, none⟩ = some (.int .i64 0) := box_cell B_r 4
      have y_r_6 : (((((wa.setCell ⟨w.heap.size, 1, none⟩ (.slice A' (n1 + 1) c')).setCell ⟨(w.heap.size + 1), 0, none⟩ (.int .i64 M')).setCell ⟨(w.heap.size + 1), 1, none⟩ (.slice A' (n1 + 1) c')).setCell ⟨(w.heap.size + 1), 2, none⟩ (.int .i64 S)).setCell ⟨(w.heap.size + 1), 3, none⟩ (.slice A3 n3 c3)).frozen? ⟨(w.heap.size + 1), 4, none⟩ = false := box_free B_r 4
      replace B_p := st_box (g' := (w.heap.size + 1)) (j := 4) B_p (.int .i64 L) (by omega)
      replace B_r := st_same B_r 4 (.int .i64 L)
      replace HG := Lib.hid (grR_set HG.out 4 (.int .i64 L) Z_r)
      replace B_r : Hid (((((((wa.setCell ⟨w.heap.size, 1, none⟩ (.slice A' (n1 + 1) c')).setCell ⟨(w.heap.size + 1), 0, none⟩ (.int .i64 M')).setCell ⟨(w.heap.size + 1), 1, none⟩ (.slice A' (n1 + 1) c')).setCell ⟨(w.heap.size + 1), 2, none⟩ (.int .i64 S)).setCell ⟨(w.heap.size + 1), 3, none⟩ (.slice A3 n3 c3)).setCell ⟨(w.heap.size + 1), 4, none⟩ (.int .i64 L)).heap[(w.heap.size + 1)]? = some (.cells #[.int .i64 M', .slice A' (n1 + 1) c', .int .i64 S, .slice A3 n3 c3, .int .i64 L, .int .i64 0, .int .i64 0, .int .i64 0] 25 (0, 0))) := B_r
      replace HOA := Lib.hid (HOA.out.setN (g := (w.heap.size + 1)) (j := 5) (u := .int .i64 K) (.inr (fun a e => (HN1.out a e).2)))
      have k_r_7 : ((((((wa.setCell ⟨w.heap.size, 1, none⟩ (.slice A' (n1 + 1) c')).setCell ⟨(w.heap.size + 1), 0, none⟩ (.int .i64 M')).setCell ⟨(w.heap.size + 1), 1, none⟩ (.slice A' (n1 + 1) c')).setCell ⟨(w.heap.size + 1), 2, none⟩ (.int .i64 S)).setCell ⟨(w.heap.size + 1), 3, none⟩ (.slice A3 n3 c3)).setCell ⟨(w.heap.size + 1), 4, none⟩ (.int .i64 L)).cell? ⟨(w.heap.size + 1), 5, none⟩ = some (.int .i64 0) := box_cell B_r 5
      have y_r_7 : ((((((wa.setCell ⟨w.heap.size, 1, none⟩ (.slice A' (n1 + 1) c')).setCell ⟨(w.heap.size + 1), 0, none⟩ (.int .i64 M')).setCell ⟨(w.heap.size + 1), 1, none⟩ (.slice A' (n1 + 1) c')).setCell ⟨(w.heap.size + 1), 2, none⟩ (.int .i64 S)).setCell ⟨(w.heap.size + 1), 3, none⟩ (.slice A3 n3 c3)).setCell ⟨(w.heap.size + 1), 4, none⟩ (.int .i64 L)).frozen? ⟨(w.heap.size + 1), 5, none⟩ = false := box_free B_r 5
      replace B_p := st_box (g' := (w.heap.size + 1)) (j := 5) B_p (.int .i64 K) (by omega)
      replace B_r := st_same B_r 5 (.int .i64 K)
      replace HG := Lib.hid (grR_set HG.out 5 (.int .i64 K) Z_r)
      replace B_r : Hid ((((((((wa.setCell ⟨w.heap.size, 1, none⟩ (.slice A' (n1 + 1) c')).setCell ⟨(w.heap.size + 1), 0, none⟩ (.int .i64 M')).setCell ⟨(w.heap.size + 1), 1, none⟩ (.slice A' (n1 + 1) c')).setCell ⟨(w.heap.size + 1), 2, none⟩ (.int .i64 S)).setCell ⟨(w.heap.size + 1), 3, none⟩ (.slice A3 n3 c3)).setCell ⟨(w.heap.size + 1), 4, none⟩ (.int .i64 L)).setCell ⟨(w.heap.size + 1), 5, none⟩ (.int .i64 K)).heap[(w.heap.size + 1)]? = some (.cells #[.int .i64 M', .slice A' (n1 + 1) c', .int .i64 S, .slice A3 n3 c3, .int .i64 L, .int .i64 K, .int .i64 0, .int .i64 0] 25 (0, 0))) := B_r
      replace HOA := Lib.hid (HOA.out.setN (g := (w.heap.size + 1)) (j := 6) (u := .int .i64 T) (.inr (fun a e => (HN1.out a e).2)))
      have k_r_8 : (((((((wa.setCell ⟨w.heap.size, 1, none⟩ (.slice A' (n1 + 1) c')).setCell ⟨(w.heap.size + 1), 0, none⟩ (.int .i64 M')).setCell ⟨(w.heap.size + 1), 1, none⟩ (.slice A' (n1 + 1) c')).setCell ⟨(w.heap.size + 1), 2, none⟩ (.int .i64 S)).setCell ⟨(w.heap.size + 1), 3, none⟩ (.slice A3 n3 c3)).setCell ⟨(w.heap.size + 1), 4, none⟩ (.int .i64 L)).setCell ⟨(w.heap.size + 1), 5, none⟩ (.int .i64 K)).cell? ⟨(w.heap.size + 1), 6, none⟩ = some (.int .i64 0) := box_cell B_r 6
      have y_r_8 : (((((((wa.setCell ⟨w.heap.size, 1, none⟩ (.slice A' (n1 + 1) c')).setCell ⟨(w.heap.size + 1), 0, none⟩ (.int .i64 M')).setCell ⟨(w.heap.size + 1), 1, none⟩ (.slice A' (n1 + 1) c')).setCell ⟨(w.heap.size + 1), 2, none⟩ (.int .i64 S)).setCell ⟨(w.heap.size + 1), 3, none⟩ (.slice A3 n3 c3)).setCell ⟨(w.heap.size + 1), 4, none⟩ (.int .i64 L)).setCell ⟨(w.heap.size + 1), 5, none⟩ (.int .i64 K)).frozen? ⟨(w.heap.size + 1), 6, none⟩ = false := box_free B_r 6
      replace B_p := st_box (g' := (w.heap.size + 1)) (j := 6) B_p (.int .i64 T) (by omega)
      replace B_r := st_same B_r 6 (.int .i64 T)
      replace HG := Lib.hid (grR_set HG.out 6 (.int .i64 T) Z_r)
      replace B_r : Hid (((((((((wa.setCell ⟨w.heap.size, 1, none⟩ (.slice A' (n1 + 1) c')).setCell ⟨(w.heap.size + 1), 0, none⟩ (.int .i64 M')).setCell ⟨(w.heap.size + 1), 1, none⟩ (.slice A' (n1 + 1) c')).setCell ⟨(w.heap.size + 1), 2, none⟩ (.int .i64 S)).setCell ⟨(w.heap.size + 1), 3, none⟩ (.slice A3 n3 c3)).setCell ⟨(w.heap.size + 1), 4, none⟩ (.int .i64 L)).setCell ⟨(w.heap.size + 1), 5, none⟩ (.int .i64 K)).setCell ⟨(w.heap.size + 1), 6, none⟩ (.int .i64 T)).heap[(w.heap.size + 1)]? = some (.cells #[.int .i64 M', .slice A' (n1 + 1) c', .int .i64 S, .slice A3 n3 c3, .int .i64 L, .int .i64 K, .int .i64 T, .int .i64 0] 25 (0, 0))) := B_r
      replace HOA := Lib.hid (HOA.out.setN (g := (w.heap.size + 1)) (j := 7) (u := .int .i64 E) (.inr (fun a e => (HN1.out a e).2)))
      have k_r_9 : ((((((((wa.setCell ⟨w.heap.size, 1, none⟩ (.slice A' (n1 + 1) c')).setCell ⟨(w.heap.size + 1), 0, none⟩ (.int .i64 M')).setCell ⟨(w.heap.size + 1), 1, none⟩ (.slice A' (n1 + 1) c')).setCell ⟨(w.heap.size + 1), 2, none⟩ (.int .i64 S)).setCell ⟨(w.heap.size + 1), 3, none⟩ (.slice A3 n3 c3)).setCell ⟨(w.heap.size + 1), 4, none⟩ (.int .i64 L)).setCell ⟨(w.heap.size + 1), 5, none⟩ (.int .i64 K)).setCell ⟨(w.heap.size + 1), 6, none⟩ (.int .i64 T)).cell? ⟨(w.heap.size + 1), 7, none⟩ = some (.int .i64 0) := box_cell B_r 7
      have y_r_9 : ((((((((wa.setCell ⟨w.heap.size, 1, none⟩ (.slice A' (n1 + 1) c')).setCell ⟨(w.heap.size + 1), 0, none⟩ (.int .i64 M')).setCell ⟨(w.heap.size + 1), 1, none⟩ (.slice A' (n1 + 1) c')).setCell ⟨(w.heap.size + 1), 2, none⟩ (.int .i64 S)).setCell ⟨(w.heap.size + 1), 3, none⟩ (.slice A3 n3 c3)).setCell ⟨(w.heap.size + 1), 4, none⟩ (.int .i64 L)).setCell ⟨(w.heap.size + 1), 5, none⟩ (.int .i64 K)).setCell ⟨(w.heap.size + 1), 6, none⟩ (.int .i64 T)).frozen? ⟨(w.heap.size + 1), 7, none⟩ = false := box_free B_r 7
      replace B_p := st_box (g' := (w.heap.size + 1)) (j := 7) B_p (.int .i64 E) (by omega)
      replace B_r := st_same B_r 7 (.int .i64 E)
      replace HG := Lib.hid (grR_set HG.out 7 (.int .i64 E) Z_r)
      replace B_r : Hid ((((((((((wa.setCell ⟨w.heap.size, 1, none⟩ (.slice A' (n1 + 1) c')).setCell ⟨(w.heap.size + 1), 0, none⟩ (.int .i64 M')).setCell ⟨(w.heap.size + 1), 1, none⟩ (.slice A' (n1 + 1) c')).setCell ⟨(w.heap.size + 1), 2, none⟩ (.int .i64 S)).setCell ⟨(w.heap.size + 1), 3, none⟩ (.slice A3 n3 c3)).setCell ⟨(w.heap.size + 1), 4, none⟩ (.int .i64 L)).setCell ⟨(w.heap.size + 1), 5, none⟩ (.int .i64 K)).setCell ⟨(w.heap.size + 1), 6, none⟩ (.int .i64 T)).setCell ⟨(w.heap.size + 1), 7, none⟩ (.int .i64 E)).heap[(w.heap.size + 1)]? = some (.cells #[.int .i64 M', .slice A' (n1 + 1) c', .int .i64 S, .slice A3 n3 c3, .int .i64 L, .int .i64 K, .int .i64 T, .int .i64 E] 25 (0, 0))) := B_r
      have c_r_0 : (((((((((wa.setCell ⟨w.heap.size, 1, none⟩ (.slice A' (n1 + 1) c')).setCell ⟨(w.heap.size + 1), 0, none⟩ (.int .i64 M')).setCell ⟨(w.heap.size + 1), 1, none⟩ (.slice A' (n1 + 1) c')).setCell ⟨(w.heap.size + 1), 2, none⟩ (.int .i64 S)).setCell ⟨(w.heap.size + 1), 3, none⟩ (.slice A3 n3 c3)).setCell ⟨(w.heap.size + 1), 4, none⟩ (.int .i64 L)).setCell ⟨(w.heap.size + 1), 5, none⟩ (.int .i64 K)).setCell ⟨(w.heap.size + 1), 6, none⟩ (.int .i64 T)).setCell ⟨(w.heap.size + 1), 7, none⟩ (.int .i64 E)).cell? ⟨(w.heap.size + 1), 0, none⟩ = some (.int .i64 M') := box_cell B_r 0
      have c_r_1 : (((((((((wa.setCell ⟨w.heap.size, 1, none⟩ (.slice A' (n1 + 1) c')).setCell ⟨(w.heap.size + 1), 0, none⟩ (.int .i64 M')).setCell ⟨(w.heap.size + 1), 1, none⟩ (.slice A' (n1 + 1) c')).setCell ⟨(w.heap.size + 1), 2, none⟩ (.int .i64 S)).setCell ⟨(w.heap.size + 1), 3, none⟩ (.slice A3 n3 c3)).setCell ⟨(w.heap.size + 1), 4, none⟩ (.int .i64 L)).setCell ⟨(w.heap.size + 1), 5, none⟩ (.int .i64 K)).setCell ⟨(w.heap.size + 1), 6, none⟩ (.int .i64 T)).setCell ⟨(w.heap.size + 1), 7, none⟩ (.int .i64 E)).cell? ⟨(w.heap.size + 1), 1, none⟩ = some (.slice A' (n1 + 1) c') := box_cell B_r 1
      have c_r_2 : (((((((((wa.setCell ⟨w.heap.size, 1, none⟩ (.slice A' (n1 + 1) c')).setCell ⟨(w.heap.size + 1), 0, none⟩ (.int .i64 M')).setCell ⟨(w.heap.size + 1), 1, none⟩ (.slice A' (n1 + 1) c')).setCell ⟨(w.heap.size + 1), 2, none⟩ (.int .i64 S)).setCell ⟨(w.heap.size + 1), 3, none⟩ (.slice A3 n3 c3)).setCell ⟨(w.heap.size + 1), 4, none⟩ (.int .i64 L)).setCell ⟨(w.heap.size + 1), 5, none⟩ (.int .i64 K)).setCell ⟨(w.heap.size + 1), 6, none⟩ (.int .i64 T)).setCell ⟨(w.heap.size + 1), 7, none⟩ (.int .i64 E)).cell? ⟨(w.heap.size + 1), 2, none⟩ = some (.int .i64 S) := box_cell B_r 2
      have c_r_3 : (((((((((wa.setCell ⟨w.heap.size, 1, none⟩ (.slice A' (n1 + 1) c')).setCell ⟨(w.heap.size + 1), 0, none⟩ (.int .i64 M')).setCell ⟨(w.heap.size + 1), 1, none⟩ (.slice A' (n1 + 1) c')).setCell ⟨(w.heap.size + 1), 2, none⟩ (.int .i64 S)).setCell ⟨(w.heap.size + 1), 3, none⟩ (.slice A3 n3 c3)).setCell ⟨(w.heap.size + 1), 4, none⟩ (.int .i64 L)).setCell ⟨(w.heap.size + 1), 5, none⟩ (.int .i64 K)).setCell ⟨(w.heap.size + 1), 6, none⟩ (.int .i64 T)).setCell ⟨(w.heap.size + 1), 7, none⟩ (.int .i64 E)).cell? ⟨(w.heap.size + 1), 3, none⟩ = some (.slice A3 n3 c3) := box_cell B_r 3
      have c_r_4 : (((((((((wa.setCell ⟨w.heap.size, 1, none⟩ (.slice A' (n1 + 1) c')).setCell ⟨(w.heap.size + 1), 0, none⟩ (.int .i64 M')).setCell ⟨(w.heap.size + 1), 1, none⟩ (.slice A' (n1 + 1) c')).setCell ⟨(w.heap.size + 1), 2, none⟩ (.int .i64 S)).setCell ⟨(w.heap.size + 1), 3, none⟩ (.slice A3 n3 c3)).setCell ⟨(w.heap.size + 1), 4, none⟩ (.int .i64 L)).setCell ⟨(w.heap.size + 1), 5, none⟩ (.int .i64 K)).setCell ⟨(w.heap.size + 1), 6, none⟩ (.int .i64 T)).setCell ⟨(w.heap.size + 1), 7, none⟩ (.int .i64 E)).cell? ⟨(w.heap.size + 1), 4, none⟩ = some (.int .i64 L) := box_cell B_r 4
      have c_r_5 : (((((((((wa.setCell ⟨w.heap.size, 1, none⟩ (.slice A' (n1 + 1) c')).setCell ⟨(w.heap.size + 1), 0, none⟩ (.int .i64 M')).setCell ⟨(w.heap.size + 1), 1, none⟩ (.slice A' (n1 + 1) c')).setCell ⟨(w.heap.size + 1), 2, none⟩ (.int .i64 S)).setCell ⟨(w.heap.size + 1), 3, none⟩ (.slice A3 n3 c3)).setCell ⟨(w.heap.size + 1), 4, none⟩ (.int .i64 L)).setCell ⟨(w.heap.size + 1), 5, none⟩ (.int .i64 K)).setCell ⟨(w.heap.size + 1), 6, none⟩ (.int .i64 T)).setCell ⟨(w.heap.size + 1), 7, none⟩ (.int .i64 E)).cell? ⟨(w.heap.size + 1), 5, none⟩ = some (.int .i64 K) := box_cell B_r 5
      have c_r_6 : (((((((((wa.setCell ⟨w.heap.size, 1, none⟩ (.slice A' (n1 + 1) c')).setCell ⟨(w.heap.size + 1), 0, none⟩ (.int .i64 M')).setCell ⟨(w.heap.size + 1), 1, none⟩ (.slice A' (n1 + 1) c')).setCell ⟨(w.heap.size + 1), 2, none⟩ (.int .i64 S)).setCell ⟨(w.heap.size + 1), 3, none⟩ (.slice A3 n3 c3)).setCell ⟨(w.heap.size + 1), 4, none⟩ (.int .i64 L)).setCell ⟨(w.heap.size + 1), 5, none⟩ (.int .i64 K)).setCell ⟨(w.heap.size + 1), 6, none⟩ (.int .i64 T)).setCell ⟨(w.heap.size + 1), 7, none⟩ (.int .i64 E)).cell? ⟨(w.heap.size + 1), 6, none⟩ = some (.int .i64 T) := box_cell B_r 6
      have c_r_7 : (((((((((wa.setCell ⟨w.heap.size, 1, none⟩ (.slice A' (n1 + 1) c')).setCell ⟨(w.heap.size + 1), 0, none⟩ (.int .i64 M')).setCell ⟨(w.heap.size + 1), 1, none⟩ (.slice A' (n1 + 1) c')).setCell ⟨(w.heap.size + 1), 2, none⟩ (.int .i64 S)).setCell ⟨(w.heap.size + 1), 3, none⟩ (.slice A3 n3 c3)).setCell ⟨(w.heap.size + 1), 4, none⟩ (.int .i64 L)).setCell ⟨(w.heap.size + 1), 5, none⟩ (.int .i64 K)).setCell ⟨(w.heap.size + 1), 6, none⟩ (.int .i64 T)).setCell ⟨(w.heap.size + 1), 7, none⟩ (.int .i64 E)).cell? ⟨(w.heap.size + 1), 7, none⟩ = some (.int .i64 E) := box_cell B_r 7
      have HAP2 : Hid (∀ b, A' = some b → (Value.slice A1 n1 c1).ownBlock = some b.block ∨ w.heap.size ≤ b.block) := fun b e => by rcases HAP.out b e with h | h; (· exact .inl h); (· right; simp at h; omega)
      go_wp2_with fail
      exact bodyPost_ret (v := .agg #[.int .i64 M', .slice A' (n1 + 1) c', .int .i64 S, .slice A3 n3 c3, .int .i64 L, .int .i64 K, .int .i64 T, .int .i64 E]) (by simp [results, Tryd.results42, go_sem, c_r_0, c_r_1, c_r_2, c_r_3, c_r_4, c_r_5, c_r_6, c_r_7]) rfl ⟨M', A', n1 + 1, c', G ++ [E], rfl, Nat.le_refl _, HOA.out, HAP2.out, HG.out⟩
end Go.Proofs.YthekihggedgofaaDoor
