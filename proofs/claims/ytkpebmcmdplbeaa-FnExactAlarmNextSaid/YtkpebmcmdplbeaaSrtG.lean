/- Plain laws of the library's insertion sort at numbers that stand in ascending order: what it leaves is in order, the first of equals first. No program is in sight. -/
import Derived.Test.YtkpebmcmdplbeaaLib
import Derived.Sort.Defs
namespace Go.Proofs.Ytkpebmcmdplbeaa

section
variable {α : Type} [Inhabited α]
theorem swapG_at {α : Type} (P T : List α) (p x : α) : ((P ++ p :: x :: T).set (P.length + 1) p).set P.length x = P ++ x :: p :: T := by
  simp
theorem atG_bang (d : Array α) (P T : List α) (x : α) (h : d.toList = P ++ x :: T) : d[P.length]! = x := by
  have h1 : d[P.length]? = some x := by rw [← Array.getElem?_toList, h]; simp
  rw [getElem!_def, h1]
theorem swpG_list (d : Array α) (P T : List α) (p x : α) (h : d.toList = P ++ p :: x :: T) : (Go.Sort.swp d (P.length + 1) P.length).toList = P ++ x :: p :: T := by
  have h1 : d[P.length]! = p := atG_bang d P (x :: T) p h
  have h2 : d[P.length + 1]! = x := by
    have := atG_bang d (P ++ [p]) T x (by rw [h]; simp)
    simpa using this
  unfold Go.Sort.swp
  rw [h1, h2, Array.toList_setIfInBounds, Array.toList_setIfInBounds, h]
  exact swapG_at P T p x
theorem insInnerG (lt : α → α → Bool) : ∀ (j : Nat) (d : Array α) (P T : List α) (x : α), P.length = j → d.toList = P ++ x :: T →
    ∃ P1 Q, P1 ++ Q = P ∧ (Go.Sort.insInner lt 0 j d).toList = P1 ++ x :: (Q ++ T) ∧ (∀ q ∈ Q, lt x q = true) ∧ (P1 = [] ∨ ∃ P' p, P1 = P' ++ [p] ∧ lt x p = false)
  | 0, d, P, T, x, hP, h => by
    have : P = [] := List.eq_nil_of_length_eq_zero hP
    subst this
    exact ⟨[], [], rfl, by simpa [Go.Sort.insInner] using h, by simp, .inl rfl⟩
  | j + 1, d, P, T, x, hP, h => by
    obtain ⟨P', p, rfl⟩ : ∃ P' p, P = P' ++ [p] := ⟨P.dropLast, P.getLast (by intro e; subst e; simp at hP), (List.dropLast_concat_getLast _).symm⟩
    have hj : P'.length = j := by simpa using hP
    have h1 : d[j]! = p := by have := atG_bang d P' (x :: T) p (by rw [h]; simp); rwa [hj] at this
    have h2 : d[j + 1]! = x := by have := atG_bang d (P' ++ [p]) T x (by rw [h]); rwa [hP] at this
    rw [Go.Sort.insInner, h1, h2]
    cases hl : lt x p with
    | false =>
      simp only [Bool.and_false, Bool.false_eq_true, if_false]
      exact ⟨P' ++ [p], [], by simp, by rw [h]; simp, by simp, .inr ⟨P', p, rfl, hl⟩⟩
    | true =>
      rw [if_pos (by simp)]
      have hs : (Go.Sort.swp d (j + 1) j).toList = P' ++ x :: (p :: T) := by
        have := swpG_list d P' T p x (by rw [h]; simp)
        rwa [hj] at this
      obtain ⟨P1, Q, e1, e2, e3, e4⟩ := insInnerG lt j _ P' (p :: T) x hj hs
      refine ⟨P1, Q ++ [p], by rw [← List.append_assoc, e1], by rw [e2]; simp, ?_, e4⟩
      intro q hq
      rcases List.mem_append.1 hq with hq | hq
      · exact e3 q hq
      · simp only [List.mem_singleton] at hq; subst hq; exact hl

end
/-- x has been put in behind P and ahead of Q -/
theorem insG {α : Type} {R : α → α → Prop} (ht : ∀ i j k, R i j → R j k → R i k) {P Q : List α} {x : α} (hpq : (P ++ Q).Pairwise R) (hx : ∀ q ∈ Q, R x q) (hlast : P = [] ∨ ∃ P' p, P = P' ++ [p] ∧ R p x) : (P ++ x :: Q).Pairwise R := by
  rw [List.pairwise_append] at hpq ⊢
  refine ⟨hpq.1, List.pairwise_cons.2 ⟨hx, hpq.2.1⟩, fun p hp' y hy => ?_⟩
  rcases List.mem_cons.1 hy with rfl | hy
  · rcases hlast with rfl | ⟨P', p0, rfl, h1⟩
    · simp at hp'
    · rcases List.mem_append.1 hp' with hp' | hp'
      · exact ht _ _ _ ((List.pairwise_append.1 hpq.1).2.2 p hp' p0 (by simp)) h1
      · simp only [List.mem_singleton] at hp'; subst hp'; exact h1
  · exact hpq.2.2 p hp' y hy

/-- the order that a sort which keeps equals in their order leaves: less, or not greater and ahead in the list before -/
def Fo {α : Type} (lt : α → α → Bool) (ah : α → α → Prop) (x y : α) : Prop := lt x y = true ∨ (lt y x = false ∧ ah x y)
section
variable {α : Type} [Inhabited α]
theorem outerG (lt : α → α → Bool) (ah : α → α → Prop) (ht : ∀ i j k, Fo lt ah i j → Fo lt ah j k → Fo lt ah i k) (L : List α) (hL : L.Pairwise ah) : ∀ (m i : Nat) (d : Array α) (S : List α), L.length - i = m → i ≤ L.length → S.length = i → d.toList = S ++ L.drop i → S.Pairwise (Fo lt ah) → (∀ k, k ∈ S ↔ k ∈ L.take i) →
    (Go.Sort.insOuter lt 0 L.length i d).toList.length = L.length ∧ (Go.Sort.insOuter lt 0 L.length i d).toList.Pairwise (Fo lt ah) ∧ ∀ k, k ∈ (Go.Sort.insOuter lt 0 L.length i d).toList ↔ k ∈ L
  | 0, i, d, S, hm, hi, hl, hd, hp, hk => by
    have hin : i = L.length := by omega
    subst hin
    rw [Go.Sort.insOuter, if_neg (by omega), hd, List.drop_length, List.append_nil]
    rw [List.take_length] at hk
    exact ⟨hl, hp, hk⟩
  | m + 1, i, d, S, hm, hi, hl, hd, hp, hk => by
    have hlt : i < L.length := by omega
    rw [Go.Sort.insOuter, if_pos hlt]
    rw [List.drop_eq_getElem_cons hlt] at hd
    obtain ⟨P1, Q, e1, e2, e3, e4⟩ := insInnerG lt i d S (L.drop (i + 1)) L[i] hl hd
    have hah : ∀ p ∈ S, ah p L[i] := by
      intro p hp'
      rw [hk] at hp'
      have h2 := hL
      rw [← List.take_append_drop i L, List.pairwise_append] at h2
      exact h2.2.2 p hp' _ (by rw [List.drop_eq_getElem_cons hlt]; exact List.mem_cons.2 (.inl rfl))
    refine outerG lt ah ht L hL m (i + 1) _ (P1 ++ L[i] :: Q) (by omega) (by omega) ?_ (by rw [e2]; simp) ?_ ?_
    · have := congrArg List.length e1
      simp at this ⊢; omega
    · refine insG ht (by rw [e1]; exact hp) (fun q hq => .inl (e3 q hq)) ?_
      rcases e4 with rfl | ⟨P', p, rfl, h⟩
      · exact .inl rfl
      · exact .inr ⟨P', p, rfl, .inr ⟨h, hah p (by rw [← e1]; simp)⟩⟩
    · intro k
      have h1 := hk k
      rw [← e1, List.mem_append] at h1
      rw [List.mem_append, List.mem_cons, List.take_succ_eq_append_getElem hlt, List.mem_append, List.mem_singleton, ← h1]
      constructor
      · rintro (h | h | h)
        · exact .inl (.inl h)
        · exact .inr h
        · exact .inl (.inr h)
      · rintro ((h | h) | h)
        · exact .inl h
        · exact .inr (.inr h)
        · exact .inr (.inl h)
theorem sortG (lt : α → α → Bool) (ah : α → α → Prop) (ht : ∀ i j k, Fo lt ah i j → Fo lt ah j k → Fo lt ah i k) (d : Array α) (hL : d.toList.Pairwise ah) :
    (Go.Sort.insertionSort lt d 0 d.size).toList.length = d.size ∧ (Go.Sort.insertionSort lt d 0 d.size).toList.Pairwise (Fo lt ah) ∧ ∀ k, k ∈ (Go.Sort.insertionSort lt d 0 d.size).toList ↔ k ∈ d.toList := by
  cases h : d.toList with
  | nil =>
    have hs : d.size = 0 := by have := congrArg List.length h; simpa using this
    rw [Go.Sort.insertionSort, hs, Go.Sort.insOuter, if_neg (by omega), h]
    exact ⟨rfl, List.Pairwise.nil, fun k => Iff.rfl⟩
  | cons x L =>
    have hs : d.size = d.toList.length := by simp
    have := outerG lt ah ht d.toList hL (d.toList.length - 1) 1 d [x] rfl (by rw [h]; simp) rfl (by rw [h]; rfl) (by simp) (by rw [h]; simp)
    rw [Go.Sort.insertionSort, hs, ← h]
    exact this
end
end Go.Proofs.Ytkpebmcmdplbeaa
