/- Plain laws of the library's insertion sort: the indices of orders by their prices, the first of equals first. No program is in sight. -/
import Derived.Test.YtlhfkidgmdojjaaDoorIns
import Derived.Sort.Defs
namespace Go.Proofs.YtlhfkidgmdojjaaDoor

section
variable {α : Type} [Inhabited α]
theorem at_bang (d : Array α) (P T : List α) (x : α) (h : d.toList = P ++ x :: T) : d[P.length]! = x := by
  have h1 : d[P.length]? = some x := by rw [← Array.getElem?_toList, h]; simp
  rw [getElem!_def, h1]
theorem swp_list (d : Array α) (P T : List α) (p x : α) (h : d.toList = P ++ p :: x :: T) : (Go.Sort.swp d (P.length + 1) P.length).toList = P ++ x :: p :: T := by
  have h1 : d[P.length]! = p := at_bang d P (x :: T) p h
  have h2 : d[P.length + 1]! = x := by
    have := at_bang d (P ++ [p]) T x (by rw [h]; simp)
    simpa using this
  unfold Go.Sort.swp
  rw [h1, h2, Array.toList_setIfInBounds, Array.toList_setIfInBounds, h]
  exact swap_at P T p x
theorem insInner_list (lt : α → α → Bool) : ∀ (j : Nat) (d : Array α) (P T : List α) (x : α), P.length = j → d.toList = P ++ x :: T →
    ∃ P1 Q, P1 ++ Q = P ∧ (Go.Sort.insInner lt 0 j d).toList = P1 ++ x :: (Q ++ T) ∧ (∀ q ∈ Q, lt x q = true) ∧ (P1 = [] ∨ ∃ P' p, P1 = P' ++ [p] ∧ lt x p = false)
  | 0, d, P, T, x, hP, h => by
    have : P = [] := List.eq_nil_of_length_eq_zero hP
    subst this
    exact ⟨[], [], rfl, by simpa [Go.Sort.insInner] using h, by simp, .inl rfl⟩
  | j + 1, d, P, T, x, hP, h => by
    obtain ⟨P', p, rfl⟩ : ∃ P' p, P = P' ++ [p] := ⟨P.dropLast, P.getLast (by intro e; subst e; simp at hP), (List.dropLast_concat_getLast _).symm⟩
    have hj : P'.length = j := by simpa using hP
    have h1 : d[j]! = p := by have := at_bang d P' (x :: T) p (by rw [h]; simp); rwa [hj] at this
    have h2 : d[j + 1]! = x := by have := at_bang d (P' ++ [p]) T x (by rw [h]); rwa [hP] at this
    rw [Go.Sort.insInner, h1, h2]
    cases hl : lt x p with
    | false =>
      simp only [Bool.and_false, Bool.false_eq_true, if_false]
      exact ⟨P' ++ [p], [], by simp, by rw [h]; simp, by simp, .inr ⟨P', p, rfl, hl⟩⟩
    | true =>
      rw [if_pos (by simp)]
      have hs : (Go.Sort.swp d (j + 1) j).toList = P' ++ x :: (p :: T) := by
        have := swp_list d P' T p x (by rw [h]; simp)
        rwa [hj] at this
      obtain ⟨P1, Q, e1, e2, e3, e4⟩ := insInner_list lt j _ P' (p :: T) x hj hs
      refine ⟨P1, Q ++ [p], by rw [← List.append_assoc, e1], by rw [e2]; simp, ?_, e4⟩
      intro q hq
      rcases List.mem_append.1 hq with hq | hq
      · exact e3 q hq
      · simp only [List.mem_singleton] at hq; subst hq; exact hl
end

/-- the indices from i on -/
def from_ (n i : Nat) : List (Fin n) := (List.finRange n).drop i
theorem from_cons (n i : Nat) (h : i < n) : from_ n i = ⟨i, h⟩ :: from_ n (i + 1) := by
  unfold from_
  rw [List.drop_eq_getElem_cons (by simpa using h)]
  simp
/-- the first i indices, in order -/
def Part (l : List Order) (b : Bool) (n i : Nat) (S : List (Fin n)) : Prop := (S.map Fin.val).Pairwise (Rk l b) ∧ ∀ k, k ∈ S.map Fin.val ↔ k < i
theorem outer_list (l : List Order) (b : Bool) (n : Nat) [Inhabited (Fin n)] : ∀ (m i : Nat) (d : Array (Fin n)) (S : List (Fin n)), n - i = m → i ≤ n → S.length = i → d.toList = S ++ from_ n i → Part l b n i S →
    ∃ S', (Go.Sort.insOuter (fun x y : Fin n => oBetter l b x.val y.val) 0 n i d).toList = S' ∧ S'.length = n ∧ Part l b n n S'
  | 0, i, d, S, hm, hi, hl, hd, hp => by
    have hin : i = n := by omega
    subst hin
    rw [Go.Sort.insOuter, if_neg (by omega)]
    refine ⟨_, rfl, ?_, ?_⟩
    · rw [hd]; simp [from_, hl]
    · have : from_ i i = [] := by simp [from_]
      rw [hd, this, List.append_nil]; exact hp
  | m + 1, i, d, S, hm, hi, hl, hd, hp => by
    have hlt : i < n := by omega
    rw [Go.Sort.insOuter, if_pos hlt]
    rw [from_cons n i hlt] at hd
    obtain ⟨P1, Q, e1, e2, e3, e4⟩ := insInner_list (fun x y : Fin n => oBetter l b x.val y.val) i d S (from_ n (i + 1)) ⟨i, hlt⟩ hl hd
    refine outer_list l b n m (i + 1) _ (P1 ++ ⟨i, hlt⟩ :: Q) (by omega) (by omega) ?_ (by rw [e2]; simp) ?_
    · have := congrArg List.length e1
      simp at this ⊢; omega
    · refine ⟨?_, fun k => ?_⟩
      · rw [List.map_append, List.map_cons]
        refine ins_done (by rw [← List.map_append, e1]; exact hp.1) ?_ ?_ ?_
        · intro q hq
          obtain ⟨q', hq', rfl⟩ := List.mem_map.1 hq
          exact e3 q' hq'
        · intro p hpp
          have : p ∈ S.map Fin.val := by rw [← e1, List.map_append]; exact List.mem_append_left _ hpp
          exact (hp.2 p).1 this
        · rcases e4 with rfl | ⟨P', p, rfl, h⟩
          · exact .inl rfl
          · exact .inr ⟨P'.map Fin.val, p.val, by simp, h⟩
      · have hk := hp.2 k
        rw [← e1, List.map_append, List.mem_append] at hk
        rw [List.map_append, List.map_cons, List.mem_append, List.mem_cons]
        constructor
        · rintro (h | h | h)
          · have := hk.1 (.inl h); omega
          · simp at h; omega
          · have := hk.1 (.inr h); omega
        · intro h
          rcases Nat.lt_or_ge k i with h' | h'
          · rcases hk.2 h' with h | h
            · exact .inl h
            · exact .inr (.inr h)
          · exact .inr (.inl (by simp; omega))
/-- what the sort leaves: all indices, in order -/
theorem sort_list (l : List Order) (b : Bool) (n : Nat) [Inhabited (Fin n)] (hn : 0 < n) (d : Array (Fin n)) (hd : d.toList = List.finRange n) :
    ∃ ys : List Nat, ((Go.Sort.insertionSort (fun x y : Fin n => oBetter l b x.val y.val) d 0 n).toList.map Fin.val) = ys ∧ ys.length = n ∧ ys.Pairwise (Rk l b) ∧ ∀ k, k ∈ ys ↔ k < n := by
  have h0 : d.toList = [⟨0, hn⟩] ++ from_ n 1 := by
    rw [hd]
    have := from_cons n 0 hn
    simpa [from_] using this
  obtain ⟨S', e1, e2, e3⟩ := outer_list l b n (n - 1) 1 d [⟨0, hn⟩] rfl (by omega) rfl h0 ⟨by simp, fun k => by simp⟩
  exact ⟨_, rfl, by rw [Go.Sort.insertionSort, e1]; simpa using e2, by rw [Go.Sort.insertionSort, e1]; exact e3.1, by rw [Go.Sort.insertionSort, e1]; exact e3.2⟩
end Go.Proofs.YtlhfkidgmdojjaaDoor
