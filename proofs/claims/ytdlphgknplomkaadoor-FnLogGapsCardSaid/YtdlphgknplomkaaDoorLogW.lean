/- Plain laws of the gaps of a log and of putting a missing number. No program, and no statement, is proved here. -/
import Derived.Test.YtdlphgknplomkaaDoorLogG
import Derived.Test.YtdlphgknplomkaaDoorLogP
namespace Go.Proofs.YtdlphgknplomkaaDoor
open Go.RowKit

theorem mem_eAt {l : List Entry} {x : Entry} (h : x ∈ l) : ∃ j, j < l.length ∧ eAt l j = x := by
  obtain ⟨j, hj, rfl⟩ := List.getElem_of_mem h
  exact ⟨j, hj, eAt_get hj⟩
theorem eAt_mem {l : List Entry} {j : Nat} (h : j < l.length) : eAt l j ∈ l := by rw [eAt_get h]; exact List.getElem_mem h
/-- a number that no entry of the station has -/
theorem find_neg (l : List Entry) (who num : Int) : decide (findI l who num < 0) = true ↔ ∀ x ∈ l, sameB x who num = false := by
  rw [hasTo_find, Bool.not_eq_true', hasTo, List.any_eq_false]
  constructor
  · intro h x hx
    obtain ⟨j, hj, rfl⟩ := mem_eAt hx
    simpa using h j (by simpa using hj)
  · intro h j hj
    rw [List.mem_range] at hj
    rw [h _ (eAt_mem hj)]; decide
theorem most_ge (l : List Entry) (who : Int) : ∀ k j, j < k → (eAt l j).fWho = who → (eAt l j).fNumber ≤ mostTo l who k
  | 0, j, hj, _ => absurd hj (by omega)
  | k + 1, j, hj, hw => by
    rw [mostTo]
    by_cases e : j = k
    · subst e; rw [if_pos (by simpa using hw)]; split <;> omega
    · have := most_ge l who k j (by omega) hw
      split
      · split <;> omega
      · exact this
theorem most_hit (l : List Entry) (who : Int) : ∀ k, mostTo l who k = 0 ∨ ∃ j, j < k ∧ (eAt l j).fWho = who ∧ (eAt l j).fNumber = mostTo l who k
  | 0 => .inl rfl
  | k + 1 => by
    have ih : mostTo l who k = 0 ∨ ∃ j, j < k + 1 ∧ (eAt l j).fWho = who ∧ (eAt l j).fNumber = mostTo l who k := by
      rcases most_hit l who k with h | ⟨j, hj, h⟩
      · exact .inl h
      · exact .inr ⟨j, by omega, h⟩
    rw [mostTo]
    split
    · next h1 =>
      split
      · exact .inr ⟨k, by omega, by simpa using h1, rfl⟩
      · exact ih
    · exact ih
/-- the greatest number of a station -/
def most (l : List Entry) (who : Int) : Int := mostTo l who l.length
theorem most_le {l : List Entry} {who : Int} {x : Entry} (h : x ∈ l) (hw : x.fWho = who) : x.fNumber ≤ most l who := by
  obtain ⟨j, hj, rfl⟩ := mem_eAt h
  exact most_ge l who _ j hj hw
theorem most_in (l : List Entry) (who : Int) : most l who = 0 ∨ ∃ x ∈ l, x.fWho = who ∧ x.fNumber = most l who := by
  rcases most_hit l who l.length with h | ⟨j, hj, h⟩
  · exact .inl h
  · exact .inr ⟨_, eAt_mem hj, h⟩
theorem gaps_def {l : List Entry} (h : logB l = true) (who : Int) : gaps l who = gapsTo l who ((most l who).toNat - 1) := by rw [gaps, h]; rfl
theorem mem_gaps {l : List Entry} (h : logB l = true) {who g : Int} (hg : g ∈ gaps l who) : 1 ≤ g ∧ g + 1 ≤ most l who ∧ ∀ x ∈ l, sameB x who g = false := by
  rw [gaps_def h, gapsTo, List.mem_filter, List.mem_map] at hg
  obtain ⟨⟨j, hj, rfl⟩, hf⟩ := hg
  rw [List.mem_range] at hj
  exact ⟨by omega, by omega, (find_neg _ _ _).1 hf⟩
theorem gaps_asc (l : List Entry) (who : Int) : (gaps l who).Pairwise (· < ·) := by
  unfold gaps; split
  · unfold gapsTo
    refine List.Pairwise.filter _ ?_
    rw [List.pairwise_map]
    exact List.pairwise_lt_range.imp (by intro a b h; omega)
  · exact List.Pairwise.nil
theorem insE_perm (l : List Entry) (e : Entry) : (insE l e).Perm (e :: l) := by
  have h := List.takeWhile_append_dropWhile (p := fun x => lessB x e) (l := l)
  unfold insE
  refine List.perm_middle.trans ?_
  rw [h]
/-- what the law asks of the number that is put -/
theorem gap_put {l : List Entry} {who g : Int} (h : logB l = true) (hl : l.length < 16) (hg : g ∈ gaps l who) :
    putV l ⟨5, who, g, 1⟩ = (insE l ⟨5, who, g, 1⟩, true) ∧ gaps (insE l ⟨5, who, g, 1⟩) who = (gaps l who).erase g := by
  obtain ⟨h1, h2, h3⟩ := mem_gaps h hg
  have hp := (logB_pw l).1 h
  obtain ⟨x0, hx0, hw0, hn0⟩ : ∃ x ∈ l, x.fWho = who ∧ x.fNumber = most l who := by
    rcases most_in l who with e | e
    · omega
    · exact e
  have hok := hp.1 x0 hx0
  have hwho : inB who 0 9 = true := by
    unfold okE at hok; simp only [Bool.and_eq_true] at hok; rw [← hw0]; exact hok.1.1.2
  have hnum := okE_num hok
  rw [hn0] at hnum
  have hne : (⟨5, who, g, 1⟩ : Entry) ∉ l := fun hm => by
    have := h3 _ hm; simp [sameB] at this
  have hmemI : ∀ x, x ∈ insE l ⟨5, who, g, 1⟩ ↔ x = ⟨5, who, g, 1⟩ ∨ x ∈ l := fun x => by rw [(insE_perm l _).mem_iff, List.mem_cons]
  have hv : logB (insE l ⟨5, who, g, 1⟩) = true := by
    rw [logB_pw]
    refine ⟨fun x hx => ?_, ?_, ?_, by rw [insE_length]; omega⟩
    · rcases (hmemI x).1 hx with rfl | hx
      · have : inB g 1 99 = true := by rw [inB_iff]; omega
        simp only [okE, Bool.and_eq_true]
        exact ⟨⟨⟨by decide, hwho⟩, this⟩, by decide⟩
      · exact hp.1 x hx
    · refine insE_asc hp.2.1 (fun x hx => .inr ?_) hne
      have hs := h3 x hx
      rw [lessB_iff, lessB_iff]
      have hs' : ¬ (x.fWho = who ∧ x.fNumber = g) := by rw [← sameB_iff, hs]; decide
      dsimp only
      omega
    · refine ((insE_perm l ⟨5, who, g, 1⟩).pairwise_iff ?_).2 (List.pairwise_cons.2 ⟨fun x hx => ?_, hp.2.2.1⟩)
      · intro a b hab
        rw [← Bool.not_eq_true, sameB_iff] at hab ⊢
        omega
      · have hs := h3 x hx
        rw [← Bool.not_eq_true, sameB_iff] at hs ⊢
        dsimp only
        omega
  refine ⟨put_ins h hne hv, ?_⟩
  have hmost : most (insE l ⟨5, who, g, 1⟩) who = most l who := by
    have hle : most l who ≤ most (insE l ⟨5, who, g, 1⟩) who := by
      rw [← hn0]; exact most_le ((hmemI x0).2 (.inr hx0)) hw0
    rcases most_in (insE l ⟨5, who, g, 1⟩) who with e | ⟨x, hx, hxw, hxn⟩
    · omega
    · rcases (hmemI x).1 hx with rfl | hx
      · dsimp only at hxn; omega
      · have := most_le hx hxw; omega
  have hnd : (gaps l who).Nodup := (gaps_asc l who).imp (by intro a b h; omega)
  rw [hnd.erase_eq_filter, gaps_def hv, gaps_def h, hmost, gapsTo, gapsTo, List.filter_filter]
  refine List.filter_congr fun n _ => ?_
  rw [Bool.eq_iff_iff, find_neg, Bool.and_eq_true, find_neg]
  constructor
  · intro hh
    refine ⟨?_, fun x hx => hh x ((hmemI x).2 (.inr hx))⟩
    have := hh _ ((hmemI _).2 (.inl rfl))
    simp only [sameB, beq_self_eq_true, Bool.true_and, beq_eq_false_iff_ne, ne_eq] at this
    simp only [bne_iff_ne, ne_eq]
    exact fun e => this e.symm
  · rintro ⟨hh, hl'⟩ x hx
    rcases (hmemI x).1 hx with rfl | hx
    · simp only [bne_iff_ne, ne_eq] at hh
      simp only [sameB, beq_self_eq_true, Bool.true_and, beq_eq_false_iff_ne, ne_eq]
      exact fun e => hh e.symm
    · exact hl' x hx
/-- then the number is missing no more, and all others are as before -/
theorem gap_gone {l : List Entry} {who g : Int} (hg : g ∈ gaps l who) : ((gaps l who).erase g).any (fun y => y == g) = false ∧ ((gaps l who).erase g).length = (gaps l who).length - 1 := by
  have hnd : (gaps l who).Nodup := (gaps_asc l who).imp (by intro a b h; omega)
  refine ⟨?_, List.length_erase_of_mem hg⟩
  rw [List.any_eq_false]
  intro y hy
  rw [hnd.erase_eq_filter, List.mem_filter] at hy
  simpa using hy.2
theorem gaps_pos {l : List Entry} {who : Int} {k : Nat} (hk : k < (gaps l who).length) : logB l = true := by
  cases h : logB l with
  | true => rfl
  | false => rw [gaps, h] at hk; simp at hk
end Go.Proofs.YtdlphgknplomkaaDoor
