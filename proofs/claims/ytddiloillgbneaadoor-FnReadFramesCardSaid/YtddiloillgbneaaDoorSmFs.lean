/- The contract of the laws' sameFrames. No statement is proved here. -/
import Derived.Test.YtddiloillgbneaaDoorFrLr
import Derived.Test.YtddiloillgbneaaDoorSmF
import Derived.StillTailTactics
namespace Go.Proofs.YtddiloillgbneaaDoor
open Go.RowKit

theorem vals_at {rs ss : List FR} (h : vals rs = vals ss) (k : Nat) : (rs.getD k FR.zero).val = (ss.getD k FR.zero).val := by
  have h2 : (vals rs)[k]? = (vals ss)[k]? := by rw [h]
  simp only [vals, List.getElem?_map] at h2
  rw [List.getD_eq_getElem?_getD, List.getD_eq_getElem?_getD]
  cases h3 : rs[k]? <;> cases h4 : ss[k]? <;> simp_all
theorem len_at {rs : List FR} (h : ∀ r ∈ rs, r.l.length ≤ 12) (k : Nat) : (rs.getD k FR.zero).l.length ≤ 12 := by
  rcases Nat.lt_or_ge k rs.length with hk | hk
  · rw [List.getD_eq_getElem?_getD, List.getElem?_eq_getElem hk]
    exact h _ (List.getElem_mem hk)
  · rw [List.getD_eq_getElem?_getD, List.getElem?_eq_none hk]; simp [FR.zero]
set_option maxHeartbeats 800000 in
theorem sameFrS (A B : Option Addr) (rs ss : List FR) (n c d : Nat) (w : World) (hn : rs.length = n) (hn2 : ss.length = n) (hv : vals rs = vals ss) (hm : n ≤ 1048576) (hl : ∀ r ∈ rs, r.l.length ≤ 12) (hA : RdF w A rs) (hB : RdF w B ss) :
    Calls Tryd.prog 22 #[.slice A n c, .slice B n d] w fun e w' => e = .returned (.bool true) ∧ Below w.heap.size w w' := by
  have HA := Lib.hid hA; clear hA
  have HB := Lib.hid hB; clear hB
  have HN := Lib.hid hn; clear hn
  have HN2 := Lib.hid hn2; clear hn2
  have HV := Lib.hid hv; clear hv
  have HL := Lib.hid hl; clear hl
  have hne : ((n : Int) != (n : Int)) = false := by simp
  go_enter Tryd.func22, Tryd.ntmps22
  go_wp2_with fail
  go_loopw [5] (fun i wr => ∃ k : Nat, k ≤ n ∧ i = .int .i64 k ∧ Below w.heap.size w wr) (fun i _ => n - (intOf i).toNat)
  case atStart => exact ⟨0, by omega, rfl, Below.refl _ _⟩
  case round =>
    obtain ⟨k, hk, rfl, hb⟩ := hrel
    by_cases hlt : k < n
    · obtain ⟨b, o, rfl, hbl, hc0, hc1, HRa⟩ := HA.out.at (k := k) (by have := HN.out; omega)
      obtain ⟨b2, o2, rfl, hbl2, he0, he1, HRb⟩ := HB.out.at (k := k) (by have := HN2.out; omega)
      have hval := vals_at HV.out k
      have hlen := len_at HL.out k
      generalize rs.getD k FR.zero = r at *
      generalize ss.getD k FR.zero = q at *
      obtain ⟨a, RA, rc, l⟩ := r
      obtain ⟨a2, QA, qc, l2⟩ := q
      simp only [FR.val, Prod.mk.injEq] at hval
      obtain ⟨rfl, rfl⟩ := hval
      dsimp only at hc0 hc1 he0 he1 HRa HRb hlen
      have hd0 := (hb.cell (p := ⟨b, o + k * 2, none⟩) hbl).trans hc0; clear hc0
      have hd1 := (hb.cell (p := ⟨b, o + k * 2 + 1, none⟩) hbl).trans hc1; clear hc1
      have hg0 := (hb.cell (p := ⟨b2, o2 + k * 2, none⟩) hbl2).trans he0; clear he0
      have hg1 := (hb.cell (p := ⟨b2, o2 + k * 2 + 1, none⟩) hbl2).trans he1; clear he1
      go_wp2_with fail
      go_still_tail 8, (by kernel_rfl)
      change wpList _ _ _ _ _ wr.drew
      clear hd0 hg0 hd1 hg1
      have hb' := hb.drew
      clear hb
      generalize wr.drew = w2 at *
      go_wp2_with fail
      refine (sameFr a RA QA l.length rc qc l w2 rfl (by omega) (HRa.out.below hb') (HRb.out.below hb')).mono ?_
      rintro e w3 ⟨rfl, hb3⟩
      have hb4 := hb'.trans (hb3.mono hb'.size)
      clear hb' hb3
      go_wp2_with fail
      go_roundw
      case rel => exact ⟨k + 1, by omega, by go_num, hb4⟩
      case measure => simp [intOf]; omega
    · go_wp2_with fail
      go_ret
      exact ⟨rfl, hb⟩
theorem rdFs_small {xs : List Int} {n : Nat} (hn : xs.length = n) {rs : List FR} (h : vals rs = (rdFs xs).1) : (∀ r ∈ rs, r.l.length ≤ 12) ∧ totF rs ≤ n ∧ rs.length ≤ n := by
  obtain ⟨h1, h2⟩ := rdFs_all xs
  rw [← h] at h1 h2
  have h3 : ∀ r ∈ rs, frmB r.a r.l = true := fun r hr => h1 r.val (List.mem_map.2 ⟨r, hr, rfl⟩)
  have h4 : totF rs ≤ (catB (vals rs)).length ∧ rs.length ≤ (catB (vals rs)).length := by
    clear h h1 h2
    induction rs with
    | nil => simp [totF]
    | cons r rs ih =>
      have := ih (fun x hx => h3 x (List.mem_cons_of_mem _ hx))
      have h5 := (frmB_facts (h3 r (by simp))).2.2.2.2
      simp only [totF, vals, List.map_cons, catB, List.flatMap_cons, List.length_append, FR.val, h5, frmOut_len, List.length_cons] at this ⊢
      omega
  exact ⟨fun r hr => (frmB_facts (h3 r hr)).2.2.1, by omega, by omega⟩
end Go.Proofs.YtddiloillgbneaaDoor
