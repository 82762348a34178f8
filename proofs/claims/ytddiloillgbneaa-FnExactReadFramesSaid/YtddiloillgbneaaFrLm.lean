/- Contracts of the laws' small functions on lists of frames: comparing, marking. No statement is proved here. -/
import Derived.Test.YtddiloillgbneaaFrLr
import Derived.Test.YtddiloillgbneaaFrmD
import Derived.StillTailTactics
namespace Go.Proofs.Ytddiloillgbneaa
open Go.RowKit

theorem vals_at {rs ss : List FR} (h : vals rs = vals ss) (k : Nat) : (rs.getD k FR.zero).val = (ss.getD k FR.zero).val := by
  have h2 : (vals rs)[k]? = (vals ss)[k]? := by rw [h]
  simp only [vals, List.getElem?_map] at h2
  rw [List.getD_eq_getElem?_getD, List.getD_eq_getElem?_getD]
  cases h3 : rs[k]? <;> cases h4 : ss[k]? <;> simp_all
theorem len_at {rs : List FR} (h : ∀ r ∈ rs, r.l.length ≤ 12) (k : Nat) : (rs.getD k FR.zero).l.length ≤ 12 := by
  rcases Nat.lt_or_ge k rs.length with hk | hk
  · rw [List.getD_eq_getElem?_getD, List.getElem?_eq_getElem hk]
    exact h _ (List.getElem_mem hk)
  · rw [List.getD_eq_getElem?_getD, List.getElem?_eq_none hk]; simp [FR.zero]
set_option maxHeartbeats 800000 in
theorem eqFrS (A B : Option Addr) (rs ss : List FR) (n c d : Nat) (w : World) (hn : rs.length = n) (hn2 : ss.length = n) (hv : vals rs = vals ss) (hm : n ≤ 1048576) (hl : ∀ r ∈ rs, r.l.length ≤ 12) (hA : RdF w A rs) (hB : RdF w B ss) :
    Calls Try.prog 7 #[.slice A n c, .slice B n d] w fun e w' => e = .returned (.bool true) ∧ Below w.heap.size w w' := by
  have HA := Lib.hid hA; clear hA
  have HB := Lib.hid hB; clear hB
  have HN := Lib.hid hn; clear hn
  have HN2 := Lib.hid hn2; clear hn2
  have HV := Lib.hid hv; clear hv
  have HL := Lib.hid hl; clear hl
  have hne : ((n : Int) != (n : Int)) = false := by simp
  go_enter Try.func7, Try.ntmps7
  go_wp2_with fail
  go_loopw [5] (fun i wr => ∃ k : Nat, k ≤ n ∧ i = .int .i64 k ∧ Below w.heap.size w wr) (fun i _ => n - (intOf i).toNat)
  case atStart => exact ⟨0, by omega, rfl, Below.refl _ _⟩
  case round =>
    obtain ⟨k, hk, rfl, hb⟩ := hrel
    by_cases hlt : k < n
    · obtain ⟨b, o, rfl, hbl, hc0, hc1, HRa⟩ := HA.out.at (k := k) (by have := HN.out; omega)
      obtain ⟨b2, o2, rfl, hbl2, he0, he1, HRb⟩ := HB.out.at (k := k) (by have := HN2.out; omega)
      have hval := vals_at HV.out k
      have hlen := len_at HL.out k
      generalize rs.getD k FR.zero = r at *
      generalize ss.getD k FR.zero = q at *
      obtain ⟨a, RA, rc, l⟩ := r
      obtain ⟨a2, QA, qc, l2⟩ := q
      simp only [FR.val, Prod.mk.injEq] at hval
      obtain ⟨rfl, rfl⟩ := hval
      dsimp only at hc0 hc1 he0 he1 HRa HRb hlen
      have hd0 := (hb.cell (p := ⟨b, o + k * 2, none⟩) hbl).trans hc0; clear hc0
      have hd1 := (hb.cell (p := ⟨b, o + k * 2 + 1, none⟩) hbl).trans hc1; clear hc1
      have hg0 := (hb.cell (p := ⟨b2, o2 + k * 2, none⟩) hbl2).trans he0; clear he0
      have hg1 := (hb.cell (p := ⟨b2, o2 + k * 2 + 1, none⟩) hbl2).trans he1; clear he1
      go_wp2_with fail
      go_still_tail 8, (by kernel_rfl)
      change wpList _ _ _ _ _ wr.drew
      clear hd0 hg0 hd1 hg1
      have hb' := hb.drew
      clear hb
      generalize wr.drew = w2 at *
      go_wp2_with fail
      refine (eqFr a RA QA l.length rc qc l w2 rfl (by omega) (HRa.out.below hb') (HRb.out.below hb')).mono ?_
      rintro e w3 ⟨rfl, hb3⟩
      have hb4 := hb'.trans (hb3.mono hb'.size)
      clear hb' hb3
      go_wp2_with fail
      go_roundw
      case rel => exact ⟨k + 1, by omega, by go_num, hb4⟩
      case measure => simp [intOf]; omega
    · go_wp2_with fail
      go_ret
      exact ⟨rfl, hb⟩
theorem flatF_app (rs ss : List FR) : flatF (rs ++ ss) = flatF rs ++ flatF ss := by simp [flatF]
theorem flatF_cons (r : FR) (ss : List FR) : flatF (r :: ss) = .int .i64 r.a :: .slice r.A r.l.length r.c :: flatF ss := by simp [flatF, FR.cells]
theorem markF_snoc (m : Int) (pre : List FR) (r : FR) : markF m (pre ++ [r]) = markF m pre ++ [⟨m + totF pre, r.A, r.c, marks (m + totF pre + 1) r.l.length⟩] := by
  rw [markF_app]; rfl
theorem markF_get (m : Int) (pre post : List FR) (r : FR) : (markF m (pre ++ r :: post)).getD pre.length FR.zero = ⟨m + totF pre, r.A, r.c, marks (m + totF pre + 1) r.l.length⟩ := by
  rw [markF_app, List.getD_eq_getElem?_getD, List.getElem?_append_right (by rw [markF_length]; exact Nat.le_refl _), markF_length]
  simp [markF]
theorem far_of {w : World} {base g n : Nat} {cs : List Value} {b n2 : Nat} {A : Option Addr} {cs2 : List Value} (hr : Own w base 33 2 (some ⟨g, 0, none⟩) n cs) (hn : 0 < n) (ho : Own w b 3 1 A n2 cs2) : ∀ x, 0 < n2 → A = some x → x.block ≠ g := by
  intro x h0 e e2
  exact own_types hr ho (by decide) ⟨g, 0, none⟩ x hn h0 rfl e e2.symm
theorem markF_step {wr w' : World} {base g : Nat} {m : Int} {pre post : List FR} {r : FR} (h : OwnF wr base (some ⟨g, 0, none⟩) (markF m pre ++ r :: post))
    (hb : Own w' base 3 1 r.A r.l.length (ints (marks (m + totF pre + 1) r.l.length)))
    (hT : Turned r.A r.l.length (wr.setCell ⟨g, pre.length * 2, none⟩ (.int .i64 (m + totF pre))) w') :
    OwnF w' base (some ⟨g, 0, none⟩) (markF m (pre ++ [r]) ++ post) := by
  have hpos : 0 < (markF m pre ++ r :: post).length := by simp; omega
  have hset : ∀ x ∈ markF m pre ++ r :: post, Own (wr.setCell ⟨g, pre.length * 2, none⟩ (.int .i64 (m + totF pre))) base 3 1 x.A x.l.length (ints x.l) := fun x hx =>
    set_own (h.2.1 x hx) (far_of h.1 hpos (h.2.1 x hx))
  have hrm : r ∈ markF m pre ++ r :: post := by simp
  have hrow := h.1.set (pre.length * 2) (.int .i64 (m + totF pre))
  have e1 : markF m (pre ++ [r]) ++ post = markF m pre ++ ⟨m + totF pre, r.A, r.c, marks (m + totF pre + 1) r.l.length⟩ :: post := by rw [markF_snoc]; simp
  have e2 : (flatF (markF m pre ++ r :: post)).set (pre.length * 2) (.int .i64 (m + totF pre)) = flatF (markF m (pre ++ [r]) ++ post) := by
    rw [e1, flatF_app, flatF_app, flatF_cons, flatF_cons, List.set_append_right _ _ (by rw [flatF_length, markF_length]; exact Nat.le_refl _), flatF_length, markF_length]
    simp [marks_length]
  have e3 : (markF m (pre ++ [r]) ++ post).length = (markF m pre ++ r :: post).length := by rw [e1]; simp
  have ⟨hpa1, hpa2, hpa3⟩ := List.pairwise_append.1 h.2.2
  have hpc := List.pairwise_cons.1 hpa2
  refine ⟨?_, ?_, ?_⟩
  · rw [e3, ← e2]
    refine turned_own hT hrow (fun a b h0 h1 ha hb' => ?_)
    exact own_types (hset r hrm) hrow (by decide) a b h0 h1 ha hb'
  · intro x hx
    rw [e1] at hx
    rcases List.mem_append.1 hx with hx | hx
    · exact turned_own hT (hset x (List.mem_append.2 (.inl hx))) (fun a b h0 h1 ha hb' => (hpa3 x hx r (by simp)).symm a b h0 h1 ha hb')
    · rcases List.mem_cons.1 hx with rfl | hx
      · rw [marks_length]; exact hb
      · exact turned_own hT (hset x (List.mem_append.2 (.inr (List.mem_cons_of_mem _ hx)))) (fun a b h0 h1 ha hb' => hpc.1 x hx a b h0 h1 ha hb')
  · refine likeF_apart ?_ h.2.2
    rw [e1]
    simp [likeF, marks_length]
set_option maxHeartbeats 800000 in
theorem markFrS (base : Nat) (A : Option Addr) (rs : List FR) (n c : Nat) (m : Int) (w : World) (hn : rs.length = n) (hm : n ≤ 1048576) (hl : ∀ r ∈ rs, r.l.length ≤ 12) (h0 : 0 ≤ m) (h1 : m ≤ 10) (ht : totF rs ≤ 1048576) (hA : OwnF w base A rs) :
    Calls Try.prog 10 #[.slice A n c, .int .i64 m] w fun e w' => e = .returned (.int .i64 (m + totF rs)) ∧ OwnF w' base A (markF m rs) ∧ Below base w w' := by
  have HA := Lib.hid hA; clear hA
  have HN := Lib.hid hn; clear hn
  have HL := Lib.hid hl; clear hl
  go_enter Try.func10, Try.ntmps10
  go_wp2_with fail
  go_loopw [1, 5] (fun q i wr => ∃ pre post : List FR, Hid (rs = pre ++ post) ∧ i = .int .i64 pre.length ∧ q = .int .i64 (m + totF pre) ∧ Hid (OwnF wr base A (markF m pre ++ post)) ∧ Below base w wr) (fun _ i _ => n - (intOf i).toNat)
  case atStart => exact ⟨[], rs, rfl, rfl, by simp [totF], by simpa [Hid, markF] using HA.out, Below.refl _ _⟩
  case round =>
    obtain ⟨pre, post, HE, rfl, rfl, HO, hbw⟩ := hrel
    cases post with
    | nil =>
      have hpn : pre.length = n := by have := HN.out; rw [HE.out] at this; simpa using this
      have hpe : Hid (rs = pre) := by rw [Hid, HE.out]; simp
      have hlt : ¬ ((pre.length : Int) < (n : Int)) := by omega
      go_wp2_with fail
      go_ret
      have := HO.out
      rw [List.append_nil, ← hpe.out] at this
      exact ⟨by rw [hpe.out]; rfl, this, hbw⟩
    | cons r post =>
      have hlen : (markF m pre ++ r :: post).length = n := by rw [← HN.out, HE.out]; simp [markF_length]
      have hkn : pre.length < n := by rw [← hlen]; simp [markF_length]
      have htp : totF pre + 1 + r.l.length ≤ 1048576 := by rw [HE.out, totF_app] at ht; simp [totF] at ht; omega
      have hrl : r.l.length ≤ 12 := HL.out r (by rw [HE.out]; simp)
      have hrow := HO.out.1
      rw [hlen] at hrow
      obtain ⟨g, rfl, hge, _⟩ := hrow.form (by omega)
      have hgk : (markF m pre ++ r :: post).getD pre.length FR.zero = r := by rw [List.getD_eq_getElem?_getD, List.getElem?_append_right (by rw [markF_length]; exact Nat.le_refl _), markF_length]; simp
      obtain ⟨b, o, eb, _, hc0, hc1, _⟩ := HO.out.rd.at (k := pre.length) (by rw [hlen]; exact hkn)
      cases eb
      rw [hgk] at hc0 hc1
      rw [Nat.zero_add] at hc0 hc1
      have hf0 := hrow.frozen (by omega) (pre.length * 2)
      have hbody := HO.out.2.1 r (by simp)
      have hpos : 0 < (markF m pre ++ r :: post).length := by rw [hlen]; omega
      have HB := Lib.hid (set_own (j := pre.length * 2) (u := .int .i64 (m + totF pre)) hbody (far_of HO.out.1 hpos hbody))
      have hbw1 := hbw.setCell (p := ⟨g, pre.length * 2, none⟩) hge (.int .i64 (m + totF pre))
      have HHN := Lib.hid hgk
      clear hrow hgk hbody hpos hlen
      have hkn' : (pre.length : Int) < (n : Int) := by omega
      go_wp2_with fail
      refine (markIntS_own base r.A r.l.length r.c (m + totF pre + 1) _ _ (by omega) (by omega) (by omega) HB.out).mono ?_
      rintro e w2 ⟨rfl, ho2, hT⟩
      have hst := markF_step HO.out ho2 hT
      have HST := Lib.hid hst
      have hbw2 := hbw1.trans (hT.below (HB.out.ge (Nat.le_refl _)))
      clear hst ho2 hT hbw hbw1 hc0 hc1 hf0
      have HT2 : Hid (totF (pre ++ [r]) = totF pre + 1 + r.l.length) := by rw [Hid, totF_app]; simp [totF]; omega
      go_wp2_with fail
      go_roundw
      case rel => exact ⟨pre ++ [r], post, by rw [Hid, HE.out]; simp, by simp, by rw [HT2.out]; go_num, HST.out, hbw2⟩
      case measure => simp [intOf]; omega
set_option maxHeartbeats 800000 in
theorem heldFrS (A : Option Addr) (rs : List FR) (n c : Nat) (m : Int) (w : World) (hn : rs.length = n) (hm : n ≤ 1048576) (hl : ∀ r ∈ rs, r.l.length ≤ 12) (h0 : 0 ≤ m) (h1 : m ≤ 10) (ht : totF rs ≤ 1048576) (hA : RdF w A (markF m rs)) :
    Calls Try.prog 11 #[.slice A n c, .int .i64 m] w fun e w' => e = .returned (.int .i64 (m + totF rs)) ∧ w = w' := by
  have HA := Lib.hid hA; clear hA
  have HN := Lib.hid hn; clear hn
  have HL := Lib.hid hl; clear hl
  go_enter Try.func11, Try.ntmps11
  go_wp2_with fail
  go_loop [1, 5] (fun q i => ∃ pre post : List FR, Hid (rs = pre ++ post) ∧ i = .int .i64 pre.length ∧ q = .int .i64 (m + totF pre)) (fun _ i => n - (intOf i).toNat)
  case atStart => exact ⟨[], rs, rfl, rfl, by simp [totF]⟩
  case round =>
    obtain ⟨pre, post, HE, rfl, rfl⟩ := hrel
    cases post with
    | nil =>
      have hpn : pre.length = n := by have := HN.out; rw [HE.out] at this; simpa using this
      have hpe : Hid (rs = pre) := by rw [Hid, HE.out]; simp
      have hlt : ¬ ((pre.length : Int) < (n : Int)) := by omega
      go_wp2_with fail
      go_ret
      exact ⟨by rw [hpe.out]; rfl, rfl⟩
    | cons r post =>
      have hkn : pre.length < n := by rw [← HN.out, HE.out]; simp
      have htp : totF pre + 1 + r.l.length ≤ 1048576 := by rw [HE.out, totF_app] at ht; simp [totF] at ht; omega
      have hrl : r.l.length ≤ 12 := HL.out r (by rw [HE.out]; simp)
      obtain ⟨b, o, rfl, _, hc0, hc1, HRB⟩ := HA.out.at (k := pre.length) (by rw [markF_length, HN.out]; exact hkn)
      rw [HE.out, markF_get] at hc0 hc1 HRB
      dsimp only at hc0 hc1 HRB
      rw [marks_length] at hc1
      have hne : ((m + (totF pre : Int)) != (m + (totF pre : Int))) = false := by simp
      have hkn' : (pre.length : Int) < (n : Int) := by omega
      go_wp2_with fail
      refine (heldIntS_yes r.A r.l.length r.c (m + totF pre + 1) _ (by omega) (by omega) (by omega) HRB.out).mono ?_
      rintro e w' ⟨rfl, rfl⟩
      clear hc0 hc1
      have HT2 : Hid (totF (pre ++ [r]) = totF pre + 1 + r.l.length) := by rw [Hid, totF_app]; simp [totF]; omega
      have hnn : ¬ (m + (totF pre : Int) + 1 + (r.l.length : Int) < 0) := by omega
      go_wp2_with fail
      go_round
      case rel => exact ⟨pre ++ [r], post, by rw [Hid, HE.out]; simp, by simp, by rw [HT2.out]; go_num⟩
      case measure => simp [intOf]; omega
end Go.Proofs.Ytddiloillgbneaa
