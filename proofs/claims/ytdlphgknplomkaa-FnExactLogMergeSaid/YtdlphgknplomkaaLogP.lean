/- Plain laws of logs: putting an entry in, bringing logs together. No program is in sight. -/
import Derived.Test.YtdlphgknplomkaaLogL
namespace Go.Proofs.Ytdlphgknplomkaa
open Go.RowKit

def eqE (a b : Entry) : Bool := a.fTime == b.fTime && (a.fWho == b.fWho && (a.fNumber == b.fNumber && a.fValue == b.fValue))
theorem eqE_iff (a b : Entry) : eqE a b = true ↔ a = b := by
  obtain ⟨a1, a2, a3, a4⟩ := a
  obtain ⟨b1, b2, b3, b4⟩ := b
  simp [eqE]
theorem eqE_self (a : Entry) : eqE a a = true := (eqE_iff a a).2 rfl
theorem eqE_comm (a b : Entry) : eqE a b = eqE b a := by
  rw [Bool.eq_iff_iff, eqE_iff, eqE_iff]; exact eq_comm
theorem any_eqE (l : List Entry) (e : Entry) : l.any (eqE e) = true ↔ e ∈ l := by
  rw [List.any_eq_true]
  constructor
  · rintro ⟨x, hx, h⟩
    rw [eqE_iff] at h; rw [h]; exact hx
  · exact fun h => ⟨e, h, eqE_self e⟩
abbrev Asc (l : List Entry) : Prop := l.Pairwise (fun a b => lessB a b = true)
theorem less_ne {a b : Entry} (h : lessB a b = true) : a ≠ b := by
  rintro rfl; rw [less_self] at h; cases h
theorem less_anti {a b : Entry} (h : lessB a b = true) (h' : lessB b a = true) : False := less_ne (less_trans h h') rfl
theorem asc_sub : ∀ (m l : List Entry), Asc l → Asc m → (∀ x ∈ l, x ∈ m) → List.Sublist l m
  | [], l, _, _, h => by
    cases l with
    | nil => exact List.Sublist.refl _
    | cons x l => have := h x (by simp); simp at this
  | y :: m, [], _, _, _ => List.nil_sublist _
  | y :: m, x :: l, hl, hm, h => by
    have hl' := List.pairwise_cons.1 hl
    have hm' := List.pairwise_cons.1 hm
    rcases List.mem_cons.1 (h x (by simp)) with rfl | hx
    · refine (asc_sub m l hl'.2 hm'.2 fun z hz => ?_).cons_cons _
      rcases List.mem_cons.1 (h z (by simp [hz])) with rfl | hz'
      · exact absurd rfl (less_ne (hl'.1 _ hz))
      · exact hz'
    · refine (asc_sub m (x :: l) hl hm'.2 fun z hz => ?_).cons _
      rcases List.mem_cons.1 (h z hz) with rfl | hz'
      · exfalso
        have hyx := hm'.1 x hx
        rcases List.mem_cons.1 hz with rfl | hz
        · exact less_ne hyx rfl
        · exact less_anti hyx (hl'.1 _ hz)
      · exact hz'
theorem asc_eq {l m : List Entry} (hl : Asc l) (hm : Asc m) (h : ∀ x, x ∈ l ↔ x ∈ m) : l = m :=
  (asc_sub m l hl hm fun x hx => (h x).1 hx).eq_of_length_le (asc_sub l m hm hl fun x hx => (h x).2 hx).length_le
theorem log_asc {l : List Entry} (h : logB l = true) : Asc l := ((logB_pw l).1 h).2.1
theorem log_of_sub {l m : List Entry} (hm : logB m = true) (hl : Asc l) (h : ∀ x ∈ l, x ∈ m) : logB l = true := log_sub hm (asc_sub m l hl (log_asc hm) h)
/-- in a log two entries are the same or in order -/
theorem log_tri {l : List Entry} (h : Asc l) {x y : Entry} (hx : x ∈ l) (hy : y ∈ l) : x = y ∨ lessB x y = true ∨ lessB y x = true := by
  obtain ⟨i, hi, rfl⟩ := List.getElem_of_mem hx
  obtain ⟨j, hj, rfl⟩ := List.getElem_of_mem hy
  rw [Asc, List.pairwise_iff_getElem] at h
  rcases Nat.lt_trichotomy i j with hlt | rfl | hlt
  · exact .inr (.inl (h i j hi hj hlt))
  · exact .inl rfl
  · exact .inr (.inr (h j i hj hi hlt))
theorem log_name {l : List Entry} (h : logB l = true) {x y : Entry} (hx : x ∈ l) (hy : y ∈ l) (hs : sameB x y.fWho y.fNumber = true) : x = y := by
  obtain ⟨i, hi, rfl⟩ := List.getElem_of_mem hx
  obtain ⟨j, hj, rfl⟩ := List.getElem_of_mem hy
  have hp := ((logB_pw l).1 h).2.2.1
  rw [List.pairwise_iff_getElem] at hp
  rcases Nat.lt_trichotomy i j with hlt | rfl | hlt
  · rw [hp i j hi hj hlt] at hs; cases hs
  · rfl
  · have := hp j i hj hi hlt
    rw [sameB_iff] at hs
    have : sameB l[j] l[i].fWho l[i].fNumber = true := (sameB_iff _ _ _).2 ⟨hs.1.symm, hs.2.symm⟩
    simp_all

/-- r is the log with the entries of both -/
def Uni (a b r : List Entry) : Prop := logB r = true ∧ ∀ x, x ∈ r ↔ x ∈ a ∨ x ∈ b
theorem Uni.unique {a b r r' : List Entry} (h : Uni a b r) (h' : Uni a b r') : r = r' := asc_eq (log_asc h.1) (log_asc h'.1) fun x => by rw [h.2, h'.2]
theorem Uni.comm {a b r : List Entry} (h : Uni a b r) : Uni b a r := ⟨h.1, fun x => by rw [h.2, or_comm]⟩

/-- the entry at its place -/
def insE (l : List Entry) (e : Entry) : List Entry := l.takeWhile (fun x => lessB x e) ++ e :: l.dropWhile (fun x => lessB x e)
theorem mem_insE (l : List Entry) (e x : Entry) : x ∈ insE l e ↔ x ∈ l ∨ x ∈ [e] := by
  have h := List.takeWhile_append_dropWhile (p := fun x => lessB x e) (l := l)
  have : x ∈ l ↔ x ∈ l.takeWhile (fun x => lessB x e) ∨ x ∈ l.dropWhile (fun x => lessB x e) := by rw [← List.mem_append, h]
  rw [insE, List.mem_append, List.mem_cons, this, List.mem_singleton]
  constructor
  · rintro (h | h | h)
    · exact .inl (.inl h)
    · exact .inr h
    · exact .inl (.inr h)
  · rintro ((h | h) | h)
    · exact .inl h
    · exact .inr (.inr h)
    · exact .inr (.inl h)
theorem insE_length (l : List Entry) (e : Entry) : (insE l e).length = l.length + 1 := by
  have h := congrArg List.length (List.takeWhile_append_dropWhile (p := fun x => lessB x e) (l := l))
  rw [List.length_append] at h
  rw [insE, List.length_append, List.length_cons]; omega
theorem drop_asc {e : Entry} : ∀ (l : List Entry), Asc l → (∀ x ∈ l, x = e ∨ lessB x e = true ∨ lessB e x = true) → e ∉ l → ∀ q ∈ l.dropWhile (fun x => lessB x e), lessB e q = true
  | [], _, _, _ => by simp
  | y :: l, h, ht, hne => by
    have h' := List.pairwise_cons.1 h
    rw [List.dropWhile_cons]
    cases hy : lessB y e with
    | true =>
      simp only [if_true]
      exact drop_asc l h'.2 (fun x hx => ht x (by simp [hx])) (fun hx => hne (by simp [hx]))
    | false =>
      have hey : lessB e y = true := by
        rcases ht y (by simp) with rfl | h1 | h1
        · exact absurd (by simp) hne
        · rw [hy] at h1; cases h1
        · exact h1
      simp only [Bool.false_eq_true, if_false]
      intro q hq
      rcases List.mem_cons.1 hq with rfl | hq
      · exact hey
      · exact less_trans hey (h'.1 q hq)
theorem take_less {e : Entry} : ∀ (l : List Entry), ∀ p ∈ l.takeWhile (fun x => lessB x e), lessB p e = true
  | [] => by simp
  | y :: l => by
    rw [List.takeWhile_cons]
    cases hy : lessB y e with
    | true =>
      simp only [if_true]
      intro p hp
      rcases List.mem_cons.1 hp with rfl | hp
      · exact hy
      · exact take_less l p hp
    | false => simp
theorem insE_asc {l : List Entry} {e : Entry} (h : Asc l) (ht : ∀ x ∈ l, x = e ∨ lessB x e = true ∨ lessB e x = true) (hne : e ∉ l) : Asc (insE l e) := by
  have hs := List.takeWhile_append_dropWhile (p := fun x => lessB x e) (l := l)
  have h2 := h
  rw [← hs, Asc, List.pairwise_append] at h2
  rw [Asc, insE, List.pairwise_append]
  refine ⟨h2.1, List.pairwise_cons.2 ⟨drop_asc l h ht hne, h2.2.1⟩, fun p hp q hq => ?_⟩
  rcases List.mem_cons.1 hq with rfl | hq
  · exact take_less l p hp
  · exact h2.2.2 p hp q hq

/-- what putting leaves -/
def putV (l : List Entry) (e : Entry) : List Entry × Bool :=
  if logB l then (if l.any (eqE e) then (l, true) else if logB (insE l e) then (insE l e, true) else (l, false)) else ([], false)
theorem put_no {l : List Entry} {e : Entry} (h : logB l = false) : putV l e = ([], false) := by simp [putV, h]
theorem put_has {l : List Entry} {e : Entry} (h : logB l = true) (hm : e ∈ l) : putV l e = (l, true) := by simp [putV, h, (any_eqE l e).2 hm]
theorem put_ins {l : List Entry} {e : Entry} (h : logB l = true) (hm : e ∉ l) (hi : logB (insE l e) = true) : putV l e = (insE l e, true) := by
  have : l.any (eqE e) = false := by rw [← Bool.not_eq_true, any_eqE]; exact hm
  rw [putV, h, this, hi]; rfl
theorem put_bad {l : List Entry} {e : Entry} (h : logB l = true) (hm : e ∉ l) (hi : logB (insE l e) = false) : putV l e = (l, false) := by
  have : l.any (eqE e) = false := by rw [← Bool.not_eq_true, any_eqE]; exact hm
  rw [putV, h, this, hi]; rfl
theorem put_uni {l : List Entry} {e : Entry} (h : logB l = true) : (∃ r, putV l e = (r, true) ∧ Uni l [e] r) ∨ (putV l e = (l, false) ∧ ∀ r, ¬ Uni l [e] r) := by
  by_cases hm : e ∈ l
  · exact .inl ⟨l, put_has h hm, h, fun x => by simp; rintro rfl; exact hm⟩
  · cases hi : logB (insE l e) with
    | true => exact .inl ⟨_, put_ins h hm hi, hi, fun x => mem_insE l e x⟩
    | false =>
      refine .inr ⟨put_bad h hm hi, fun r hr => ?_⟩
      have ha := log_asc hr.1
      have he : e ∈ r := (hr.2 e).2 (.inr (by simp))
      have := insE_asc (log_asc h) (fun x hx => log_tri ha ((hr.2 x).2 (.inl hx)) he) hm
      have := log_of_sub hr.1 this (fun x hx => (hr.2 x).2 ((mem_insE l e x).1 hx))
      rw [hi] at this; cases this

/-- the index of the first entry of a name -/
def findE (l : List Entry) (u v : Int) : Option Nat := (List.range l.length).find? fun k => sameB (eAt l k) u v
/-- what the reference's putting leaves, by the entry with the same name -/
theorem put_found {l : List Entry} {e : Entry} (h : logB l = true) {k : Nat} (hk : k < l.length) (hs : sameB (eAt l k) e.fWho e.fNumber = true) : putV l e = (l, eqE (eAt l k) e) := by
  have hx : eAt l k ∈ l := by rw [eAt_get hk]; exact List.getElem_mem hk
  by_cases hm : e ∈ l
  · have := log_name h hx hm hs
    rw [put_has h hm, this, eqE_self]
  · have hne : eqE (eAt l k) e = false := by
      rw [← Bool.not_eq_true, eqE_iff]
      intro he; rw [he] at hx; exact hm hx
    rw [hne]
    refine put_bad h hm ?_
    cases hi : logB (insE l e) with
    | false => rfl
    | true =>
      exfalso
      have := log_name hi ((mem_insE l e _).2 (.inl hx)) ((mem_insE l e e).2 (.inr (by simp))) hs
      rw [this] at hx; exact hm hx
theorem put_none {l : List Entry} {e : Entry} (h : logB l = true) (hn : ∀ k, k < l.length → sameB (eAt l k) e.fWho e.fNumber = false) : putV l e = (if logB (insE l e) then insE l e else l, logB (insE l e)) := by
  have hm : e ∉ l := by
    intro hm
    obtain ⟨k, hk, rfl⟩ := List.getElem_of_mem hm
    have := hn k hk
    rw [eAt_get hk] at this
    rw [(sameB_iff _ _ _).2 ⟨rfl, rfl⟩] at this; cases this
  cases hi : logB (insE l e) with
  | true => rw [put_ins h hm hi]; rfl
  | false => rw [put_bad h hm hi]; rfl

/-- all entries of the second list put into the first -/
def mergeN : List Entry → List Entry → Option (List Entry)
  | out, [] => some out
  | out, e :: b => if (putV out e).2 then mergeN (putV out e).1 b else none
def mergeV (a b : List Entry) : List Entry × Bool :=
  if logB a && logB b then (match mergeN a b with | some r => (r, true) | none => ([], false)) else ([], false)
theorem mergeN_uni : ∀ (b a : List Entry), logB a = true → ∀ r, mergeN a b = some r ↔ Uni a b r
  | [], a, ha, r => by
    rw [mergeN]
    constructor
    · intro h; cases h; exact ⟨ha, fun x => by simp⟩
    · intro h
      rw [h.unique (r' := a) ⟨ha, fun x => by simp⟩]
  | e :: b, a, ha, r => by
    rw [mergeN]
    rcases put_uni (e := e) ha with ⟨r1, e1, hu⟩ | ⟨e1, hn⟩
    · rw [e1]
      simp only [if_true]
      rw [mergeN_uni b r1 hu.1 r]
      have : ∀ x, (x ∈ r1 ∨ x ∈ b) ↔ (x ∈ a ∨ x ∈ e :: b) := fun x => by
        rw [hu.2, List.mem_singleton, List.mem_cons, or_assoc]
      simp only [Uni, this]
    · rw [e1]
      simp only [Bool.false_eq_true, if_false]
      constructor
      · intro h; cases h
      · intro h
        exfalso
        refine hn (r.filter fun x => a.any (eqE x) || eqE e x) ⟨log_sub h.1 List.filter_sublist, fun x => ?_⟩
        rw [List.mem_filter, Bool.or_eq_true, any_eqE, eqE_iff, h.2, List.mem_singleton, List.mem_cons]
        constructor
        · rintro ⟨_, h | h⟩
          · exact .inl h
          · exact .inr h.symm
        · rintro (h | h)
          · exact ⟨.inl h, .inl h⟩
          · exact ⟨.inr (.inl h), .inr h.symm⟩
theorem merge_uni {a b : List Entry} (ha : logB a = true) (hb : logB b = true) : (∃ r, mergeV a b = (r, true) ∧ Uni a b r) ∨ (mergeV a b = ([], false) ∧ ∀ r, ¬ Uni a b r) := by
  unfold mergeV
  rw [ha, hb]
  cases h : mergeN a b with
  | some r => exact .inl ⟨r, rfl, (mergeN_uni b a ha r).1 h⟩
  | none =>
    refine .inr ⟨rfl, fun r hr => ?_⟩
    rw [(mergeN_uni b a ha r).2 hr] at h; cases h
theorem merge_no {a b : List Entry} (h : ¬ (logB a = true ∧ logB b = true)) : mergeV a b = ([], false) := by
  unfold mergeV
  rw [if_neg (by simpa using h)]
theorem merge_of {a b r : List Entry} (ha : logB a = true) (hb : logB b = true) (h : Uni a b r) : mergeV a b = (r, true) := by
  rcases merge_uni ha hb with ⟨r', e, h'⟩ | ⟨_, hn⟩
  · rw [e, h.unique h']
  · exact absurd h (hn r)

/-- neighbours that are the same, once -/
def compFrom : Entry → List Entry → List Entry
  | _, [] => []
  | p, y :: t => if eqE p y then compFrom y t else y :: compFrom y t
def compE : List Entry → List Entry
  | [] => []
  | x :: t => x :: compFrom x t
theorem mem_compFrom : ∀ (t : List Entry) (p x : Entry), (x = p ∨ x ∈ compFrom p t) ↔ (x = p ∨ x ∈ t)
  | [], p, x => by simp [compFrom]
  | y :: t, p, x => by
    rw [compFrom]
    have ih := mem_compFrom t y x
    split
    · next h =>
      rw [eqE_iff] at h; subst h
      rw [ih, List.mem_cons]
      constructor
      · rintro (h | h)
        · exact .inl h
        · exact .inr (.inr h)
      · rintro (h | h | h)
        · exact .inl h
        · exact .inl h
        · exact .inr h
    · rw [List.mem_cons, ih, List.mem_cons]
theorem mem_compE (l : List Entry) (x : Entry) : x ∈ compE l ↔ x ∈ l := by
  cases l with
  | nil => simp [compE]
  | cons p t => rw [compE, List.mem_cons, List.mem_cons]; exact mem_compFrom t p x
theorem comp_asc : ∀ (t : List Entry) (p : Entry), (p :: t).Pairwise (fun a b => a = b ∨ lessB a b = true) → (∀ z ∈ compFrom p t, lessB p z = true) ∧ Asc (compFrom p t)
  | [], p, _ => by simp [compFrom, Asc]
  | y :: t, p, h => by
    have h' := List.pairwise_cons.1 h
    have ih := comp_asc t y h'.2
    rw [compFrom]
    split
    · next he =>
      rw [eqE_iff] at he; subst he
      exact ih
    · next he =>
      have hpy : lessB p y = true := by
        rcases h'.1 y (by simp) with rfl | h1
        · rw [eqE_self] at he; exact absurd rfl he
        · exact h1
      refine ⟨fun z hz => ?_, List.pairwise_cons.2 ih⟩
      rcases List.mem_cons.1 hz with rfl | hz
      · exact hpy
      · exact less_trans hpy (ih.1 z hz)
/-- the program's way: all of both in order, neighbours that are the same once, and a log or not -/
theorem merge_sort {a b c : List Entry} (ha : logB a = true) (hb : logB b = true) (hm : ∀ x, x ∈ c ↔ x ∈ a ∨ x ∈ b) (hs : c.Pairwise fun x y => lessB y x = false) :
    mergeV a b = if logB (compE c) then (compE c, true) else ([], false) := by
  cases h : logB (compE c) with
  | true => exact merge_of ha hb ⟨h, fun x => by rw [mem_compE, hm]⟩
  | false =>
    rcases merge_uni ha hb with ⟨r, e, hu⟩ | ⟨e, _⟩
    · exfalso
      have ht : c.Pairwise (fun x y => x = y ∨ lessB x y = true) := by
        refine List.Pairwise.imp_of_mem ?_ hs
        intro x y hx hy hn
        rcases log_tri (log_asc hu.1) ((hu.2 x).2 ((hm x).1 hx)) ((hu.2 y).2 ((hm y).1 hy)) with h1 | h1 | h1
        · exact .inl h1
        · exact .inr h1
        · rw [hn] at h1; cases h1
      have hc : Asc (compE c) := by
        cases c with
        | nil => exact List.Pairwise.nil
        | cons p t => exact List.pairwise_cons.2 (comp_asc t p ht)
      have := log_of_sub hu.1 hc (fun x hx => (hu.2 x).2 ((hm x).1 ((mem_compE c x).1 hx)))
      rw [h] at this; cases this
    · exact e
end Go.Proofs.Ytdlphgknplomkaa
