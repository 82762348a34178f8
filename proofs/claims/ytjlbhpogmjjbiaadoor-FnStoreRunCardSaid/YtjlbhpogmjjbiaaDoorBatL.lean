/- Plain laws of batteries: runs of plans, peaks, and the plan that keeps a peak. No statement is proved here. -/
import Derived.Test.YtjlbhpogmjjbiaaDoorBase
namespace Go.Proofs.YtjlbhpogmjjbiaaDoor

def batB (s r l : Int) : Bool := inB s 0 999 && (inB r 0 999 && inB l 0 s)
def loadsB (xs : List Int) : Bool := xs.all (fun x => inB x 0 999) && decide (xs.length ≤ 12)
def stOk (s r lv x : Int) : Bool := inB x (-r) r && inB (lv + x) 0 s
def stRun (s r : Int) : Int → List Int → Option Int
  | l, [] => some l
  | l, x :: xs => if stOk s r l x then stRun s r (l + x) xs else none
def stAll (s r l : Int) (xs : List Int) : Option Int := if batB s r l && decide (xs.length ≤ 12) then stRun s r l xs else none
def stLev (o : Option Int) : Int := o.getD (-1)
def peakL : Int → List Int → List Int → Int
  | p, x :: xs, y :: ys => peakL (max p (x + y)) xs ys
  | p, _, _ => p
def peakV (s r l : Int) (xs ys : List Int) : Int := if (stAll s r l ys).isSome && loadsB xs && decide (xs.length = ys.length) then peakL 0 xs ys else -1
def takeB (s r l pk x : Int) : Int := min (min r (s - l)) (pk - x)
def planL (s r pk : Int) : Int → List Int → Option (List Int)
  | _, [] => some []
  | l, x :: xs => if takeB s r l pk x < -(min r l) then none else (planL s r pk (l + takeB s r l pk x) xs).map (takeB s r l pk x :: ·)
def planV (s r l pk : Int) (xs : List Int) : Option (List Int) := if batB s r l && loadsB xs && decide (0 ≤ pk) then planL s r pk l xs else none

theorem drop_getD {xs : List Int} {k : Nat} (h : k < xs.length) : xs.drop k = xs.getD k 0 :: xs.drop (k + 1) := by
  rw [List.drop_eq_getElem_cons h]; simp [h]
theorem stRun_drop {s r l : Int} {xs : List Int} {k : Nat} (h : k < xs.length) : stRun s r l (xs.drop k) = if stOk s r l (xs.getD k 0) then stRun s r (l + xs.getD k 0) (xs.drop (k + 1)) else none := by
  rw [drop_getD h, stRun]
theorem peakL_drop {p : Int} {xs ys : List Int} {k : Nat} (h : k < xs.length) (h' : k < ys.length) : peakL p (xs.drop k) (ys.drop k) = peakL (max p (xs.getD k 0 + ys.getD k 0)) (xs.drop (k + 1)) (ys.drop (k + 1)) := by
  rw [drop_getD h, drop_getD h', peakL]
theorem planL_drop {s r pk l : Int} {xs : List Int} {k : Nat} (h : k < xs.length) : planL s r pk l (xs.drop k) = if takeB s r l pk (xs.getD k 0) < -(min r l) then none else (planL s r pk (l + takeB s r l pk (xs.getD k 0)) (xs.drop (k + 1))).map (takeB s r l pk (xs.getD k 0) :: ·) := by
  rw [drop_getD h, planL]
theorem stRun_each {s r : Int} : ∀ {xs : List Int} {l : Int}, (stRun s r l xs).isSome = true → ∀ k, k < xs.length → -r ≤ xs.getD k 0 ∧ xs.getD k 0 ≤ r
  | x :: xs, l, h, k, hk => by
    rw [stRun] at h
    split at h
    · rename_i hx
      rw [stOk, Bool.and_eq_true] at hx
      cases k with
      | zero => simpa using (inB_iff _ _ _).1 hx.1
      | succ k => simpa using stRun_each h k (by simpa using hk)
    · cases h
theorem stRun_level {s r : Int} : ∀ {xs : List Int} {l v : Int}, stRun s r l xs = some v → v = l + xs.sum
  | [], l, v, h => by rw [stRun] at h; cases h; simp
  | x :: xs, l, v, h => by
    rw [stRun] at h
    split at h
    · have := stRun_level h; rw [List.sum_cons]; omega
    · cases h
theorem stRun_in {s r : Int} : ∀ {xs : List Int} {l v : Int}, 0 ≤ l → l ≤ s → stRun s r l xs = some v → 0 ≤ v ∧ v ≤ s
  | [], l, v, h0, h1, h => by rw [stRun] at h; cases h; exact ⟨h0, h1⟩
  | x :: xs, l, v, h0, h1, h => by
    rw [stRun] at h
    split at h
    · rename_i hx
      rw [stOk, Bool.and_eq_true] at hx
      have := (inB_iff _ _ _).1 hx.2
      exact stRun_in this.1 this.2 h
    · cases h
theorem stRun_app {s r : Int} : ∀ {xs ys : List Int} {l : Int}, stRun s r l (xs ++ ys) = (stRun s r l xs).bind fun v => stRun s r v ys
  | [], ys, l => by simp [stRun]
  | x :: xs, ys, l => by
    rw [List.cons_append, stRun, stRun]
    split
    · exact stRun_app
    · rfl
theorem peakL_le : ∀ {xs ys : List Int} {p q : Int}, p ≤ q → (∀ k, k < xs.length → k < ys.length → xs.getD k 0 + ys.getD k 0 ≤ q) → peakL p xs ys ≤ q
  | [], _, p, q, h, _ => by rw [peakL]; exact h; intros; simp_all
  | _ :: _, [], p, q, h, _ => by rw [peakL]; exact h; intros; simp_all
  | x :: xs, y :: ys, p, q, h, hk => by
    rw [peakL]
    refine peakL_le ?_ fun k h1 h2 => by simpa using hk (k + 1) (by simpa using h1) (by simpa using h2)
    have := hk 0 (by simp) (by simp)
    simp at this; omega
theorem peakL_ge : ∀ {xs ys : List Int} {p : Int}, p ≤ peakL p xs ys
  | [], _, p => by rw [peakL]; exact Int.le_refl _; intros; simp_all
  | _ :: _, [], p => by rw [peakL]; exact Int.le_refl _; intros; simp_all
  | x :: xs, y :: ys, p => by
    rw [peakL]
    exact Int.le_trans (by omega) peakL_ge
theorem peakL_each : ∀ {xs ys : List Int} {p : Int} (k : Nat), k < xs.length → k < ys.length → xs.getD k 0 + ys.getD k 0 ≤ peakL p xs ys
  | x :: xs, y :: ys, p, 0, _, _ => by
    rw [peakL]
    exact Int.le_trans (by simp; omega) peakL_ge
  | x :: xs, y :: ys, p, k + 1, h1, h2 => by
    rw [peakL]
    simpa using peakL_each (p := max p (x + y)) k (by simpa using h1) (by simpa using h2)
/-- one hour is as great as the peak, unless the peak is the one at the beginning -/
theorem peakL_some : ∀ {xs ys : List Int} {p : Int}, peakL p xs ys = p ∨ ∃ k, k < xs.length ∧ k < ys.length ∧ xs.getD k 0 + ys.getD k 0 = peakL p xs ys
  | [], _, p => .inl (by rw [peakL]; intros; simp_all)
  | _ :: _, [], p => .inl (by rw [peakL]; intros; simp_all)
  | x :: xs, y :: ys, p => by
    rw [peakL]
    rcases peakL_some (xs := xs) (ys := ys) (p := max p (x + y)) with h | ⟨k, h1, h2, h3⟩
    · rcases Int.le_total (x + y) p with g | g
      · left; rw [h]; omega
      · right; exact ⟨0, by simp, by simp, by rw [h]; simp; omega⟩
    · right; exact ⟨k + 1, by simpa using h1, by simpa using h2, by simpa using h3⟩
/-- a plan that a battery with no more in it allows, by which no net load is above the peak: then the greedy plan succeeds -/
theorem planL_of {s r pk : Int} (hr : 0 ≤ r) : ∀ {xs ys : List Int} {l l' : Int}, 0 ≤ l' → l' ≤ l → l ≤ s → xs.length = ys.length → (stRun s r l' ys).isSome = true → (∀ k, k < xs.length → xs.getD k 0 + ys.getD k 0 ≤ pk) → (planL s r pk l xs).isSome = true
  | [], _, _, _, _, _, _, _, _, _ => by simp [planL]
  | x :: xs, [], _, _, _, _, _, hl, _, _ => by simp at hl
  | x :: xs, y :: ys, l, l', h0, h1, h2, hl, hs, hk => by
    rw [stRun] at hs
    split at hs
    · rename_i hx
      rw [stOk, Bool.and_eq_true] at hx
      have a1 := (inB_iff _ _ _).1 hx.1
      have a2 := (inB_iff _ _ _).1 hx.2
      have a3 := hk 0 (by simp)
      simp at a3
      rw [planL]
      have ht : ¬takeB s r l pk x < -(min r l) := by unfold takeB; omega
      rw [if_neg ht, Option.isSome_map]
      exact planL_of hr a2.1 (by unfold takeB; omega) (by unfold takeB; omega) (by simpa using hl) hs fun k h => by simpa using hk (k + 1) (by simpa using h)
    · cases hs
/-- the greedy plan is allowed, has an hour for every load, and keeps the peak -/
theorem planL_ok {s r pk : Int} (hr : 0 ≤ r) : ∀ {xs ts : List Int} {l : Int}, 0 ≤ l → l ≤ s → planL s r pk l xs = some ts → ts.length = xs.length ∧ (stRun s r l ts).isSome = true ∧ ∀ k, k < xs.length → xs.getD k 0 + ts.getD k 0 ≤ pk
  | [], ts, l, _, _, h => by rw [planL] at h; cases h; simp [stRun]
  | x :: xs, ts, l, h0, h1, h => by
    rw [planL] at h
    split at h
    · cases h
    · rename_i ht
      obtain ⟨us, hu, rfl⟩ := Option.map_eq_some_iff.1 h
      have b1 : stOk s r l (takeB s r l pk x) = true := by
        rw [stOk, Bool.and_eq_true]
        exact ⟨(inB_iff _ _ _).2 (by unfold takeB at *; omega), (inB_iff _ _ _).2 (by unfold takeB at *; omega)⟩
      have b2 := (inB_iff _ _ _).1 ((Bool.and_eq_true _ _).mp b1).2
      obtain ⟨e1, e2, e3⟩ := planL_ok hr b2.1 b2.2 hu
      refine ⟨by simp [e1], by rw [stRun, if_pos b1]; exact e2, fun k hk => ?_⟩
      cases k with
      | zero => simp; unfold takeB; omega
      | succ k => simpa using e3 k (by simpa using hk)
/-- a peak of 999 is enough -/
theorem planL_enough {s r pk : Int} (hr : 0 ≤ r) (hp : 999 ≤ pk) : ∀ {xs : List Int} {l : Int}, 0 ≤ l → l ≤ s → xs.all (fun x => inB x 0 999) = true → (planL s r pk l xs).isSome = true
  | [], l, _, _, _ => by simp [planL]
  | x :: xs, l, h0, h1, h => by
    rw [List.all_cons, Bool.and_eq_true] at h
    have a1 := (inB_iff _ _ _).1 h.1
    rw [planL]
    rw [if_neg (by unfold takeB; omega), Option.isSome_map]
    exact planL_enough hr hp (by unfold takeB; omega) (by unfold takeB; omega) h.2
theorem planV_more {s r l pk : Int} {xs : List Int} (h : (planV s r l pk xs).isSome = true) : (planV s r l (pk + 1) xs).isSome = true := by
  unfold planV at *
  split at h
  · rename_i hc
    simp only [Bool.and_eq_true, decide_eq_true_eq, batB] at hc
    obtain ⟨⟨⟨h1, h2, h3⟩, h4⟩, h5⟩ := hc
    have a2 := (inB_iff _ _ _).1 h2
    have a3 := (inB_iff _ _ _).1 h3
    rw [if_pos (by simp only [Bool.and_eq_true, decide_eq_true_eq, batB]; exact ⟨⟨⟨h1, h2, h3⟩, h4⟩, by omega⟩)]
    obtain ⟨ts, ht⟩ := Option.isSome_iff_exists.1 h
    obtain ⟨e1, e2, e3⟩ := planL_ok a2.1 a3.1 a3.2 ht
    exact planL_of a2.1 a3.1 (Int.le_refl _) a3.2 e1.symm e2 fun k hk => by have := e3 k hk; omega
  · cases h
/-- the least peak for which the greedy plan succeeds -/
def leastN (s r l : Int) (xs : List Int) : Nat := ((List.range 1000).find? fun (p : Nat) => (planL s r (p : Int) l xs).isSome).getD 0
def leastV (s r l : Int) (xs : List Int) : Int := if batB s r l && loadsB xs then (leastN s r l xs : Int) else -1
theorem leastN_of {s r l : Int} {xs : List Int} {p : Nat} (hp : p < 1000) (h : (planL s r (p : Int) l xs).isSome = true) (hno : ∀ q : Nat, q < p → (planL s r (q : Int) l xs).isSome = false) : leastN s r l xs = p := by
  unfold leastN
  have : (List.range 1000).find? (fun (p : Nat) => (planL s r (p : Int) l xs).isSome) = some p := by
    rw [List.find?_range_eq_some]
    exact ⟨h, by simpa using hp, fun j hj => by simpa using hno j hj⟩
  rw [this]; rfl
theorem leastN_spec {s r l : Int} {xs : List Int} (hb : batB s r l = true) (hl : loadsB xs = true) : leastN s r l xs < 1000 ∧ (planL s r (leastN s r l xs : Int) l xs).isSome = true ∧ ∀ q : Nat, q < leastN s r l xs → (planL s r (q : Int) l xs).isSome = false := by
  simp only [batB, loadsB, Bool.and_eq_true, decide_eq_true_eq] at hb hl
  have a2 := (inB_iff _ _ _).1 hb.2.1
  have a3 := (inB_iff _ _ _).1 hb.2.2
  have h999 : (planL s r ((999 : Nat) : Int) l xs).isSome = true := planL_enough a2.1 (by omega) a3.1 a3.2 hl.1
  unfold leastN
  cases hf : (List.range 1000).find? (fun (p : Nat) => (planL s r (p : Int) l xs).isSome) with
  | none =>
    have := List.find?_eq_none.1 hf 999 (by simp)
    rw [h999] at this; exact absurd rfl this
  | some p =>
    rw [List.find?_range_eq_some] at hf
    refine ⟨by simpa using hf.2.1, hf.1, fun q hq => by simpa using hf.2.2 q hq⟩
theorem least_le {s r l : Int} {xs ys : List Int} (hb : batB s r l = true) (hl : loadsB xs = true) (hlen : xs.length = ys.length) (hs : (stRun s r l ys).isSome = true) : leastV s r l xs ≤ peakL 0 xs ys := by
  have a0 := hb
  simp only [batB, Bool.and_eq_true] at hb
  have a2 := (inB_iff _ _ _).1 hb.2.1
  have a3 := (inB_iff _ _ _).1 hb.2.2
  obtain ⟨c1, c2, c3⟩ := leastN_spec a0 hl
  have hge := peakL_ge (xs := xs) (ys := ys) (p := 0)
  have hp : (planL s r (peakL 0 xs ys) l xs).isSome = true := planL_of a2.1 a3.1 (Int.le_refl _) a3.2 hlen hs fun k hk => peakL_each k hk (by omega)
  rw [leastV, a0, hl]
  simp only [Bool.and_self, if_true]
  rcases Int.lt_or_le (peakL 0 xs ys) (leastN s r l xs : Int) with g | g
  · have := c3 (peakL 0 xs ys).toNat (by omega)
    rw [Int.toNat_of_nonneg hge, hp] at this; cases this
  · exact g
end Go.Proofs.YtjlbhpogmjjbiaaDoor
