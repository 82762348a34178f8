/- Plain laws on markets: the number of units, the price and the gain of a trade. No program is in sight. -/
import Derived.Test.YtlhfkidgmdojjaaDoorMkT
namespace Go.Proofs.YtlhfkidgmdojjaaDoor

theorem sum_dAt : ∀ (s : List Int), s.sum = ((List.range s.length).map (dAt s)).sum
  | [] => rfl
  | x :: s => by
    rw [List.sum_cons, sum_dAt s, List.length_cons, List.range_succ_eq_map, List.map_cons, List.map_map, List.sum_cons]
    rfl
/-- if the sum is less, then so is a number -/
theorem sum_less : ∀ (n : Nat) (s t : List Int), t.length = n → n ≤ s.length → (∀ i, i < s.length → 0 ≤ dAt s i) → s.sum < t.sum → ∃ i, i < n ∧ dAt s i < dAt t i
  | 0, s, t, ht, _, h0, h => by
    have : t = [] := List.eq_nil_of_length_eq_zero ht
    subst this
    exfalso
    have key : ∀ s : List Int, (∀ i, i < s.length → 0 ≤ dAt s i) → 0 ≤ s.sum := by
      intro s
      induction s with
      | nil => intro _; simp
      | cons x s ih =>
        intro h
        have a := h 0 (by simp)
        have b := ih fun i hi => by have := h (i + 1) (by simpa using hi); simpa [dAt] using this
        simp [dAt] at a
        rw [List.sum_cons]; omega
    have := key s h0
    simp at h; omega
  | n + 1, [], t, _, hs, _, _ => absurd hs (by simp)
  | n + 1, x :: s, [], ht, _, _, _ => absurd ht (by simp)
  | n + 1, x :: s, y :: t, ht, hs, h0, h => by
    by_cases hxy : x < y
    · exact ⟨0, by omega, by simpa [dAt] using hxy⟩
    · have hr : ∀ i, i < s.length → 0 ≤ dAt s i := fun i hi => by have := h0 (i + 1) (by simpa using hi); simpa [dAt] using this
      obtain ⟨i, hi, hlt⟩ := sum_less n s t (by simpa using ht) (by simpa using hs) hr (by simp only [List.sum_cons] at h; omega)
      exact ⟨i + 1, by omega, by simpa [dAt] using hlt⟩

theorem oAt_append {l : List Order} {o : Order} {i : Nat} (h : i < l.length) : oAt (l ++ [o]) i = oAt l i := by
  simp [oAt, List.getElem?_append_left h]
/-- more asks, and more bids, never mean fewer trades -/
theorem trade_more {asks asks' bids bids' : List Order} (ha : sideB asks = true) (hb : sideB bids = true) (ha' : sideB asks' = true) (hb' : sideB bids' = true)
    (la : asks.length ≤ asks'.length) (lb : bids.length ≤ bids'.length) (ea : ∀ i, i < asks.length → oAt asks' i = oAt asks i) (eb : ∀ i, i < bids.length → oAt bids' i = oAt bids i) :
    (trade asks bids).1.sum ≤ (trade asks' bids').1.sum := by
  have h := trade_inv ha hb
  have h' := trade_inv ha' hb'
  have e' := trade_end ha' hb'
  generalize trade asks bids = T at *
  generalize trade asks' bids' = T' at *
  obtain ⟨s, t⟩ := T
  obtain ⟨s', t'⟩ := T'
  simp only at *
  by_cases hlt : s'.sum < s.sum
  · exfalso
    obtain ⟨i, hi, h1⟩ := sum_less s.length s' s rfl (by rw [h.ds.1, h'.ds.1]; exact la) (fun i hi => (h'.ds.2 i (by rw [← h'.ds.1]; exact hi)).1) hlt
    obtain ⟨j, hj, h2⟩ := sum_less t.length t' t rfl (by rw [h.dt.1, h'.dt.1]; exact lb) (fun i hi => (h'.dt.2 i (by rw [← h'.dt.1]; exact hi)).1) (by rw [← h.sum, ← h'.sum]; exact hlt)
    rw [h.ds.1] at hi
    rw [h.dt.1] at hj
    have a1 := h.ds.2 i hi
    have b1 := h.dt.2 j hj
    have a2 := h'.ds.2 i (by omega)
    have b2 := h'.dt.2 j (by omega)
    have := e' i j (by omega) (by omega) (by rw [left_iff, ea i hi]; omega) (by rw [left_iff, eb j hj]; omega)
    rw [ea i hi, eb j hj] at this
    have := h.ab i j hi hj (by omega) (by omega)
    omega
  · omega
theorem side_snoc {l : List Order} {o : Order} (h : sideB l = true) (hl : l.length < 6) (ho : 0 ≤ o.fPrice ∧ o.fPrice ≤ 999 ∧ 1 ≤ o.fMany ∧ o.fMany ≤ 999) : sideB (l ++ [o]) = true := by
  unfold sideB at *
  rw [Bool.and_eq_true_iff] at h
  rw [Bool.and_eq_true_iff, List.all_append, h.1]
  simp; omega

/-- how many units are traded -/
def manyV (asks bids : List Order) : Int := if sideB asks && sideB bids then (trade asks bids).1.sum else -1
theorem sum_pos {l : List Order} {s : List Int} (h : Done l s) : 0 ≤ s.sum := by
  by_cases hlt : s.sum < 0
  · exfalso
    obtain ⟨i, hi, _⟩ := sum_less 0 s [] rfl (by omega) (fun i hi => (h.2 i (by rw [← h.1]; exact hi)).1) (by simpa using hlt)
    omega
  · omega
theorem many_law (asks bids : List Order) : (manyV asks bids = -1 ∧ ¬ (sideB asks = true ∧ sideB bids = true)) ∨ (0 ≤ manyV asks bids ∧ sideB asks = true ∧ sideB bids = true) := by
  unfold manyV
  cases ha : sideB asks with
  | false => exact .inl ⟨rfl, by simp⟩
  | true =>
    cases hb : sideB bids with
    | false => exact .inl ⟨rfl, by simp⟩
    | true => exact .inr ⟨sum_pos (trade_inv ha hb).ds, rfl, rfl⟩
theorem many_more_ask {asks bids : List Order} {o : Order} (ha : sideB asks = true) (hb : sideB bids = true) (hl : asks.length < 6) (ho : 0 ≤ o.fPrice ∧ o.fPrice ≤ 999 ∧ 1 ≤ o.fMany ∧ o.fMany ≤ 999) : manyV asks bids ≤ manyV (asks ++ [o]) bids := by
  have ha' := side_snoc ha hl ho
  unfold manyV
  rw [ha, hb, ha']
  exact trade_more ha hb ha' hb (by simp) (Nat.le_refl _) (fun i hi => oAt_append hi) (fun i hi => rfl)
theorem many_more_bid {asks bids : List Order} {o : Order} (ha : sideB asks = true) (hb : sideB bids = true) (hl : bids.length < 6) (ho : 0 ≤ o.fPrice ∧ o.fPrice ≤ 999 ∧ 1 ≤ o.fMany ∧ o.fMany ≤ 999) : manyV asks bids ≤ manyV asks (bids ++ [o]) := by
  have hb' := side_snoc hb hl ho
  unfold manyV
  rw [ha, hb, hb']
  exact trade_more ha hb ha hb' (Nat.le_refl _) (by simp) (fun i hi => rfl) (fun i hi => oAt_append hi)

/-- the greatest price of the first k orders of which some units are traded; -1 for none -/
def priceTo (l : List Order) (s : List Int) : Nat → Int
  | 0 => -1
  | k + 1 => if 0 < dAt s k then max (priceTo l s k) (oAt l k).fPrice else priceTo l s k
def priceV (asks bids : List Order) : Int := priceTo asks (tradeV asks bids).1 (tradeV asks bids).1.length
theorem priceTo_spec (l : List Order) (s : List Int) : ∀ k, (∀ i, i < k → 0 < dAt s i → 0 ≤ (oAt l i).fPrice) → (priceTo l s k = -1 ∧ ∀ i, i < k → ¬ 0 < dAt s i) ∨ (∃ i, i < k ∧ 0 < dAt s i ∧ priceTo l s k = (oAt l i).fPrice) ∧ ∀ i, i < k → 0 < dAt s i → (oAt l i).fPrice ≤ priceTo l s k
  | 0, _ => .inl ⟨rfl, fun i hi => absurd hi (by omega)⟩
  | k + 1, hp => by
    have ih := priceTo_spec l s k (fun i hi => hp i (by omega))
    rw [priceTo]
    by_cases h : 0 < dAt s k
    · rw [if_pos h]
      right
      have h0 := hp k (by omega) h
      rcases ih with ⟨e, hn⟩ | ⟨⟨i, hi, hpi, e⟩, hall⟩
      · rw [e]
        refine ⟨⟨k, by omega, h, by omega⟩, fun i hi hpi => ?_⟩
        by_cases ek : i = k
        · subst ek; omega
        · exact absurd hpi (hn i (by omega))
      · refine ⟨?_, fun j hj hpj => ?_⟩
        · rcases Int.le_total (priceTo l s k) (oAt l k).fPrice with hle | hle
          · exact ⟨k, by omega, h, by omega⟩
          · exact ⟨i, by omega, hpi, by omega⟩
        · by_cases ek : j = k
          · subst ek; omega
          · have := hall j (by omega) hpj; omega
    · rw [if_neg h]
      rcases ih with ⟨e, hn⟩ | ⟨⟨i, hi, hpi, e⟩, hall⟩
      · refine .inl ⟨e, fun i hi => ?_⟩
        by_cases ek : i = k
        · subst ek; exact h
        · exact hn i (by omega)
      · refine .inr ⟨⟨i, by omega, hpi, e⟩, fun j hj hpj => ?_⟩
        by_cases ek : j = k
        · subst ek; exact absurd hpj h
        · exact hall j (by omega) hpj
theorem priceTo_range (l : List Order) (s : List Int) : ∀ k, (∀ i, i < k → 0 ≤ (oAt l i).fPrice ∧ (oAt l i).fPrice ≤ 999) → -1 ≤ priceTo l s k ∧ priceTo l s k ≤ 999
  | 0, _ => by simp [priceTo]
  | k + 1, h => by
    have ih := priceTo_range l s k (fun i hi => h i (by omega))
    have := h k (by omega)
    rw [priceTo]; split <;> omega
theorem sum_none : ∀ (s : List Int), (∀ i, i < s.length → dAt s i = 0) → s.sum = 0
  | [], _ => rfl
  | x :: s, h => by
    have a := h 0 (by simp)
    have b := sum_none s fun i hi => by have := h (i + 1) (by simpa using hi); simpa [dAt] using this
    simp [dAt] at a
    rw [List.sum_cons]; omega
theorem tradeV_ok {asks bids : List Order} (ha : sideB asks = true) (hb : sideB bids = true) : tradeV asks bids = trade asks bids := by rw [tradeV, ha, hb]; rfl
theorem tradeV_no {asks bids : List Order} (h : ¬ (sideB asks = true ∧ sideB bids = true)) : tradeV asks bids = ([], []) := by
  rw [tradeV, if_neg (by simpa using h)]
/-- the price suits all who trade -/
theorem price_law (asks bids : List Order) : (priceV asks bids = -1 ∧ (tradeV asks bids).1.sum = 0) ∨
    (0 ≤ priceV asks bids ∧ sideB asks = true ∧ sideB bids = true ∧ (tradeV asks bids).1.length = asks.length ∧ (tradeV asks bids).2.length = bids.length ∧
      (∀ a, a < asks.length → (0 < dAt (tradeV asks bids).1 a → (oAt asks a).fPrice ≤ priceV asks bids) ∧ ((oAt asks a).fPrice < priceV asks bids → (oAt asks a).fMany ≤ dAt (tradeV asks bids).1 a)) ∧
      (∀ b, b < bids.length → 0 < dAt (tradeV asks bids).2 b → priceV asks bids ≤ (oAt bids b).fPrice) ∧
      (∀ a b, a < asks.length → b < bids.length → dAt (tradeV asks bids).1 a < (oAt asks a).fMany → dAt (tradeV asks bids).2 b < (oAt bids b).fMany → (oAt bids b).fPrice < (oAt asks a).fPrice)) := by
  by_cases hv : sideB asks = true ∧ sideB bids = true
  case neg => exact .inl (by unfold priceV; rw [tradeV_no hv]; exact ⟨rfl, rfl⟩)
  obtain ⟨ha, hb⟩ := hv
  have h := trade_inv ha hb
  have he := trade_end ha hb
  unfold priceV
  rw [tradeV_ok ha hb]
  generalize trade asks bids = T at *
  obtain ⟨s, t⟩ := T
  simp only at *
  have hp : ∀ i, i < s.length → 0 < dAt s i → 0 ≤ (oAt asks i).fPrice := fun i hi _ => (side_at ha (by rw [← h.ds.1]; exact hi)).1
  rcases priceTo_spec asks s s.length hp with ⟨e, hn⟩ | ⟨⟨i, hi, hpi, e⟩, hall⟩
  · refine .inl ⟨e, sum_none s fun i hi => ?_⟩
    have h1 := hn i hi
    have h2 := (h.ds.2 i (by rw [← h.ds.1]; exact hi)).1
    omega
  · right
    have hi' : i < asks.length := by rw [← h.ds.1]; exact hi
    refine ⟨by rw [e]; exact hp i hi hpi, ha, hb, h.ds.1, h.dt.1, fun a hla => ⟨fun hpa => hall a (by rw [h.ds.1]; exact hla) hpa, fun hlt => ?_⟩, fun b hlb hpb => ?_, fun a b hla hlb h1 h2 => he a b hla hlb (left_iff.2 h1) (left_iff.2 h2)⟩
    · rcases Int.lt_or_le (dAt s a) (oAt asks a).fMany with hl | hl
      · have := h.a1 i a hi' hla hpi (left_iff.2 hl)
        omega
      · exact hl
    · rw [e]; exact h.ab i b hi' hlb hpi hpb

/-- what the first k orders' units are worth -/
def worthTo (l : List Order) (s : List Int) : Nat → Int
  | 0 => 0
  | k + 1 => worthTo l s k + (oAt l k).fPrice * dAt s k
theorem worth_range {l : List Order} {s : List Int} (hv : sideB l = true) (h : Done l s) : ∀ k, k ≤ l.length → 0 ≤ worthTo l s k ∧ worthTo l s k ≤ 998001 * k
  | 0, _ => by simp [worthTo]
  | k + 1, hk => by
    have ih := worth_range hv h k (by omega)
    have h1 := side_at hv (k := k) (by omega)
    have h2 := h.2 k (by omega)
    have e1 : 0 ≤ (oAt l k).fPrice * dAt s k := Int.mul_nonneg h1.1 h2.1
    have e2 : (oAt l k).fPrice * dAt s k ≤ 999 * 999 := Int.mul_le_mul h1.2.1 (by omega) h2.1 (by omega)
    rw [worthTo]; omega
def gainV (asks bids : List Order) : Int := if sideB asks && sideB bids then worthTo bids (trade asks bids).2 bids.length - worthTo asks (trade asks bids).1 asks.length else -1
def sumTo (s : List Int) : Nat → Int
  | 0 => 0
  | k + 1 => sumTo s k + dAt s k
theorem sumTo_all : ∀ (s : List Int), sumTo s s.length = s.sum := by
  have key : ∀ (s : List Int) (k : Nat), k ≤ s.length → sumTo s k = (s.take k).sum := by
    intro s k
    induction k with
    | zero => intro _; simp [sumTo]
    | succ k ih =>
      intro hk
      rw [sumTo, ih (by omega), List.take_succ_eq_append_getElem (by omega), List.sum_append]
      simp [dAt, show k < s.length by omega]
  intro s
  rw [key s _ (Nat.le_refl _), List.take_of_length_le (Nat.le_refl _)]
theorem worth_le {l : List Order} {s : List Int} {P : Int} : ∀ k, (∀ i, i < k → 0 ≤ dAt s i) → (∀ i, i < k → 0 < dAt s i → (oAt l i).fPrice ≤ P) → worthTo l s k ≤ P * sumTo s k
  | 0, _, _ => by simp [worthTo, sumTo]
  | k + 1, h0, h => by
    have ih := worth_le k (fun i hi => h0 i (by omega)) (fun i hi => h i (by omega))
    have h1 := h0 k (by omega)
    rw [worthTo, sumTo, Int.mul_add]
    have : (oAt l k).fPrice * dAt s k ≤ P * dAt s k := by
      rcases Int.lt_or_le 0 (dAt s k) with hp | hp
      · exact Int.mul_le_mul_of_nonneg_right (h k (by omega) hp) h1
      · have : dAt s k = 0 := by omega
        rw [this]; simp
    omega
theorem worth_ge {l : List Order} {s : List Int} {P : Int} : ∀ k, (∀ i, i < k → 0 ≤ dAt s i) → (∀ i, i < k → 0 < dAt s i → P ≤ (oAt l i).fPrice) → P * sumTo s k ≤ worthTo l s k
  | 0, _, _ => by simp [worthTo, sumTo]
  | k + 1, h0, h => by
    have ih := worth_ge k (fun i hi => h0 i (by omega)) (fun i hi => h i (by omega))
    have h1 := h0 k (by omega)
    rw [worthTo, sumTo, Int.mul_add]
    have : P * dAt s k ≤ (oAt l k).fPrice * dAt s k := by
      rcases Int.lt_or_le 0 (dAt s k) with hp | hp
      · exact Int.mul_le_mul_of_nonneg_right (h k (by omega) hp) h1
      · have : dAt s k = 0 := by omega
        rw [this]; simp
    omega
/-- no trades would gain more -/
theorem gain_law (asks bids : List Order) : (gainV asks bids = -1) ∨
    (0 ≤ gainV asks bids ∧ sideB asks = true ∧ sideB bids = true ∧ (tradeV asks bids).1.length = asks.length ∧ (tradeV asks bids).2.length = bids.length ∧
      (∀ a b, a < asks.length → b < bids.length → dAt (tradeV asks bids).1 a < (oAt asks a).fMany → dAt (tradeV asks bids).2 b < (oAt bids b).fMany → (oAt bids b).fPrice - (oAt asks a).fPrice ≤ 0) ∧
      (∀ a b, a < asks.length → b < bids.length → 0 < dAt (tradeV asks bids).1 a → 0 < dAt (tradeV asks bids).2 b → 0 ≤ (oAt bids b).fPrice - (oAt asks a).fPrice)) := by
  by_cases hv : sideB asks = true ∧ sideB bids = true
  case neg => exact .inl (by unfold gainV; rw [if_neg (by simpa using hv)])
  obtain ⟨ha, hb⟩ := hv
  have h := trade_inv ha hb
  have he := trade_end ha hb
  right
  have hg : gainV asks bids = worthTo bids (trade asks bids).2 bids.length - worthTo asks (trade asks bids).1 asks.length := by rw [gainV, ha, hb]; rfl
  rw [hg, tradeV_ok ha hb]
  generalize trade asks bids = T at *
  obtain ⟨s, t⟩ := T
  simp only at *
  have hp : ∀ i, i < s.length → 0 < dAt s i → 0 ≤ (oAt asks i).fPrice := fun i hi _ => (side_at ha (by rw [← h.ds.1]; exact hi)).1
  refine ⟨?_, ha, hb, h.ds.1, h.dt.1, fun a b hla hlb h1 h2 => by have := he a b hla hlb (left_iff.2 h1) (left_iff.2 h2); omega, fun a b hla hlb h1 h2 => by have := h.ab a b hla hlb h1 h2; omega⟩
  have e1 := sumTo_all s
  have e2 := sumTo_all t
  rw [h.ds.1] at e1
  rw [h.dt.1] at e2
  have hs := h.sum
  have b1 := worth_le (l := asks) (s := s) (P := priceTo asks s s.length) asks.length (fun i hi => (h.ds.2 i hi).1)
  have b2 := worth_ge (l := bids) (s := t) (P := priceTo asks s s.length) bids.length (fun i hi => (h.dt.2 i hi).1)
  rw [e1] at b1
  rw [e2, ← hs] at b2
  rcases priceTo_spec asks s s.length hp with ⟨e, hn⟩ | ⟨⟨i, hi, hpi, e⟩, hall⟩
  · have hz : ∀ i, i < s.length → dAt s i = 0 := fun i hi => by
      have h1 := hn i hi
      have h2 := (h.ds.2 i (by rw [← h.ds.1]; exact hi)).1
      omega
    have h0 := sum_none s hz
    have b1' := b1 (fun i hi hpi => absurd hpi (hn i (by rw [h.ds.1]; exact hi)))
    have b2' := (worth_range hb h.dt bids.length (Nat.le_refl _)).1
    rw [h0, Int.mul_zero] at b1'
    omega
  · have hi' : i < asks.length := by rw [← h.ds.1]; exact hi
    have b1' := b1 (fun j hj hpj => hall j (by rw [h.ds.1]; exact hj) hpj)
    have b2' := b2 (fun j hj hpj => by rw [e]; exact h.ab i j hi' hj hpi hpj)
    omega
/-- nobody who would trade is left -/
theorem trade_law (asks bids : List Order) : (tradeV asks bids = ([], []) ∧ ¬ (sideB asks = true ∧ sideB bids = true)) ∨
    (sideB asks = true ∧ sideB bids = true ∧ (tradeV asks bids).1.length = asks.length ∧ (tradeV asks bids).2.length = bids.length ∧
      (∀ a, a < asks.length → 0 ≤ dAt (tradeV asks bids).1 a ∧ dAt (tradeV asks bids).1 a ≤ (oAt asks a).fMany) ∧
      (∀ b, b < bids.length → 0 ≤ dAt (tradeV asks bids).2 b ∧ dAt (tradeV asks bids).2 b ≤ (oAt bids b).fMany) ∧
      (∀ a b, a < asks.length → b < bids.length → dAt (tradeV asks bids).1 a < (oAt asks a).fMany → dAt (tradeV asks bids).2 b < (oAt bids b).fMany → (oAt bids b).fPrice < (oAt asks a).fPrice) ∧
      (tradeV asks bids).1.sum = (tradeV asks bids).2.sum) := by
  by_cases hv : sideB asks = true ∧ sideB bids = true
  case neg => exact .inl ⟨tradeV_no hv, hv⟩
  obtain ⟨ha, hb⟩ := hv
  have h := trade_inv ha hb
  have he := trade_end ha hb
  right
  rw [tradeV_ok ha hb]
  exact ⟨ha, hb, h.ds.1, h.dt.1, h.ds.2, h.dt.2, fun a b hla hlb h1 h2 => he a b hla hlb (left_iff.2 h1) (left_iff.2 h2), h.sum⟩
/-- the units are numbers that fit -/
theorem done_small {l : List Order} {s : List Int} (hv : sideB l = true) (hl : s.length = l.length) (h : ∀ a, a < l.length → 0 ≤ dAt s a ∧ dAt s a ≤ (oAt l a).fMany) : ∀ j, j < s.length → -1000000 ≤ s.getD j 0 ∧ s.getD j 0 ≤ 1000000 := by
  intro j hj
  have h1 := h j (by omega)
  have h2 := side_at hv (k := j) (by omega)
  simp only [dAt] at h1
  omega
end Go.Proofs.YtlhfkidgmdojjaaDoor
