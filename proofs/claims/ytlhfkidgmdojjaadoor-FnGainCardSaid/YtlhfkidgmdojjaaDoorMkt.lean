/- Plain laws on markets: picking the next order, trading unit by unit, and what is then true. No program is in sight. -/
import Derived.Test.YtlhfkidgmdojjaaDoorStOrder
namespace Go.Proofs.YtlhfkidgmdojjaaDoor

abbrev oAt (l : List Order) (k : Nat) : Order := l.getD k Order.zero
abbrev dAt (d : List Int) (k : Nat) : Int := d.getD k 0
/-- are units of the order k left -/
def oLeft (l : List Order) (d : List Int) (k : Nat) : Bool := decide (dAt d k < (oAt l k).fMany)
/-- is the price at k better than at j: less for asks, greater for bids -/
def oBetter (l : List Order) (bids : Bool) (k j : Nat) : Bool :=
  if bids then decide ((oAt l j).fPrice < (oAt l k).fPrice) else decide ((oAt l k).fPrice < (oAt l j).fPrice)
/-- the pick among the first k orders; -1 for none -/
def pickTo (l : List Order) (d : List Int) (bids : Bool) : Nat → Int
  | 0 => -1
  | k + 1 => if oLeft l d k && (decide (pickTo l d bids k < 0) || oBetter l bids k (pickTo l d bids k).toNat) then k else pickTo l d bids k
def pick (l : List Order) (d : List Int) (bids : Bool) : Int := pickTo l d bids l.length

theorem better_irrefl (l : List Order) (b : Bool) (k : Nat) : oBetter l b k k = false := by unfold oBetter; split <;> simp
theorem better_asymm {l : List Order} {b : Bool} {k j : Nat} (h : oBetter l b k j = true) : oBetter l b j k = false := by
  unfold oBetter at *; split at h <;> simp_all <;> omega
theorem better_trans {l : List Order} {b : Bool} {i j k : Nat} (h : oBetter l b i j = true) (h' : oBetter l b j k = true) : oBetter l b i k = true := by
  unfold oBetter at *; cases b <;> simp_all <;> omega
theorem better_weak {l : List Order} {b : Bool} {i j k : Nat} (h : oBetter l b i j = true) (h' : oBetter l b k j = false) : oBetter l b i k = true := by
  unfold oBetter at *; cases b <;> simp_all <;> omega
theorem better_weak' {l : List Order} {b : Bool} {i j k : Nat} (h : oBetter l b j i = false) (h' : oBetter l b k j = false) : oBetter l b k i = false := by
  unfold oBetter at *; cases b <;> simp_all <;> omega

/-- j is the pick among the first n orders -/
def IsPick (l : List Order) (d : List Int) (b : Bool) (n j : Nat) : Prop :=
  j < n ∧ oLeft l d j = true ∧ (∀ i, i < n → oLeft l d i = true → oBetter l b i j = false) ∧ ∀ i, i < j → oLeft l d i = true → oBetter l b j i = true

theorem pickTo_spec (l : List Order) (d : List Int) (b : Bool) (k : Nat) :
    (pickTo l d b k = -1 ∧ ∀ i, i < k → oLeft l d i = false) ∨ ∃ j : Nat, pickTo l d b k = j ∧ IsPick l d b k j := by
  induction k with
  | zero => exact .inl ⟨rfl, fun i hi => absurd hi (by omega)⟩
  | succ k ih =>
    rw [pickTo]
    rcases ih with ⟨e, hn⟩ | ⟨j, e, hj, hl, hm, hf⟩
    · rw [e]
      cases hk : oLeft l d k with
      | true =>
        refine .inr ⟨k, by simp, by omega, hk, fun i hi hli => ?_, fun i hi hli => ?_⟩
        · rcases Nat.lt_or_ge i k with h | h
          · rw [hn i h] at hli; cases hli
          · have : i = k := by omega
            subst this; exact better_irrefl _ _ _
        · rw [hn i hi] at hli; cases hli
      | false =>
        refine .inl ⟨by simp, fun i hi => ?_⟩
        rcases Nat.lt_or_ge i k with h | h
        · exact hn i h
        · have : i = k := by omega
          subst this; exact hk
    · rw [e]
      have hneg : decide ((j : Int) < 0) = false := by simp
      rw [hneg, Bool.false_or, Int.toNat_natCast]
      cases hk : (oLeft l d k && oBetter l b k j) with
      | true =>
        have hk' := Bool.and_eq_true_iff.1 hk
        refine .inr ⟨k, by simp, by omega, hk'.1, fun i hi hli => ?_, fun i hi hli => ?_⟩
        · rcases Nat.lt_or_ge i k with h | h
          · have h1 := hm i h hli
            cases h2 : oBetter l b i k with
            | false => rfl
            | true => have := better_trans h2 hk'.2; rw [this] at h1; cases h1
          · have : i = k := by omega
            subst this; exact better_irrefl _ _ _
        · exact better_weak hk'.2 (hm i hi hli)
      | false =>
        refine .inr ⟨j, by simp, by omega, hl, fun i hi hli => ?_, hf⟩
        rcases Nat.lt_or_ge i k with h | h
        · exact hm i h hli
        · have : i = k := by omega
          subst this
          rw [hli, Bool.true_and] at hk; exact hk

theorem IsPick.unique {l : List Order} {d : List Int} {b : Bool} {n j j' : Nat} (h : IsPick l d b n j) (h' : IsPick l d b n j') : j = j' := by
  rcases Nat.lt_trichotomy j j' with hlt | he | hlt
  · have := h'.2.2.2 j hlt h.2.1
    rw [h.2.2.1 j' h'.1 h'.2.1] at this; cases this
  · exact he
  · have := h.2.2.2 j' hlt h'.2.1
    rw [h'.2.2.1 j h.1 h.2.1] at this; cases this
theorem pick_of {l : List Order} {d : List Int} {b : Bool} {j : Nat} (h : IsPick l d b l.length j) : pick l d b = j := by
  rcases pickTo_spec l d b l.length with ⟨_, hn⟩ | ⟨j', e, h'⟩
  · have := hn j h.1; rw [h.2.1] at this; cases this
  · rw [pick, e, h.unique h']
theorem pick_none {l : List Order} {d : List Int} {b : Bool} (h : ∀ i, i < l.length → oLeft l d i = false) : pick l d b = -1 := by
  rcases pickTo_spec l d b l.length with ⟨e, _⟩ | ⟨j', e, h'⟩
  · exact e
  · have := h j' h'.1; rw [h'.2.1] at this; cases this
theorem pick_cases (l : List Order) (d : List Int) (b : Bool) : (pick l d b = -1 ∧ ∀ i, i < l.length → oLeft l d i = false) ∨ ∃ j : Nat, pick l d b = j ∧ IsPick l d b l.length j := pickTo_spec l d b l.length
/-- the pick hangs on what is left alone -/
theorem pick_congr {l : List Order} {d d' : List Int} {b : Bool} (h : ∀ i, i < l.length → oLeft l d' i = oLeft l d i) : pick l d' b = pick l d b := by
  rcases pick_cases l d b with ⟨e, hn⟩ | ⟨j, e, hj, hl, hm, hf⟩
  · rw [e]; exact pick_none fun i hi => by rw [h i hi]; exact hn i hi
  · rw [e]; exact pick_of ⟨hj, by rw [h j hj]; exact hl, fun i hi hli => hm i hi (by rw [← h i hi]; exact hli), fun i hi hli => hf i hi (by rw [← h i (by omega)]; exact hli)⟩

/-- the orders with units left, the best one first -/
def LowInv (l : List Order) (d : List Int) (b : Bool) (low : List Nat) : Prop :=
  (∀ i, i ∈ low ↔ i < l.length ∧ oLeft l d i = true) ∧ low.Pairwise fun i j => oBetter l b i j = true ∨ (oBetter l b j i = false ∧ i < j)
theorem LowInv.head {l : List Order} {d : List Int} {b : Bool} {a : Nat} {rest : List Nat} (h : LowInv l d b (a :: rest)) : IsPick l d b l.length a := by
  obtain ⟨hm, hp⟩ := h
  rw [List.pairwise_cons] at hp
  have ha := (hm a).1 (by simp)
  refine ⟨ha.1, ha.2, fun i hi hli => ?_, fun i hi hli => ?_⟩
  · have : i ∈ a :: rest := (hm i).2 ⟨hi, hli⟩
    rcases List.mem_cons.1 this with rfl | hr
    · exact better_irrefl _ _ _
    · rcases hp.1 i hr with h1 | h1
      · exact better_asymm h1
      · exact h1.1
  · have : i ∈ a :: rest := (hm i).2 ⟨by omega, hli⟩
    rcases List.mem_cons.1 this with rfl | hr
    · omega
    · rcases hp.1 i hr with h1 | h1
      · exact h1
      · omega
theorem LowInv.nil {l : List Order} {d : List Int} {b : Bool} (h : LowInv l d b []) : pick l d b = -1 :=
  pick_none fun i hi => by
    cases hl : oLeft l d i with
    | false => rfl
    | true => have := (h.1 i).2 ⟨hi, hl⟩; simp at this

/-- trading unit by unit, with fuel -/
def tradeU (asks bids : List Order) : Nat → List Int → List Int → List Int × List Int
  | 0, s, t => (s, t)
  | f + 1, s, t =>
    if 0 ≤ pick asks s false ∧ 0 ≤ pick bids t true ∧ (oAt asks (pick asks s false).toNat).fPrice ≤ (oAt bids (pick bids t true).toNat).fPrice then
      tradeU asks bids f (s.set (pick asks s false).toNat (dAt s (pick asks s false).toNat + 1)) (t.set (pick bids t true).toNat (dAt t (pick bids t true).toNat + 1))
    else (s, t)

/-- as many numbers as orders, each between 0 and the order's units -/
def Done (l : List Order) (d : List Int) : Prop := d.length = l.length ∧ ∀ i, i < l.length → 0 ≤ dAt d i ∧ dAt d i ≤ (oAt l i).fMany
def units (l : List Order) : Int := (l.map (·.fMany)).sum

theorem sum_set (s : List Int) (a : Nat) (v : Int) (h : a < s.length) : (s.set a v).sum = s.sum - dAt s a + v := by
  induction s generalizing a with
  | nil => simp at h
  | cons x xs ih =>
    cases a with
    | zero => simp [dAt]; omega
    | succ a =>
      have := ih a (by simpa using h)
      simp only [List.set_cons_succ, List.sum_cons, this]
      simp [dAt]; omega
theorem dAt_set (s : List Int) (a i : Nat) (v : Int) (h : a < s.length) : dAt (s.set a v) i = if i = a then v else dAt s i := by
  unfold dAt
  simp only [List.getD_eq_getElem?_getD, List.getElem?_set]
  by_cases e : a = i
  · subst e; simp [h]
  · simp [e, Ne.symm e]
theorem sum_le : ∀ (l : List Order) (d : List Int), Done l d → d.sum ≤ units l ∧ (∀ i, i < l.length → d.sum - dAt d i ≤ units l - (oAt l i).fMany)
  | [], [], _ => ⟨by simp [units], fun i hi => absurd hi (by simp)⟩
  | [], x :: xs, h => by have := h.1; simp at this
  | x :: xs, [], h => by have := h.1; simp at this
  | o :: l, x :: d, h => by
    have h0 := h.2 0 (by simp)
    have hd : Done l d := ⟨by have := h.1; simpa using this, fun i hi => by have := h.2 (i + 1) (by simpa using hi); simpa [dAt, oAt] using this⟩
    obtain ⟨a, b⟩ := sum_le l d hd
    simp [dAt, oAt] at h0
    refine ⟨by simp only [units, List.map_cons, List.sum_cons] at *; omega, fun i hi => ?_⟩
    cases i with
    | zero => simp only [units, List.map_cons, List.sum_cons, dAt, oAt, List.getD_cons_zero] at *; omega
    | succ i =>
      have := b i (by simpa using hi)
      simp only [units, List.map_cons, List.sum_cons, dAt, oAt, List.getD_cons_succ] at *; omega
theorem left_set {l : List Order} {d : List Int} {a i : Nat} {v : Int} (ha : a < d.length) (h : decide (v < (oAt l a).fMany) = oLeft l d a) : oLeft l (d.set a v) i = oLeft l d i := by
  unfold oLeft
  rw [dAt_set d a i v ha]
  by_cases e : i = a
  · subst e; rw [if_pos rfl]; exact h
  · rw [if_neg e]
theorem set_same (d : List Int) (a : Nat) (_h : a < d.length) : d.set a (dAt d a) = d := by
  apply List.ext_getElem?
  intro i
  rw [List.getElem?_set]
  by_cases e : a = i
  · subst e; simp [dAt, _h]
  · simp [e]
theorem Done.set {l : List Order} {d : List Int} (h : Done l d) {a : Nat} (ha : a < l.length) {v : Int} (h0 : 0 ≤ v) (h1 : v ≤ (oAt l a).fMany) : Done l (d.set a v) := by
  refine ⟨by simpa using h.1, fun i hi => ?_⟩
  rw [dAt_set d a i v (by rw [h.1]; exact ha)]
  by_cases e : i = a
  · subst e; rw [if_pos rfl]; exact ⟨h0, h1⟩
  · rw [if_neg e]; exact h.2 i hi
theorem left_iff {l : List Order} {d : List Int} {k : Nat} : oLeft l d k = true ↔ dAt d k < (oAt l k).fMany := by simp [oLeft]

theorem IsPick.congr {l : List Order} {d d' : List Int} {b : Bool} {n j : Nat} (h : IsPick l d b n j) (e : ∀ i, oLeft l d' i = oLeft l d i) : IsPick l d' b n j :=
  ⟨h.1, by rw [e]; exact h.2.1, fun i hi hl => h.2.2.1 i hi (by rw [← e]; exact hl), fun i hi hl => h.2.2.2 i hi (by rw [← e]; exact hl)⟩

theorem tradeU_step {asks bids : List Order} {s t : List Int} {a b : Nat} (f : Nat) (ha : IsPick asks s false asks.length a) (hb : IsPick bids t true bids.length b) (hp : (oAt asks a).fPrice ≤ (oAt bids b).fPrice) :
    tradeU asks bids (f + 1) s t = tradeU asks bids f (s.set a (dAt s a + 1)) (t.set b (dAt t b + 1)) := by
  rw [tradeU, pick_of ha, pick_of hb]
  simp only [Int.toNat_natCast]
  rw [if_pos ⟨by omega, by omega, hp⟩]
/-- many units at once -/
theorem tradeU_units {asks bids : List Order} (f : Nat) : ∀ (m : Nat) (s t : List Int) (a b : Nat), Done asks s → Done bids t → IsPick asks s false asks.length a → IsPick bids t true bids.length b →
    (oAt asks a).fPrice ≤ (oAt bids b).fPrice → dAt s a + m ≤ (oAt asks a).fMany → dAt t b + m ≤ (oAt bids b).fMany →
    tradeU asks bids (f + m) s t = tradeU asks bids f (s.set a (dAt s a + m)) (t.set b (dAt t b + m)) := by
  intro m
  induction m with
  | zero =>
    intro s t a b hs ht ha hb _ _ _
    simp only [Nat.add_zero, Int.natCast_zero, Int.add_zero]
    rw [set_same s a (by rw [hs.1]; exact ha.1), set_same t b (by rw [ht.1]; exact hb.1)]
  | succ m ih =>
    intro s t a b hs ht ha hb hp h1 h2
    have hla := left_iff.1 ha.2.1
    have hlb := left_iff.1 hb.2.1
    have has : a < s.length := by rw [hs.1]; exact ha.1
    have hbt : b < t.length := by rw [ht.1]; exact hb.1
    rw [← Nat.add_assoc, tradeU_step (f + m) ha hb hp]
    have ea : dAt (s.set a (dAt s a + 1)) a = dAt s a + 1 := by rw [dAt_set s a a _ has, if_pos rfl]
    have eb : dAt (t.set b (dAt t b + 1)) b = dAt t b + 1 := by rw [dAt_set t b b _ hbt, if_pos rfl]
    have ds := hs.set ha.1 (v := dAt s a + 1) (by have := (hs.2 a ha.1).1; omega) (by omega)
    have dt := ht.set hb.1 (v := dAt t b + 1) (by have := (ht.2 b hb.1).1; omega) (by omega)
    rcases Nat.eq_zero_or_pos m with h0 | h0
    · subst h0; simp
    · have la : ∀ i, oLeft asks (s.set a (dAt s a + 1)) i = oLeft asks s i := fun i => left_set has (by rw [ha.2.1]; exact decide_eq_true (by omega))
      have lb : ∀ i, oLeft bids (t.set b (dAt t b + 1)) i = oLeft bids t i := fun i => left_set hbt (by rw [hb.2.1]; exact decide_eq_true (by omega))
      rw [ih _ _ a b ds dt (ha.congr la) (hb.congr lb) hp (by rw [ea]; omega) (by rw [eb]; omega), ea, eb, List.set_set, List.set_set]
      rw [show dAt s a + 1 + (m : Int) = dAt s a + ((m + 1 : Nat) : Int) by omega, show dAt t b + 1 + (m : Int) = dAt t b + ((m + 1 : Nat) : Int) by omega]
theorem tradeU_stop {asks bids : List Order} {s t : List Int} (f : Nat) (h : ¬ (0 ≤ pick asks s false ∧ 0 ≤ pick bids t true ∧ (oAt asks (pick asks s false).toNat).fPrice ≤ (oAt bids (pick bids t true).toNat).fPrice)) : tradeU asks bids f s t = (s, t) := by
  cases f with
  | zero => rfl
  | succ f => rw [tradeU, if_neg h]

/-- what is true all along -/
structure TInv (asks bids : List Order) (s t : List Int) : Prop where
  ds : Done asks s
  dt : Done bids t
  sum : s.sum = t.sum
  a1 : ∀ i j, i < asks.length → j < asks.length → 0 < dAt s i → oLeft asks s j = true → (oAt asks i).fPrice ≤ (oAt asks j).fPrice
  b1 : ∀ i j, i < bids.length → j < bids.length → 0 < dAt t i → oLeft bids t j = true → (oAt bids j).fPrice ≤ (oAt bids i).fPrice
  ab : ∀ i j, i < asks.length → j < bids.length → 0 < dAt s i → 0 < dAt t j → (oAt asks i).fPrice ≤ (oAt bids j).fPrice

theorem pick_price_ask {l : List Order} {d : List Int} {j i : Nat} (h : IsPick l d false l.length j) (hi : i < l.length) (hl : oLeft l d i = true) : (oAt l j).fPrice ≤ (oAt l i).fPrice := by
  have := h.2.2.1 i hi hl
  rw [oBetter] at this
  have := of_decide_eq_false this
  omega
theorem pick_price_bid {l : List Order} {d : List Int} {j i : Nat} (h : IsPick l d true l.length j) (hi : i < l.length) (hl : oLeft l d i = true) : (oAt l i).fPrice ≤ (oAt l j).fPrice := by
  have := h.2.2.1 i hi hl
  rw [oBetter] at this
  have := of_decide_eq_false this
  omega
theorem left_less {l : List Order} {d : List Int} {a i : Nat} {v : Int} (ha : a < d.length) (hv : dAt d a ≤ v) (h : oLeft l (d.set a v) i = true) : oLeft l d i = true := by
  rw [left_iff] at h ⊢
  rw [dAt_set d a i v ha] at h
  by_cases e : i = a
  · subst e; rw [if_pos rfl] at h; omega
  · rw [if_neg e] at h; exact h

theorem TInv.step {asks bids : List Order} {s t : List Int} {a b : Nat} (h : TInv asks bids s t) (ha : IsPick asks s false asks.length a) (hb : IsPick bids t true bids.length b) (hp : (oAt asks a).fPrice ≤ (oAt bids b).fPrice) :
    TInv asks bids (s.set a (dAt s a + 1)) (t.set b (dAt t b + 1)) := by
  have hla := left_iff.1 ha.2.1
  have hlb := left_iff.1 hb.2.1
  have has : a < s.length := by rw [h.ds.1]; exact ha.1
  have hbt : b < t.length := by rw [h.dt.1]; exact hb.1
  have h0a := (h.ds.2 a ha.1).1
  have h0b := (h.dt.2 b hb.1).1
  have posA : ∀ i, 0 < dAt (s.set a (dAt s a + 1)) i → i = a ∨ 0 < dAt s i := fun i hi => by
    rw [dAt_set s a i _ has] at hi
    by_cases e : i = a
    · exact .inl e
    · rw [if_neg e] at hi; exact .inr hi
  have posB : ∀ i, 0 < dAt (t.set b (dAt t b + 1)) i → i = b ∨ 0 < dAt t i := fun i hi => by
    rw [dAt_set t b i _ hbt] at hi
    by_cases e : i = b
    · exact .inl e
    · rw [if_neg e] at hi; exact .inr hi
  refine ⟨h.ds.set ha.1 (by omega) (by omega), h.dt.set hb.1 (by omega) (by omega), ?_, ?_, ?_, ?_⟩
  · rw [sum_set s a _ has, sum_set t b _ hbt, h.sum]; omega
  · intro i j hi hj hpi hlj
    have hlj' := left_less has (by omega) hlj
    rcases posA i hpi with e | e
    · rw [e]; exact pick_price_ask ha hj hlj'
    · exact h.a1 i j hi hj e hlj'
  · intro i j hi hj hpi hlj
    have hlj' := left_less hbt (by omega) hlj
    rcases posB i hpi with e | e
    · rw [e]; exact pick_price_bid hb hj hlj'
    · exact h.b1 i j hi hj e hlj'
  · intro i j hi hj hpi hpj
    rcases posA i hpi with e | e <;> rcases posB j hpj with e' | e'
    · rw [e, e']; exact hp
    · rw [e]; have := h.b1 j b hj hb.1 e' hb.2.1; omega
    · rw [e']; have := h.a1 i a hi ha.1 e ha.2.1; omega
    · exact h.ab i j hi hj e e'

theorem tradeU_inv {asks bids : List Order} (f : Nat) : ∀ s t, TInv asks bids s t → TInv asks bids (tradeU asks bids f s t).1 (tradeU asks bids f s t).2 := by
  induction f with
  | zero => intro s t h; exact h
  | succ f ih =>
    intro s t h
    rcases pick_cases asks s false with ⟨ea, _⟩ | ⟨a, ea, ha⟩
    · rw [tradeU_stop _ (by rw [ea]; omega)]; exact h
    · rcases pick_cases bids t true with ⟨eb, _⟩ | ⟨b, eb, hb⟩
      · rw [tradeU_stop _ (by rw [eb]; omega)]; exact h
      · by_cases hp : (oAt asks a).fPrice ≤ (oAt bids b).fPrice
        · rw [tradeU_step f ha hb hp]; exact ih _ _ (h.step ha hb hp)
        · rw [tradeU_stop _ (by rw [ea, eb]; simpa using hp)]; exact h

/-- nothing more can be traded -/
def TEnd (asks bids : List Order) (s t : List Int) : Prop := ∀ i j, i < asks.length → j < bids.length → oLeft asks s i = true → oLeft bids t j = true → (oAt bids j).fPrice < (oAt asks i).fPrice
theorem tend_of {asks bids : List Order} {s t : List Int} (h : ¬ (0 ≤ pick asks s false ∧ 0 ≤ pick bids t true ∧ (oAt asks (pick asks s false).toNat).fPrice ≤ (oAt bids (pick bids t true).toNat).fPrice)) : TEnd asks bids s t := by
  intro i j hi hj hl hl'
  rcases pick_cases asks s false with ⟨_, hn⟩ | ⟨a, ea, ha⟩
  · rw [hn i hi] at hl; cases hl
  · rcases pick_cases bids t true with ⟨_, hn⟩ | ⟨b, eb, hb⟩
    · rw [hn j hj] at hl'; cases hl'
    · rw [ea, eb] at h
      simp only [Int.toNat_natCast] at h
      have h1 := pick_price_ask ha hi hl
      have h2 := pick_price_bid hb hj hl'
      have : ¬ (oAt asks a).fPrice ≤ (oAt bids b).fPrice := fun e => h ⟨by omega, by omega, e⟩
      omega
theorem tradeU_end {asks bids : List Order} (f : Nat) : ∀ s t, TInv asks bids s t → units asks - s.sum ≤ f → TEnd asks bids (tradeU asks bids f s t).1 (tradeU asks bids f s t).2 := by
  induction f with
  | zero =>
    intro s t h hf
    refine tend_of ?_
    rintro ⟨h1, _⟩
    change 0 ≤ pick asks s false at h1
    rcases pick_cases asks s false with ⟨ea, _⟩ | ⟨a, ea, ha⟩
    · omega
    · have := (sum_le asks s h.ds).2 a ha.1
      have := left_iff.1 ha.2.1
      omega
  | succ f ih =>
    intro s t h hf
    rcases pick_cases asks s false with ⟨ea, _⟩ | ⟨a, ea, ha⟩
    · have hc : ¬ (0 ≤ pick asks s false ∧ 0 ≤ pick bids t true ∧ (oAt asks (pick asks s false).toNat).fPrice ≤ (oAt bids (pick bids t true).toNat).fPrice) := by rw [ea]; omega
      rw [tradeU_stop _ hc]; exact tend_of hc
    · rcases pick_cases bids t true with ⟨eb, _⟩ | ⟨b, eb, hb⟩
      · have hc : ¬ (0 ≤ pick asks s false ∧ 0 ≤ pick bids t true ∧ (oAt asks (pick asks s false).toNat).fPrice ≤ (oAt bids (pick bids t true).toNat).fPrice) := by rw [eb]; omega
        rw [tradeU_stop _ hc]; exact tend_of hc
      · by_cases hp : (oAt asks a).fPrice ≤ (oAt bids b).fPrice
        · rw [tradeU_step f ha hb hp]
          refine ih _ _ (h.step ha hb hp) ?_
          rw [sum_set s a _ (by rw [h.ds.1]; exact ha.1)]; omega
        · have hc : ¬ (0 ≤ pick asks s false ∧ 0 ≤ pick bids t true ∧ (oAt asks (pick asks s false).toNat).fPrice ≤ (oAt bids (pick bids t true).toNat).fPrice) := by rw [ea, eb]; simpa using hp
          rw [tradeU_stop _ hc]; exact tend_of hc

/-- the trade of two sides -/
def zeros (n : Nat) : List Int := List.replicate n 0
def trade (asks bids : List Order) : List Int × List Int := tradeU asks bids (units asks).toNat (zeros asks.length) (zeros bids.length)
def sideB (l : List Order) : Bool := l.all (fun o => decide (0 ≤ o.fPrice) && decide (o.fPrice ≤ 999) && (decide (1 ≤ o.fMany) && decide (o.fMany ≤ 999))) && decide (l.length ≤ 6)
theorem side_at {l : List Order} (h : sideB l = true) {k : Nat} (hk : k < l.length) : 0 ≤ (oAt l k).fPrice ∧ (oAt l k).fPrice ≤ 999 ∧ 1 ≤ (oAt l k).fMany ∧ (oAt l k).fMany ≤ 999 := by
  have := (Bool.and_eq_true_iff.1 h).1
  rw [List.all_eq_true] at this
  have := this _ (List.getElem_mem hk)
  simp only [Bool.and_eq_true, decide_eq_true_eq] at this
  simp only [oAt, List.getD_eq_getElem?_getD, List.getElem?_eq_getElem hk, Option.getD_some]
  omega
theorem side_len {l : List Order} (h : sideB l = true) : l.length ≤ 6 := by simpa using (Bool.and_eq_true_iff.1 h).2
theorem zeros_at (n i : Nat) : dAt (zeros n) i = 0 := by
  unfold dAt zeros
  rcases Nat.lt_or_ge i n with h | h
  · simp [h]
  · simp [h]
theorem done_zeros {l : List Order} (h : sideB l = true) : Done l (zeros l.length) := by
  refine ⟨by simp [zeros], fun i hi => ?_⟩
  have := side_at h hi
  rw [zeros_at]; omega
theorem tinv_zeros {asks bids : List Order} (ha : sideB asks = true) (hb : sideB bids = true) : TInv asks bids (zeros asks.length) (zeros bids.length) := by
  refine ⟨done_zeros ha, done_zeros hb, by simp [zeros], ?_, ?_, ?_⟩
  · intro i j _ _ h; rw [zeros_at] at h; omega
  · intro i j _ _ h; rw [zeros_at] at h; omega
  · intro i j _ _ h; rw [zeros_at] at h; omega
theorem trade_inv {asks bids : List Order} (ha : sideB asks = true) (hb : sideB bids = true) : TInv asks bids (trade asks bids).1 (trade asks bids).2 := tradeU_inv _ _ _ (tinv_zeros ha hb)
theorem units_nonneg {l : List Order} (h : sideB l = true) : 0 ≤ units l := by
  have := (sum_le l _ (done_zeros h)).1
  simpa [zeros] using this
theorem trade_end {asks bids : List Order} (ha : sideB asks = true) (hb : sideB bids = true) : TEnd asks bids (trade asks bids).1 (trade asks bids).2 := by
  refine tradeU_end _ _ _ (tinv_zeros ha hb) ?_
  have := units_nonneg ha
  have e : (zeros asks.length).sum = 0 := by simp [zeros]
  rw [e]; omega
end Go.Proofs.YtlhfkidgmdojjaaDoor
