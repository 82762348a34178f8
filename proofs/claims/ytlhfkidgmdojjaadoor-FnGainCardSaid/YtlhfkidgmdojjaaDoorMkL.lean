/- Plain laws on markets: what one round of the program's Trade does. No program is in sight. -/
import Derived.Test.YtlhfkidgmdojjaaDoorIns
namespace Go.Proofs.YtlhfkidgmdojjaaDoor

theorem low_zero {l : List Order} {b : Bool} {ys : List Nat} (hv : sideB l = true) (hp : ys.Pairwise (Rk l b)) (hm : ∀ k, k ∈ ys ↔ k < l.length) : LowInv l (zeros l.length) b ys := by
  refine ⟨fun i => ?_, hp⟩
  rw [hm i]
  constructor
  · intro h
    refine ⟨h, ?_⟩
    have := side_at hv h
    rw [left_iff, zeros_at]; omega
  · exact fun h => h.1
theorem low_self {l : List Order} {d : List Int} {b : Bool} {a : Nat} {rest : List Nat} (h : LowInv l d b (a :: rest)) : a ∉ rest := by
  intro ha
  have := (List.pairwise_cons.1 h.2).1 a ha
  rcases this with h1 | h1
  · rw [better_irrefl] at h1; cases h1
  · omega
theorem low_stay {l : List Order} {d : List Int} {b : Bool} {a : Nat} {rest : List Nat} {v : Int} (h : LowInv l d b (a :: rest)) (hl : d.length = l.length) (hv : v < (oAt l a).fMany) : LowInv l (d.set a v) b (a :: rest) := by
  have ha := (h.1 a).1 (by simp)
  refine ⟨fun i => ?_, h.2⟩
  rw [left_set (by omega) (by rw [ha.2]; exact decide_eq_true hv)]
  exact h.1 i
theorem low_next {l : List Order} {d : List Int} {b : Bool} {a : Nat} {rest : List Nat} {v : Int} (h : LowInv l d b (a :: rest)) (hl : d.length = l.length) (hv : v = (oAt l a).fMany) : LowInv l (d.set a v) b rest := by
  have ha := (h.1 a).1 (by simp)
  have hs := low_self h
  refine ⟨fun i => ?_, (List.pairwise_cons.1 h.2).2⟩
  by_cases e : i = a
  · subst e
    constructor
    · intro hi; exact absurd hi hs
    · rintro ⟨_, hi⟩
      rw [left_iff, dAt_set d i i v (by omega), if_pos rfl] at hi
      omega
  · have h1 := h.1 i
    have h2 : oLeft l (d.set a v) i = oLeft l d i := by unfold oLeft; rw [dAt_set d a i v (by omega), if_neg e]
    rw [h2, ← h1]
    simp [e]
/-- so many units at once -/
theorem round_units {asks bids : List Order} (ha : sideB asks = true) (hb : sideB bids = true) {f m : Nat} {s t : List Int} {a b : Nat} (hi : TInv asks bids s t) (he : tradeU asks bids f s t = trade asks bids) (pa : IsPick asks s false asks.length a) (pb : IsPick bids t true bids.length b)
    (hp : (oAt asks a).fPrice ≤ (oAt bids b).fPrice) (h1 : dAt s a + m ≤ (oAt asks a).fMany) (h2 : dAt t b + m ≤ (oAt bids b).fMany) :
    m ≤ f ∧ TInv asks bids (s.set a (dAt s a + m)) (t.set b (dAt t b + m)) ∧ tradeU asks bids (f - m) (s.set a (dAt s a + m)) (t.set b (dAt t b + m)) = trade asks bids := by
  have hle : m ≤ f := by
    rcases Nat.lt_or_ge f m with hlt | hge
    · exfalso
      have hu := tradeU_units (asks := asks) (bids := bids) 0 f s t a b hi.ds hi.dt pa pb hp (by omega) (by omega)
      rw [Nat.zero_add, he, tradeU] at hu
      have hte := trade_end ha hb
      rw [hu] at hte
      have has : a < s.length := by rw [hi.ds.1]; exact pa.1
      have hbt : b < t.length := by rw [hi.dt.1]; exact pb.1
      have := hte a b pa.1 pb.1 (by rw [left_iff, dAt_set _ _ _ _ has, if_pos rfl]; omega) (by rw [left_iff, dAt_set _ _ _ _ hbt, if_pos rfl]; omega)
      omega
    · exact hge
  refine ⟨hle, ?_, ?_⟩
  · have hu := tradeU_units (asks := asks) (bids := bids) 0 m s t a b hi.ds hi.dt pa pb hp h1 h2
    have := tradeU_inv (asks := asks) (bids := bids) (0 + m) s t hi
    rw [hu, tradeU] at this
    exact this
  · have hu := tradeU_units (asks := asks) (bids := bids) (f - m) m s t a b hi.ds hi.dt pa pb hp h1 h2
    rw [Nat.sub_add_cancel hle] at hu
    rw [← hu]; exact he
theorem low_stop {asks bids : List Order} {f : Nat} {s t : List Int} {lo hi : List Nat} (hl : LowInv asks s false lo) (hh : LowInv bids t true hi) (h : lo = [] ∨ hi = [] ∨ ∃ a ra b rb, lo = a :: ra ∧ hi = b :: rb ∧ (oAt bids b).fPrice < (oAt asks a).fPrice) : tradeU asks bids f s t = (s, t) := by
  refine tradeU_stop f ?_
  rcases h with rfl | rfl | ⟨a, ra, b, rb, rfl, rfl, h⟩
  · rw [hl.nil]; omega
  · rw [hh.nil]; omega
  · rw [pick_of hl.head, pick_of hh.head]
    simp only [Int.toNat_natCast]
    omega
end Go.Proofs.YtlhfkidgmdojjaaDoor
