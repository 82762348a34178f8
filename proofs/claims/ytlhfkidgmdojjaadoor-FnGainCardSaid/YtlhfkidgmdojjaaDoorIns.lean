/- Plain laws of the stable order of orders by their prices: one more is put in among those that are in order. No program, and no statement, is proved here. -/
import Derived.Test.YtlhfkidgmdojjaaDoorMkt
namespace Go.Proofs.YtlhfkidgmdojjaaDoor
open Go.RowKit

/-- i stands before j: its price is better, or as good and it is the first one -/
def Rk (l : List Order) (b : Bool) (i j : Nat) : Prop := oBetter l b i j = true ∨ (oBetter l b j i = false ∧ i < j)
theorem better_def (l : List Order) (b : Bool) (i j : Nat) : oBetter l b i j = true ↔ (if b then (oAt l j).fPrice < (oAt l i).fPrice else (oAt l i).fPrice < (oAt l j).fPrice) := by
  unfold oBetter; split <;> simp
theorem Rk.trans {l : List Order} {b : Bool} {i j k : Nat} (h : Rk l b i j) (h' : Rk l b j k) : Rk l b i k := by
  unfold Rk at *
  rw [← Bool.not_eq_true] at *
  simp only [better_def] at *
  cases b <;> simp at * <;> omega
/-- x has been put in behind P and ahead of Q -/
theorem ins_done {l : List Order} {b : Bool} {P Q : List Nat} {x : Nat} (hpq : (P ++ Q).Pairwise (Rk l b)) (hx : ∀ q ∈ Q, oBetter l b x q = true) (hp : ∀ p ∈ P, p < x) (hlast : P = [] ∨ ∃ P' p, P = P' ++ [p] ∧ oBetter l b x p = false) : (P ++ x :: Q).Pairwise (Rk l b) := by
  rw [List.pairwise_append] at hpq ⊢
  refine ⟨hpq.1, List.pairwise_cons.2 ⟨fun q hq => .inl (hx q hq), hpq.2.1⟩, fun p hp' y hy => ?_⟩
  rcases List.mem_cons.1 hy with rfl | hy
  · rcases hlast with rfl | ⟨P', p0, rfl, h0⟩
    · simp at hp'
    · have h1 : Rk l b p0 y := .inr ⟨h0, hp p0 (by simp)⟩
      rcases List.mem_append.1 hp' with hp' | hp'
      · have := (List.pairwise_append.1 hpq.1).2.2 p hp' p0 (by simp)
        exact this.trans h1
      · simp only [List.mem_singleton] at hp'; subst hp'; exact h1
  · exact hpq.2.2 p hp' y hy
theorem swap_at {α : Type} (P T : List α) (p x : α) : ((P ++ p :: x :: T).set (P.length + 1) p).set P.length x = P ++ x :: p :: T := by
  simp
def nats (ys : List Nat) : List Int := ys.map fun (i : Nat) => (i : Int)
theorem nats_length (ys : List Nat) : (nats ys).length = ys.length := by simp [nats]
theorem nats_getD (ys : List Nat) {k : Nat} (h : k < ys.length) : (nats ys).getD k 0 = (ys.getD k 0 : Nat) := by simp [nats, h]
theorem nats_set (ys : List Nat) (k v : Nat) : (nats ys).set k (v : Int) = nats (ys.set k v) := by simp [nats, List.map_set]
end Go.Proofs.YtlhfkidgmdojjaaDoor
