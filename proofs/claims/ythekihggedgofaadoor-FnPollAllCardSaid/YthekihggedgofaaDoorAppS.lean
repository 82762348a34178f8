/- append of several values onto a slice of the call's own, at a step of a region that draws its order. No statement is proved here. -/
import Derived.Test.YthekihggedgofaaDoorApp
import Derived.Deep.RegionHeld3
namespace Go.Proofs.YthekihggedgofaaDoor
open Go.RowKit

theorem step_appN {P : Program} (w : World) {ops : Array Oper} {o : Oper} {a : Act} {K : Act → World → Prop} {Q : Exit → Act → World → Prop} {E : Prop} (hw : Region.wanted o (yielded ops a.tmps) = true) (s x : Operand) (t : TypeId)
    (ho : o.op = .call { callee := .builtin .append, args := #[s, x], argTypes := #[t, t] })
    (base : Nat) (e : TypeId) (i : TypeInfo) (z : Value) (size bytes : Nat) (ht : P.underlying t = some (.slice e)) (hinfo : P.info? e = some i ∧ i.zero = some z ∧ i.size = size ∧ i.bytes = bytes)
    (hzs : z.cells.size = size) (hsz : 0 < size)
    (v : Value) (n : Nat) (xs : List Value) (hs : a.eval s = v) (hown : w.ownsRow base e size v n xs)
    (A : Option Addr) (m c : Nat) (news : List Value) (hx : a.eval x = .slice A m c) (hl : news.length = m * size) (hrd : Rd w A news) (hnil : A = none → m = 0 ∧ c = 0) (h1 : ∀ u ∈ news, u.oneCell' = true)
    (hn : n + m ≤ 10000000) (hby : bytes ≤ 1000) (hbase : base ≤ w.heap.size)
    (hK : ∀ v' w', w'.ownsRow base e size v' (n + m) (xs ++ news) → w.grownBy w' v.ownBlock → K (a.put o.dst v') w') : if Region.wanted o (yielded ops a.tmps) = true then Oper.wp P o a w K Q else E := by
  rw [if_pos hw]
  cases A with
  | none =>
    obtain ⟨rfl, rfl⟩ := hnil rfl
    have hne : news = [] := List.eq_nil_of_length_eq_zero (by simpa using hl)
    subst hne
    have hrun := run_append_owned_none (P := P) (w := w) base t o.type e i size ht hinfo.1 v n xs hown
    unfold Oper.wp
    simp [execOp, ho, resolve, invoke, builtin, hs, hx, hrun, Result.andThen]
    exact hK v w (by simpa using hown) (World.grownBy.refl _ _)
  | some ad =>
    refine wp_append_own w s x t ho base e i z size bytes ht hinfo.1 hinfo.2.1 hinfo.2.2.1 hinfo.2.2.2 hzs hsz v n xs hs hown ad m c news hx hl ?_ h1 (by unfold maxLen; omega) ?_ hbase fun v' w' h2 h3 _ => hK v' w' h2 h3
    · intro j u hu
      have hj : 0 < news.length := by
        rcases Nat.eq_zero_or_pos news.length with h | h
        · rw [List.eq_nil_of_length_eq_zero h] at hu; simp at hu
        · exact h
      obtain ⟨b, o', e, _, hc⟩ := hrd hj
      cases e
      have hadd : (⟨b, o', none⟩ : Addr).add j = ⟨b, o' + j, none⟩ := by unfold Addr.add; split <;> simp_all
      rw [hadd]; exact hc j u hu
    · have : (n + m) * bytes ≤ 10000000 * 1000 := Nat.mul_le_mul hn hby
      omega
end Go.Proofs.YthekihggedgofaaDoor
