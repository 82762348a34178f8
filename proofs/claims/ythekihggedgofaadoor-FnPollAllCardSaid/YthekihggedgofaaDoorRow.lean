/- Rows that the call owns, read and grown. No statement is proved here. -/
import Derived.Test.YthekihggedgofaaDoorLib
namespace Go.Proofs.YthekihggedgofaaDoor
open Go.RowKit

theorem rd_of_row {w : World} {base : Nat} {E : TypeId} {size n c : Nat} {A : Option Addr} {cs : List Value} (h : w.ownsRow base E size (.slice A n c) n cs) : Rd w A cs := by
  obtain ⟨A', c', e, ho⟩ := own_of_row h
  cases e
  exact ho.rd
theorem row_alloc_grown {w w1 : World} {base : Nat} {o : Obj} {v : Value} {E : TypeId} {size n : Nat} {cs : List Value} {w0 : World} (hb : Below w0.heap.size w0 w) (hbase : base = w0.heap.size) (hown : w.ownsRow base E size v n cs) (hg : (w.alloc o).grownBy w1 v.ownBlock) : Below w0.heap.size w0 w1 := by
  subst hbase
  refine (allocB hb o).grown hg (by have := hb.size; simp; omega) (fun k hk => ?_)
  rcases hown.2 with ⟨rfl, _⟩ | ⟨g, cap, cur, rfl, hge, _⟩
  · simp [Value.ownBlock] at hk
  · simp [Value.ownBlock] at hk; omega
theorem row_below {w w' : World} {base : Nat} {E : TypeId} {size n : Nat} {v : Value} {cs : List Value} (h : w.ownsRow base E size v n cs) (hb : Below w.heap.size w w') : w'.ownsRow base E size v n cs := by
  refine ⟨h.1, ?_⟩
  rcases h.2 with hn | ⟨g, cap, cur, rfl, hge, hg, rest⟩
  · exact .inl hn
  · have hlt : g < w.heap.size := by
      rcases Nat.lt_or_ge g w.heap.size with hlt | hge
      · exact hlt
      · rw [Array.getElem?_eq_none hge] at hg; cases hg
    exact .inr ⟨g, cap, cur, rfl, hge, (hb.block g hlt).trans hg, rest⟩
theorem wpList_app1g {P : Program} (w : World) {ops : Array Oper} {rest : List Oper} {o : Oper} {a : Act} {Q : Exit → Act → World → Prop} (hgd : o.guard = none) (s x : Operand) (t : TypeId)
    (ho : o.op = .call { callee := .builtin .append, args := #[s, x], argTypes := #[t, t] })
    (base : Nat) (e : TypeId) (i : TypeInfo) (z : Value) (size bytes : Nat) (ht : P.underlying t = some (.slice e)) (hinfo : P.info? e = some i ∧ i.zero = some z ∧ i.size = size ∧ i.bytes = bytes)
    (hzs : z.cells.size = size) (hsz : 0 < size)
    (v : Value) (n : Nat) (xs : List Value) (hs : a.eval s = v) (hown : w.ownsRow base e size v n xs)
    (news : Array Value) (G : Nat) (hG : G = w.heap.size) (hx : a.eval x = .slice (some ⟨G, 0, none⟩) 1 1) (hl : news.toList.length = 1 * size) (h1 : ∀ u ∈ news.toList, u.oneCell' = true)
    (hn : n ≤ 10000000) (hby : bytes ≤ 1000) (hbase : base ≤ w.heap.size)
    (hK : ∀ v' w', w'.ownsRow base e size v' (n + 1) (xs ++ news.toList) → (w.alloc (.cells news e)).grownBy w' v.ownBlock → wpList P ops Q rest (a.put o.dst v') w') : wpList P ops Q (o :: rest) a (w.alloc (.cells news e)) := by
  subst hG
  exact wpList_app1 w hgd s x t ho base e i z size bytes ht hinfo hzs hsz v n xs hs hown news hx hl h1 hn hby hbase hK
theorem ints_snoc (l : List Int) (x : Int) : ints (l ++ [x]) = ints l ++ [.int .i64 x] := by simp [ints]
theorem snoc_ints {w : World} {v : Value} {base : Nat} {E : TypeId} {acc l' : List Int} {x : Int} (h : w.ownsRow base E 1 v (acc.length + 1) (ints acc ++ [.int .i64 x])) (e : l' = acc ++ [x]) :
    ∃ B c, v = .slice B l'.length c ∧ w.ownsRow base E 1 (.slice B l'.length c) l'.length (ints l') := by
  subst e
  rw [← ints_snoc] at h
  obtain ⟨B, c, rfl, _⟩ := own_of_row h
  rw [List.length_append, List.length_singleton]
  exact ⟨B, c, rfl, h⟩
end Go.Proofs.YthekihggedgofaaDoor
