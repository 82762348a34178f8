/- copy at elements of several cells, onto a row that is known whole. No statement is proved here. -/
import Derived.Laws.CopyOwn
import Derived.Lib.AppendZerosOnto
import Derived.Lib.Overlaps
import Derived.Test.YtdlphgknplomkaaDoorLib
namespace Go.Proofs.YtdlphgknplomkaaDoor
open Go.RowKit

theorem run_copy_rowN {P : Program} (w : World) (dT sT ty elem : TypeId) (size k g o dLen dCap : Nat) (a : Addr) (sLen sCap : Nat) (cur : Array Value) (t : TypeId) (cs : List Value)
    (hu : P.underlying dT = some (.slice elem)) (hs : (P.info? elem).map (·.size) = some size)
    (hg : w.heap[g]? = some (.cells cur t (0, 0))) (hk : Nat.min sLen dLen = k) (hn : cs.length = k * size)
    (hsrc : ∀ j v, cs[j]? = some v → w.cell? (a.add j) = some v) (hfit : o + cs.length ≤ cur.size) (h1 : ∀ v ∈ cs, v.oneCell' = true) :
    (Builtin.copy_ #[dT, sT] ty #[.slice (some ⟨g, o, none⟩) dLen dCap, .slice (some a) sLen sCap]).run P w =
      .ok (goInt k) (w.setRow g (cur.toList.take o ++ cs ++ cur.toList.drop (o + cs.length)).toArray) := by
  have hl := run_loadCells_list (P := P) w a cs hsrc
  have hst := run_storeCells_at P g o t cs 0 cur w hg (by simpa using hfit) h1
  cases hq : P.info? elem with
  | none => simp [hq] at hs
  | some i =>
    have hi : i.size = size := by simpa [hq] using hs
    simp [Builtin.copy_, run_underlying hu, Builtin.lenOf, Builtin.firstCells, sizeOf, typeInfo, hq, hi, hk, ← hn, hl, hst]

theorem wpList_copy_spliceN {P : Program} {w : World} {ops : Array Oper} {rest : List Oper} {o : Oper} {a : Act} {Q : Exit → Act → World → Prop} (hgd : o.guard = none) (d s : Operand) (dT sT : TypeId)
    (ho : o.op = .call { callee := .builtin .copy, args := #[d, s], argTypes := #[dT, sT] }) (elem : TypeId) (size k : Nat) (hu : P.underlying dT = some (.slice elem)) (hsz : (P.info? elem).map (·.size) = some size)
    (g off dLen dCap : Nat) (ad : Addr) (sLen sCap : Nat) (hd : a.eval d = .slice (some ⟨g, off, none⟩) dLen dCap) (hs : a.eval s = .slice (some ad) sLen sCap)
    (cur : List Value) (t : TypeId) (hg : w.heap[g]? = some (.cells cur.toArray t (0, 0))) (cs : List Value) (hk : Nat.min sLen dLen = k) (hn : cs.length = k * size)
    (hsrc : ∀ j v, cs[j]? = some v → w.cell? (ad.add j) = some v)
    (hfit : off + cs.length ≤ cur.length) (h1 : ∀ v ∈ cs, v.oneCell' = true) (B : Nat) (w0 : World) (hb : Below B w0 w) (hBg : B ≤ g)
    (h : ∀ w', Hid (w'.heap[g]? = some (.cells (splice cur off cs).toArray t (0, 0))) → Below B w0 w' → Hid (∀ k, k ≠ g → w'.heap[k]? = w.heap[k]?) → wpList P ops Q rest (a.put o.dst (goInt k)) w') :
    wpList P ops Q (o :: rest) a w := by
  refine wpList_plain hgd fun K hK => ?_
  have hrun := run_copy_rowN (P := P) w dT sT o.type elem size k g off dLen dCap ad sLen sCap cur.toArray t cs hu hsz hg hk hn hsrc (by simpa using hfit) h1
  unfold Oper.wp
  simp [execOp, ho, resolve, invoke, builtin, hd, hs, hrun, Result.andThen]
  exact hK _ _ (h _ (show _ = _ by simpa [splice] using setRow_heap w g _ _ t _ hg) (below_setRow hb hBg _) (fun k hk => setRow_other w g k _ (by omega)))

theorem step_copy_spliceN {P : Program} {ops : Array Oper} {o : Oper} {a : Act} {w : World} {K : Act → World → Prop} {Q : Exit → Act → World → Prop} {E : Prop} (hgd : o.guard = none) (d s : Operand) (dT sT : TypeId)
    (ho : o.op = .call { callee := .builtin .copy, args := #[d, s], argTypes := #[dT, sT] }) (elem : TypeId) (size k : Nat) (hu : P.underlying dT = some (.slice elem)) (hsz : (P.info? elem).map (·.size) = some size)
    (g off dLen dCap : Nat) (ad : Addr) (sLen sCap : Nat) (hd : a.eval d = .slice (some ⟨g, off, none⟩) dLen dCap) (hs : a.eval s = .slice (some ad) sLen sCap)
    (cur : List Value) (t : TypeId) (hg : w.heap[g]? = some (.cells cur.toArray t (0, 0))) (cs : List Value) (hk : Nat.min sLen dLen = k) (hn : cs.length = k * size)
    (hsrc : ∀ j v, cs[j]? = some v → w.cell? (ad.add j) = some v)
    (hfit : off + cs.length ≤ cur.length) (h1 : ∀ v ∈ cs, v.oneCell' = true) (B : Nat) (w0 : World) (hb : Below B w0 w) (hBg : B ≤ g)
    (h : ∀ w', Hid (w'.heap[g]? = some (.cells (splice cur off cs).toArray t (0, 0))) → Below B w0 w' → Hid (∀ k, k ≠ g → w'.heap[k]? = w.heap[k]?) → K (a.put o.dst (goInt k)) w') :
    if Region.wanted o (yielded ops a.tmps) = true then Oper.wp P o a w K Q else E := by
  have hw : Region.wanted o (yielded ops a.tmps) = true := by simp [Region.wanted, hgd]
  rw [if_pos hw]
  have hrun := run_copy_rowN (P := P) w dT sT o.type elem size k g off dLen dCap ad sLen sCap cur.toArray t cs hu hsz hg hk hn hsrc (by simpa using hfit) h1
  unfold Oper.wp
  simp [execOp, ho, resolve, invoke, builtin, hd, hs, hrun, Result.andThen]
  exact h _ (show _ = _ by simpa [splice] using setRow_heap w g _ _ t _ hg) (below_setRow hb hBg _) (fun k hk => setRow_other w g k _ (by omega))
/-- putting a value in: what stands from the place on first, then the value -/
theorem splice_room {α : Type} (X Y e Z : List α) (off m : Nat) (hoff : off = X.length) (hm : m = e.length) (hZ : e.length ≤ Z.length) :
    splice (splice (X ++ (Y ++ Z)) (off + m) Y) off e = X ++ (e ++ Y) ++ Z.drop e.length := by
  subst hoff; subst hm
  have h1 : splice (X ++ (Y ++ Z)) (X.length + e.length) Y = (X ++ (Y ++ Z)).take (X.length + e.length) ++ (Y ++ Z.drop e.length) := by
    unfold splice
    congr 2
    rw [List.drop_append, List.drop_eq_nil_of_le (by omega), List.nil_append, List.drop_append, List.drop_eq_nil_of_le (by omega), List.nil_append]
    congr 1; omega
  rw [h1]
  have h2 : ((X ++ (Y ++ Z)).take (X.length + e.length)) = X ++ (Y ++ Z).take e.length := by
    rw [List.take_append, List.take_of_length_le (by omega)]
    congr 2; omega
  have h3 : ((Y ++ Z).take e.length).length = e.length := by rw [List.length_take, List.length_append]; omega
  rw [h2]
  unfold splice
  have h4 : (X ++ (Y ++ Z).take e.length).length = X.length + e.length := by rw [List.length_append, h3]
  rw [List.drop_left' h4, List.append_assoc, List.take_left' rfl]
  simp
theorem splice_grow {α : Type} (X Y e Z R : List α) (off m : Nat) (hoff : off = X.length) (hm : m = e.length) (hZ : Z.length = e.length + Y.length) :
    splice (splice (X ++ Z ++ R) off e) (off + m) Y = X ++ (e ++ Y) ++ R := by
  subst hoff; subst hm
  have hl1 : (X ++ e).length = X.length + e.length := by simp
  have h1 : splice (X ++ Z ++ R) X.length e = (X ++ e) ++ (Z.drop e.length ++ R) := by
    unfold splice
    rw [List.append_assoc, List.take_left', List.append_assoc]
    · congr 2
      rw [List.drop_append, List.drop_eq_nil_of_le (by omega), List.nil_append, List.drop_append_of_le_length (by omega)]
      congr 2; omega
    · rfl
  rw [h1]
  unfold splice
  rw [List.take_left' hl1, List.drop_append, List.drop_eq_nil_of_le (by omega), List.nil_append]
  have h2 : (Z.drop e.length ++ R).drop (X.length + e.length + Y.length - (X ++ e).length) = R := by
    rw [List.drop_left' (by simp; omega)]
  rw [h2]
  simp
theorem splice_len {α : Type} (L : List α) (off : Nat) (cs : List α) (h : off + cs.length ≤ L.length) : (splice L off cs).length = L.length := length_splice L off cs h
end Go.Proofs.YtdlphgknplomkaaDoor
