/- Contracts of the functions that draw both sides of a market. No statement is proved here. -/
import Derived.Test.YtlhfkidgmdojjaaDoorDrK
namespace Go.Proofs.YtlhfkidgmdojjaaDoor
open Go.RowKit

def DrSS (R f : Nat) (w : World) (e : Ending) (w' : World) : Prop :=
  ∃ (l m : List Order) (A B : Option Addr) (c d : Nat), e = .returned (.tuple #[.slice A l.length c, .slice B m.length d]) ∧ l.length ≤ 7 ∧ m.length ≤ 7 ∧ Fm A l.length c ∧ Fm B m.length d ∧
    Own w' w.heap.size 33 2 A l.length (flatOrder l) ∧ Own w' w.heap.size 33 2 B m.length (flatOrder m) ∧ Rdr w' R f ∧ w.grownBy w' (some R)
set_option maxHeartbeats 400000 in
theorem drSides (R f : Nat) (w : World) (hr : Rdr w R f) (hf : f ≤ 800000) :
    Calls Tryd.prog 23 #[.pointer (some ⟨R, 0, none⟩)] w (DrSS R (f + 40) w) := by
  have HL := Lib.hid hr.lt
  have HR := Lib.hid hr; clear hr
  go_enter Tryd.func23, Tryd.ntmps23
  go_wp2_with fail
  refine (drSide R f 14 _ HR.out (by omega) (by omega) (by omega)).mono ?_
  rintro e w1 ⟨l, A, c, rfl, hl, hF, ho, hR, hg⟩
  go_wp2_with fail
  refine (drSide R (f + 20) 14 _ hR (by omega) (by omega) (by omega)).mono ?_
  rintro e w2 ⟨m, B, d, rfl, hm, hG, ho2, hR2, hg2⟩
  go_wp2_with fail
  go_ret2
  exact ⟨l, m, A, B, c, d, rfl, hl, hm, hF, hG, own_dr ho hg2 HL.out, ho2.mono hg.size, hR2, hg.trans hg2⟩

def DSS (w : World) (e : Ending) (w' : World) : Prop :=
  ∃ (l m : List Order) (A B : Option Addr) (c d : Nat), e = .returned (.tuple #[.slice A l.length c, .slice B m.length d]) ∧ l.length ≤ 7 ∧ m.length ≤ 7 ∧ Fm A l.length c ∧ Fm B m.length d ∧
    Own w' w.heap.size 33 2 A l.length (flatOrder l) ∧ Own w' w.heap.size 33 2 B m.length (flatOrder m) ∧ Below w.heap.size w w'
set_option maxHeartbeats 400000 in
theorem dDrawTrade (A : Option Addr) (m c : Nat) (w : World) (hc : m ≤ c) (hm : m ≤ 1048576) (hA : RdB w A m) : Calls Tryd.prog 7 #[.slice A m c] w (DSS w) := by
  have HA := Lib.hid hA; clear hA
  go_enter Tryd.func7, Tryd.ntmps7
  go_wp2_with fail
  refine (openC _ _ _ _ hc hm HA.out).mono ?_
  rintro e w1 ⟨rfl, hR, hbn⟩
  go_wp2_with fail
  refine (drSides _ 0 _ hR (by omega)).mono ?_
  rintro e w2 ⟨l, n, B, C, c1, c2, rfl, hl, hm2, hF, hG, ho1, ho2, hR2, hg⟩
  go_wp2_with fail
  go_ret2
  exact ⟨l, n, B, C, c1, c2, rfl, hl, hm2, hF, hG, ho1.mono hbn.size, ho2.mono hbn.size, gr_below hbn hg (Nat.le_refl _)⟩
set_option maxHeartbeats 400000 in
theorem dDrawTradeMany (A : Option Addr) (m c : Nat) (w : World) (hc : m ≤ c) (hm : m ≤ 1048576) (hA : RdB w A m) : Calls Tryd.prog 14 #[.slice A m c] w (DSS w) := by
  have HA := Lib.hid hA; clear hA
  go_enter Tryd.func14, Tryd.ntmps14
  go_wp2_with fail
  refine (openC _ _ _ _ hc hm HA.out).mono ?_
  rintro e w1 ⟨rfl, hR, hbn⟩
  go_wp2_with fail
  refine (drSides _ 0 _ hR (by omega)).mono ?_
  rintro e w2 ⟨l, n, B, C, c1, c2, rfl, hl, hm2, hF, hG, ho1, ho2, hR2, hg⟩
  go_wp2_with fail
  go_ret2
  exact ⟨l, n, B, C, c1, c2, rfl, hl, hm2, hF, hG, ho1.mono hbn.size, ho2.mono hbn.size, gr_below hbn hg (Nat.le_refl _)⟩
set_option maxHeartbeats 400000 in
theorem dDrawClearPrice (A : Option Addr) (m c : Nat) (w : World) (hc : m ≤ c) (hm : m ≤ 1048576) (hA : RdB w A m) : Calls Tryd.prog 17 #[.slice A m c] w (DSS w) := by
  have HA := Lib.hid hA; clear hA
  go_enter Tryd.func17, Tryd.ntmps17
  go_wp2_with fail
  refine (openC _ _ _ _ hc hm HA.out).mono ?_
  rintro e w1 ⟨rfl, hR, hbn⟩
  go_wp2_with fail
  refine (drSides _ 0 _ hR (by omega)).mono ?_
  rintro e w2 ⟨l, n, B, C, c1, c2, rfl, hl, hm2, hF, hG, ho1, ho2, hR2, hg⟩
  go_wp2_with fail
  go_ret2
  exact ⟨l, n, B, C, c1, c2, rfl, hl, hm2, hF, hG, ho1.mono hbn.size, ho2.mono hbn.size, gr_below hbn hg (Nat.le_refl _)⟩
set_option maxHeartbeats 400000 in
theorem dDrawGain (A : Option Addr) (m c : Nat) (w : World) (hc : m ≤ c) (hm : m ≤ 1048576) (hA : RdB w A m) : Calls Tryd.prog 20 #[.slice A m c] w (DSS w) := by
  have HA := Lib.hid hA; clear hA
  go_enter Tryd.func20, Tryd.ntmps20
  go_wp2_with fail
  refine (openC _ _ _ _ hc hm HA.out).mono ?_
  rintro e w1 ⟨rfl, hR, hbn⟩
  go_wp2_with fail
  refine (drSides _ 0 _ hR (by omega)).mono ?_
  rintro e w2 ⟨l, n, B, C, c1, c2, rfl, hl, hm2, hF, hG, ho1, ho2, hR2, hg⟩
  go_wp2_with fail
  go_ret2
  exact ⟨l, n, B, C, c1, c2, rfl, hl, hm2, hF, hG, ho1.mono hbn.size, ho2.mono hbn.size, gr_below hbn hg (Nat.le_refl _)⟩
end Go.Proofs.YtlhfkidgmdojjaaDoor
