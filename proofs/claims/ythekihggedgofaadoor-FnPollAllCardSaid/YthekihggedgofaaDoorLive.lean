/- The law's sign of life: laws.alive returns true. No statement is proved here. -/
import Derived.Test.YthekihggedgofaaDoorCmp
namespace Go.Proofs.YthekihggedgofaaDoor
open Go.RowKit

def isLive (w : World) (v : Value) (e : Ending) (w' : World) : Prop := e = .returned v ∧ Below w.heap.size w w'

set_option maxHeartbeats 400000 in
theorem hasBusC (x : Int) (b n c : Nat) (hx : x = 0 ∨ x = 1) (w : World) : Calls Tryd.prog 38 #[.agg #[.int .i64 2, .slice (some ⟨b, 0, none⟩) n c], .int .i64 x] w (isLive w (.bool true)) := by
  have hc := one_box w #[.int .i64 2, .slice (some ⟨b, 0, none⟩) n c] 46
  rcases hx with rfl | rfl
  · go_enter Tryd.func38, Tryd.ntmps38
    go_wp2_with fail
    go_ret
    exact ⟨rfl, allocB (Below.refl _ _) _⟩
  · go_enter Tryd.func38, Tryd.ntmps38
    go_wp2_with fail
    go_ret
    exact ⟨rfl, allocB (Below.refl _ _) _⟩
set_option maxHeartbeats 400000 in
theorem hasLineC (b c : Nat) (w : World) : Calls Tryd.prog 31 #[.agg #[.int .i64 2, .slice (some ⟨b, 0, none⟩) 1 c], .int .i64 0] w (isLive w (.bool true)) := by
  have hc := one_box w #[.int .i64 2, .slice (some ⟨b, 0, none⟩) 1 c] 46
  go_enter Tryd.func31, Tryd.ntmps31
  go_wp2_with fail
  go_ret
  exact ⟨rfl, allocB (Below.refl _ _) _⟩
set_option maxHeartbeats 400000 in
theorem otherC (w : World) : Calls Tryd.prog 32 #[.agg #[.int .i64 0, .int .i64 1, .int .i64 1], .int .i64 0] w (isLive w (.int .i64 1)) := by
  have hc := one_box w #[.int .i64 0, .int .i64 1, .int .i64 1] 43
  go_enter Tryd.func32, Tryd.ntmps32
  go_wp2_with fail
  go_ret
  exact ⟨rfl, allocB (Below.refl _ _) _⟩
set_option maxHeartbeats 400000 in
theorem netNilC (w : World) : Calls Tryd.prog 30 #[.agg #[.int .i64 0, .slice none 0 0]] w (isLive w (.bool false)) := by
  have hc := one_box w #[.int .i64 0, .slice none 0 0] 46
  go_enter Tryd.func30, Tryd.ntmps30
  go_wp2_with fail
  go_ret
  exact ⟨rfl, allocB (Below.refl _ _) _⟩
set_option maxHeartbeats 400000 in
theorem netTextC (w : World) : Calls Tryd.prog 23 #[.agg #[.int .i64 0, .slice none 0 0]] w (isLive w (.string ⟨#[]⟩)) := by
  have hc := one_box w #[.int .i64 0, .slice none 0 0] 46
  have hb : Below w.heap.size w (w.alloc (.cells #[.int .i64 0, .slice none 0 0] 46)) := allocB (Below.refl _ _) _
  go_enter Tryd.func23, Tryd.ntmps23
  go_wp2_with (go_at_call 30; refine (netNilC _).mono ?_; rintro e w' ⟨rfl, hb'⟩)
  go_ret
  exact ⟨rfl, seqB hb hb'⟩
set_option maxHeartbeats 400000 in
theorem netOneC (b c : Nat) (w : World) (hlt : b < w.heap.size) (h0 : w.cell? ⟨b, 0, none⟩ = some (.int .i64 0)) (h1 : w.cell? ⟨b, 1, none⟩ = some (.int .i64 1)) (h2 : w.cell? ⟨b, 2, none⟩ = some (.int .i64 1)) :
    Calls Tryd.prog 30 #[.agg #[.int .i64 2, .slice (some ⟨b, 0, none⟩) 1 c]] w (isLive w (.bool true)) := by
  have hc := one_box w #[.int .i64 2, .slice (some ⟨b, 0, none⟩) 1 c] 46
  have hb : Below w.heap.size w (w.alloc (.cells #[.int .i64 2, .slice (some ⟨b, 0, none⟩) 1 c] 46)) := allocB (Below.refl _ _) _
  have g0 := (hb.cell (p := ⟨b, 0, none⟩) hlt).trans h0
  have g1 := (hb.cell (p := ⟨b, 1, none⟩) hlt).trans h1
  have g2 := (hb.cell (p := ⟨b, 2, none⟩) hlt).trans h2
  have hc0 := hc 0
  have hc1 := hc 1
  clear h0 h1 h2
  have hR : w.heap.size < (w.alloc (.cells #[.int .i64 2, .slice (some ⟨b, 0, none⟩) 1 c] 46)).heap.size := by simp
  have hbR : b < (w.alloc (.cells #[.int .i64 2, .slice (some ⟨b, 0, none⟩) 1 c] 46)).heap.size := by simp; omega
  go_enter Tryd.func30, Tryd.ntmps30
  go_wp2_with fail
  simp only [List.getElem?_toArray, List.getElem?_cons_zero, List.getElem?_cons_succ] at hc0 hc1
  clear hc
  generalize hww : w.alloc (.cells #[.int .i64 2, .slice (some ⟨b, 0, none⟩) 1 c] 46) = ww at *
  generalize hRR : w.heap.size = R at *
  go_loopw [22] (fun i wr => ∃ k : Nat, k ≤ 1 ∧ i = .int .i64 k ∧ Below ww.heap.size ww wr) (fun i _ => 1 - (intOf i).toNat)
  case atStart => exact ⟨0, by omega, rfl, Below.refl _ _⟩
  case round =>
    obtain ⟨k, hk, rfl, hbw⟩ := hrel
    by_cases hlt1 : k < 1
    · obtain rfl : k = 0 := by omega
      have hbN := allocB hbw (Obj.cells #[.int .i64 0, .int .i64 1, .int .i64 1] 43)
      have k0 : wr.cell? ⟨b, 0, none⟩ = some (.int .i64 0) := (hbw.cell (p := ⟨b, 0, none⟩) hbR).trans g0
      have k1 : wr.cell? ⟨b, 1, none⟩ = some (.int .i64 1) := (hbw.cell (p := ⟨b, 1, none⟩) hbR).trans g1
      have k2 : wr.cell? ⟨b, 2, none⟩ = some (.int .i64 1) := (hbw.cell (p := ⟨b, 2, none⟩) hbR).trans g2
      have j0 := (hbN.cell (p := ⟨R, 0, none⟩) hR).trans hc0
      have j1 := (hbN.cell (p := ⟨R, 1, none⟩) hR).trans hc1
      have b0 : (wr.alloc (Obj.cells #[.int .i64 0, .int .i64 1, .int .i64 1] 43)).cell? ⟨wr.heap.size, 0, none⟩ = some (.int .i64 0) := one_box wr #[.int .i64 0, .int .i64 1, .int .i64 1] 43 0
      have b1 : (wr.alloc (Obj.cells #[.int .i64 0, .int .i64 1, .int .i64 1] 43)).cell? ⟨wr.heap.size, 1, none⟩ = some (.int .i64 1) := one_box wr #[.int .i64 0, .int .i64 1, .int .i64 1] 43 1
      have b2 : (wr.alloc (Obj.cells #[.int .i64 0, .int .i64 1, .int .i64 1] 43)).cell? ⟨wr.heap.size, 2, none⟩ = some (.int .i64 1) := one_box wr #[.int .i64 0, .int .i64 1, .int .i64 1] 43 2
      clear hbw hc0 hc1 g0 g1 g2
      have HR := Lib.hid (Nat.lt_of_lt_of_le hR hbN.size)
      have HN : wr.heap.size < (wr.alloc (Obj.cells #[.int .i64 0, .int .i64 1, .int .i64 1] 43)).heap.size := by simp
      have HN := Lib.hid HN
      go_wp2_with (go_at_call 38; refine (hasBusC _ _ _ _ (by simp) _).mono ?_; rintro e w' ⟨rfl, hb'⟩; have hbN := seqB hbN hb'; have b0 := (hb'.cell (p := ⟨wr.heap.size, 0, none⟩) HN.out).trans b0; have b1 := (hb'.cell (p := ⟨wr.heap.size, 1, none⟩) HN.out).trans b1; have b2 := (hb'.cell (p := ⟨wr.heap.size, 2, none⟩) HN.out).trans b2; have j0 := (hb'.cell (p := ⟨R, 0, none⟩) HR.out).trans j0; have j1 := (hb'.cell (p := ⟨R, 1, none⟩) HR.out).trans j1; have HN := Lib.hid (Nat.lt_of_lt_of_le HN.out hb'.size); have HR := Lib.hid (Nat.lt_of_lt_of_le HR.out hb'.size))
      go_roundw
      case rel => exact ⟨1, by omega, by go_num, hbN⟩
      case measure => simp [intOf]
    · go_wp2_with fail
      go_ret
      exact ⟨rfl, by subst hRR; exact seqB hb hbw⟩
set_option maxHeartbeats 400000 in
theorem otherEndC (b c : Nat) (w : World) (hlt : b < w.heap.size) (h0 : w.cell? ⟨b, 0, none⟩ = some (.int .i64 0)) (h1 : w.cell? ⟨b, 1, none⟩ = some (.int .i64 1)) (h2 : w.cell? ⟨b, 2, none⟩ = some (.int .i64 1)) :
    Calls Tryd.prog 22 #[.agg #[.int .i64 2, .slice (some ⟨b, 0, none⟩) 1 c], .int .i64 0, .int .i64 0] w (isLive w (.int .i64 1)) := by
  have hb : Below w.heap.size w (w.alloc (.cells #[.int .i64 2, .slice (some ⟨b, 0, none⟩) 1 c] 46)) := allocB (Below.refl _ _) _
  have g0 := (hb.cell (p := ⟨b, 0, none⟩) hlt).trans h0
  have g1 := (hb.cell (p := ⟨b, 1, none⟩) hlt).trans h1
  have g2 := (hb.cell (p := ⟨b, 2, none⟩) hlt).trans h2
  have hc0 : (w.alloc (.cells #[.int .i64 2, .slice (some ⟨b, 0, none⟩) 1 c] 46)).cell? ⟨w.heap.size, 0, none⟩ = some (.int .i64 2) := one_box w #[.int .i64 2, .slice (some ⟨b, 0, none⟩) 1 c] 46 0
  have hc1 : (w.alloc (.cells #[.int .i64 2, .slice (some ⟨b, 0, none⟩) 1 c] 46)).cell? ⟨w.heap.size, 1, none⟩ = some (.slice (some ⟨b, 0, none⟩) 1 c) := one_box w #[.int .i64 2, .slice (some ⟨b, 0, none⟩) 1 c] 46 1
  clear h0 h1 h2
  have hR : w.heap.size < (w.alloc (.cells #[.int .i64 2, .slice (some ⟨b, 0, none⟩) 1 c] 46)).heap.size := by simp
  have hbR : b < (w.alloc (.cells #[.int .i64 2, .slice (some ⟨b, 0, none⟩) 1 c] 46)).heap.size := by simp; omega
  have HR := Lib.hid hR; have HB := Lib.hid hbR; have HW := Lib.hid hb; clear hR hbR hb hlt
  go_enter Tryd.func22, Tryd.ntmps22
  go_wp2_with (first
    | (go_at_call 30; refine (netOneC _ _ _ HB.out g0 g1 g2).mono ?_; rintro e w' ⟨rfl, hb'⟩; have HW := Lib.hid (seqB HW.out hb'); have g0 := (hb'.cell (p := ⟨b, 0, none⟩) HB.out).trans g0; have g1 := (hb'.cell (p := ⟨b, 1, none⟩) HB.out).trans g1; have g2 := (hb'.cell (p := ⟨b, 2, none⟩) HB.out).trans g2; have hc0 := (hb'.cell (p := ⟨w.heap.size, 0, none⟩) HR.out).trans hc0; have hc1 := (hb'.cell (p := ⟨w.heap.size, 1, none⟩) HR.out).trans hc1; have HR := Lib.hid (Nat.lt_of_lt_of_le HR.out hb'.size); have HB := Lib.hid (Nat.lt_of_lt_of_le HB.out hb'.size))
    | (go_at_call 31; refine (hasLineC _ _ _).mono ?_; rintro e w' ⟨rfl, hb'⟩; have HW := Lib.hid (seqB HW.out hb'); have g0 := (hb'.cell (p := ⟨b, 0, none⟩) HB.out).trans g0; have g1 := (hb'.cell (p := ⟨b, 1, none⟩) HB.out).trans g1; have g2 := (hb'.cell (p := ⟨b, 2, none⟩) HB.out).trans g2; have hc0 := (hb'.cell (p := ⟨w.heap.size, 0, none⟩) HR.out).trans hc0; have hc1 := (hb'.cell (p := ⟨w.heap.size, 1, none⟩) HR.out).trans hc1; have HR := Lib.hid (Nat.lt_of_lt_of_le HR.out hb'.size); have HB := Lib.hid (Nat.lt_of_lt_of_le HB.out hb'.size))
    | (go_at_call 32; refine (otherC _).mono ?_; rintro e w' ⟨rfl, hb'⟩; have HW := Lib.hid (seqB HW.out hb')))
  go_ret
  exact ⟨rfl, HW.out⟩
set_option maxHeartbeats 400000 in
theorem aliveC (w : World) : Calls Tryd.prog 9 #[] w (isLive w (.bool true)) := by
  have hb : Below w.heap.size w (w.alloc (.cells #[.int .i64 0, .int .i64 1, .int .i64 1] 43)) := allocB (Below.refl _ _) _
  have hlt : w.heap.size < (w.alloc (.cells #[.int .i64 0, .int .i64 1, .int .i64 1] 43)).heap.size := by simp
  have g0 : (w.alloc (.cells #[.int .i64 0, .int .i64 1, .int .i64 1] 43)).cell? ⟨w.heap.size, 0, none⟩ = some (.int .i64 0) := one_box w #[.int .i64 0, .int .i64 1, .int .i64 1] 43 0
  have g1 : (w.alloc (.cells #[.int .i64 0, .int .i64 1, .int .i64 1] 43)).cell? ⟨w.heap.size, 1, none⟩ = some (.int .i64 1) := one_box w #[.int .i64 0, .int .i64 1, .int .i64 1] 43 1
  have g2 : (w.alloc (.cells #[.int .i64 0, .int .i64 1, .int .i64 1] 43)).cell? ⟨w.heap.size, 2, none⟩ = some (.int .i64 1) := one_box w #[.int .i64 0, .int .i64 1, .int .i64 1] 43 2
  have HL := Lib.hid hlt; have HW := Lib.hid hb; clear hlt hb
  go_enter Tryd.func9, Tryd.ntmps9
  go_wp2_with (first
    | (go_at_call 22; refine (otherEndC _ _ _ HL.out g0 g1 g2).mono ?_; rintro e w' ⟨rfl, hb'⟩; have HW := Lib.hid (seqB HW.out hb'))
    | (go_at_call 23; refine (netTextC _).mono ?_; rintro e w' ⟨rfl, hb'⟩; have HW := Lib.hid (seqB HW.out hb')))
  go_ret
  exact ⟨rfl, HW.out⟩
end Go.Proofs.YthekihggedgofaaDoor
