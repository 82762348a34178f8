/- The library's Grow and Concat at ints. Grow is laid at this program (the text is that of the kit's tool lay-plain). No statement is proved here. -/
import Derived.Test.YthekihggedgofaaDoorApp
import Derived.Test.YthekihggedgofaaDoorDrX
import Derived.Test.YthekihggedgofaaDoorCmp
import Derived.Shelf.Spec.SlicesGrow
import Derived.Shelf.SlGeneric
import Derived.Ground.Names8Prog
namespace Go.Proofs.YthekihggedgofaaDoor
open Go.Shelf Go.RowKit
def lgrow_ren : Go.Shelf.Ren := ⟨fun | 4 => 29 | n => n, fun | 25 => 3 | 22 => 23 | 3 => 3 | 4 => 4 | 0 => 0 | 9 => 9 | 20 => 20 | n => n, fun | n => n⟩
theorem lgrow : Go.Proofs.Lays8.n4 Tryd.prog lgrow_ren := {
  mixed := by kernel_rfl
  f4 := ⟨Tryd.f29.name, by decide, Tryd.func29.trans (congrArg some (by kernel_rfl))⟩
  t0 := Tryd.underlying0
  a0 := Tryd.isAgg0
  z0 := Tryd.sizeOf0
  v0 := Tryd.zeroValue0
  t3 := Tryd.underlying3
  a3 := Tryd.isAgg3
  z3 := Tryd.sizeOf3
  v3 := Tryd.zeroValue3
  t4 := Tryd.underlying4
  a4 := Tryd.isAgg4
  z4 := Tryd.sizeOf4
  v4 := Tryd.zeroValue4
  t9 := Tryd.underlying9
  a9 := Tryd.isAgg9
  z9 := Tryd.sizeOf9
  v9 := Tryd.zeroValue9
  t20 := Tryd.underlying20
  a20 := Tryd.isAgg20
  z20 := Tryd.sizeOf20
  v20 := Tryd.zeroValue20
  t22 := Tryd.underlying23
  a22 := Tryd.isAgg23
  z22 := Tryd.sizeOf23
  v22 := Tryd.zeroValue23 }
theorem row_zero {w : World} {base : Nat} {E : TypeId} {size : Nat} : w.ownsRow base E size (.slice none 0 0) 0 [] := ⟨by simp, .inl ⟨rfl, rfl⟩⟩
theorem row_mono {w : World} {base base' : Nat} {E : TypeId} {size n : Nat} {v : Value} {cs : List Value} (h : w.ownsRow base E size v n cs) (hb : base' ≤ base) : w.ownsRow base' E size v n cs := by
  obtain ⟨h1, h2⟩ := h
  refine ⟨h1, ?_⟩
  rcases h2 with ⟨e1, e2⟩ | ⟨g, cap, cur, e, hge, h3⟩
  · exact .inl ⟨e1, e2⟩
  · exact .inr ⟨g, cap, cur, e, Nat.le_trans hb hge, h3⟩
theorem row_cap {w : World} {base n c : Nat} {E : TypeId} {size : Nat} {B : Option Addr} {cs : List Value} (h : w.ownsRow base E size (.slice B n c) n cs) : n ≤ c := by
  rcases h.2 with ⟨e, rfl⟩ | ⟨g, cap, cur, e, hge, hg, hn, hr⟩
  · omega
  · cases e; exact hn
theorem row_none {w : World} {base n c : Nat} {E : TypeId} {size : Nat} {B : Option Addr} {cs : List Value} (h : w.ownsRow base E size (.slice B n c) n cs) : B = none → n = 0 ∧ c = 0 := by
  intro e
  rcases h.2 with ⟨e1, e2⟩ | ⟨g, cap, cur, e1, _⟩
  · cases e1; exact ⟨rfl, rfl⟩
  · cases e1; cases e
/-- the call returns a row of its own -/
def RetRow (E : TypeId) (size : Nat) (cs : List Value) (n : Nat) (w : World) (e : Ending) (w' : World) : Prop :=
  ∃ B c, e = .returned (.slice B n c) ∧ w'.ownsRow w.heap.size E size (.slice B n c) n cs ∧ Below w.heap.size w w'
theorem ints_one (xs : List Int) : ∀ u ∈ ints xs, u.oneCell' = true := by
  intro u hu
  simp only [ints, List.mem_map] at hu
  obtain ⟨x, _, rfl⟩ := hu
  rfl
theorem ints_app (xs ys : List Int) : ints xs ++ ints ys = ints (xs ++ ys) := by simp [ints]

theorem growNil (n : Nat) (w : World) (hn : n ≤ 3000000) : Calls Tryd.prog 29 #[.slice none 0 0, .int .i64 n] w fun e w' =>
    ∃ B c, e = .returned (.slice B 0 c) ∧ w'.ownsRow w.heap.size 3 1 (.slice B 0 c) 0 [] ∧ Below w.heap.size w w' := by
  by_cases h0 : n = 0
  · subst h0
    go_enter Tryd.func29, Tryd.ntmps29
    go_wp2_with fail
    go_ret
    exact ⟨none, 0, rfl, row_zero, Below.refl _ _⟩
  · obtain ⟨i0, hi0, hz0, hz1, hz2⟩ := info_parts info_int
    have h := Any8.slices_Grow_grow lgrow i0 (.int .i64 0) hi0 hz0 (by rw [hz1]; omega) none 0 0 n [] w (Nat.le_refl _) (by omega) (by rw [hz2]; omega) (by omega) (by simp) (fun _ => rfl) (fun a e => by cases e)
    refine Calls.mono h ?_
    rintro e w' ⟨rfl, rfl⟩
    have hc := grownCap_ge w n 0 (lgrow_ren.t 25)
    have hm := grownCap_le_maxLen w (0 + n) 0 (lgrow_ren.t 25) (by unfold maxLen; omega)
    refine ⟨_, _, rfl, ⟨by simp, .inr ⟨w.heap.size, _, _, rfl, Nat.le_refl _, heap_alloc_new w.drew _, Nat.zero_le _, hm, ?_, by simp⟩⟩, allocB (drew1B (Below.refl _ _)) _⟩
    have hs : ∀ k, (Builtin.zeroCells (Value.int IntKind.i64 0).cells k).size = k := fun k => by simp [Builtin.zeroCells, Value.cells]
    simp [hs]
    omega

/-- a slice of ints as a record -/
structure SR where
  A : Option Addr
  c : Nat
  l : List Int
def SR.cells (r : SR) : List Value := [.slice r.A r.l.length r.c]
def SR.zero : SR := ⟨none, 0, []⟩
def flatS (rs : List SR) : List Value := rs.flatMap SR.cells
theorem flatS_length (rs : List SR) : (flatS rs).length = rs.length * 1 := flat_length SR.cells 1 (fun _ => rfl) rs
def catS (rs : List SR) : List Int := rs.flatMap SR.l
theorem catS_succ (rs : List SR) (k : Nat) (h : k < rs.length) : catS (rs.take (k + 1)) = catS (rs.take k) ++ (rs.getD k SR.zero).l := by
  rw [List.take_succ_eq_append_getElem h, catS, List.flatMap_append]; simp [catS, h]
theorem catS_le (rs : List SR) (k : Nat) : (catS (rs.take k)).length ≤ (catS rs).length := by
  have h : catS rs = catS (rs.take k) ++ catS (rs.drop k) := by
    simp only [catS]; rw [← List.flatMap_append, List.take_append_drop]
  rw [h, List.length_append]; omega
theorem RdS.at {w : World} {A : Option Addr} {rs : List SR} (h : Rd w A (flatS rs)) {k : Nat} (hk : k < rs.length) :
    ∃ b o, A = some ⟨b, o, none⟩ ∧ b < w.heap.size ∧ w.cell? ⟨b, o + k, none⟩ = some (.slice (rs.getD k SR.zero).A (rs.getD k SR.zero).l.length (rs.getD k SR.zero).c) := by
  obtain ⟨b, o, e, hlt, hc⟩ := h (by rw [flatS_length]; omega)
  refine ⟨b, o, e, hlt, ?_⟩
  have := hc (k * 1 + 0) _ ((flat_get SR.cells 1 (fun _ => rfl) SR.zero rs k 0 hk (by omega)).trans rfl); simpa using this
set_option maxHeartbeats 1000000 in
theorem concatC (A : Option Addr) (m c : Nat) (rs : List SR) (w : World) (hn : rs.length = m) (hm : m ≤ 3) (ht : (catS rs).length ≤ 2200000) (hA : Rd w A (flatS rs)) (hB : ∀ k, k < m → Rd w (rs.getD k SR.zero).A (ints (rs.getD k SR.zero).l)) (hnil : ∀ k, k < m → (rs.getD k SR.zero).A = none → (rs.getD k SR.zero).l.length = 0 ∧ (rs.getD k SR.zero).c = 0) :
    Calls Tryd.prog 18 #[.slice A m c] w (RetRow 3 1 (ints (catS rs)) (catS rs).length w) := by
  have HA := Lib.hid hA; clear hA
  have HN := Lib.hid hn; clear hn
  have HB := Lib.hid hB; clear hB
  have HNIL := Lib.hid hnil; clear hnil
  obtain ⟨i0, hi0, hz0, hz1, hz2⟩ := info_parts info_int
  have HI := Lib.hid (And.intro hi0 (And.intro hz0 (And.intro hz1 hz2))); clear hi0 hz0 hz1 hz2
  go_enter Tryd.func18, Tryd.ntmps18
  go_wp2_with fail
  go_loop [3, 11] (fun s i => ∃ k : Nat, k ≤ m ∧ i = .int .i64 k ∧ s = .int .i64 ((catS (rs.take k)).length : Nat)) (fun _ i => m - (intOf i).toNat)
  case atStart => exact ⟨0, by omega, rfl, rfl⟩
  case round =>
    obtain ⟨k, hk, rfl, rfl⟩ := hrel
    by_cases hlt : k < m
    · obtain ⟨b, o, rfl, hbl, hc0⟩ := RdS.at HA.out (k := k) (by rw [HN.out]; exact hlt)
      have HS := Lib.hid (catS_succ rs k (by rw [HN.out]; exact hlt))
      have hle := catS_le rs k
      have hle1 := catS_le rs (k + 1)
      have hl1 : (catS (rs.take (k + 1))).length = (catS (rs.take k)).length + (rs.getD k SR.zero).l.length := by rw [HS.out, List.length_append]
      generalize (rs.getD k SR.zero).l.length = n1 at *
      generalize hT : (catS (rs.take k)).length = T at *
      generalize hT1 : (catS (rs.take (k + 1))).length = T1 at *
      have HT1 := Lib.hid hT1; clear hT1 hT
      have hki : (k : Int) < (m : Int) := by omega
      have HL1 := Lib.hid hl1
      have hb1 : T + n1 ≤ 2200000 := by omega
      clear hl1
      go_wp2_with fail
      go_round
      case rel => exact ⟨k + 1, by omega, by go_num, by have h1 := HT1.out; have h2 := HL1.out; rw [h1, h2]; go_num⟩
      case measure => simp [intOf]; omega
    · have hkm : k = m := by omega
      have hki : ¬ ((k : Int) < (m : Int)) := by omega
      have HCT : Hid (catS (rs.take k) = catS rs) := by rw [Hid, hkm, List.take_of_length_le (by rw [HN.out]; exact Nat.le_refl _)]
      rw [HCT.out]
      clear hkm
      generalize hT : (catS rs).length = T at *
      have HT := Lib.hid hT; clear hT
      go_wp2_with fail
      refine (growNil T w (by omega)).mono ?_
      rintro e w1 ⟨B, c1, rfl, hr, hb⟩
      have HR := Lib.hid hr; clear hr
      go_wp2_with fail
      go_loopw [6, 27] (fun v i wr => ∃ k : Nat, k ≤ m ∧ i = .int .i64 k ∧ (∃ B d, v = .slice B (catS (rs.take k)).length d ∧ Hid (wr.ownsRow w.heap.size 3 1 (.slice B (catS (rs.take k)).length d) (catS (rs.take k)).length (ints (catS (rs.take k))))) ∧ Hid (Below w.heap.size w wr)) (fun _ i _ => m - (intOf i).toNat)
      case atStart => exact ⟨0, by omega, rfl, ⟨_, _, rfl, HR.out⟩, hb⟩
      case round =>
        clear HR hb
        obtain ⟨j, hj, rfl, ⟨B, d, rfl, HR⟩, hb⟩ := hrel
        by_cases hlt2 : j < m
        · obtain ⟨b, o, rfl, hbl, hc0⟩ := RdS.at HA.out (k := j) (by rw [HN.out]; exact hlt2)
          have HS := Lib.hid (catS_succ rs j (by rw [HN.out]; exact hlt2))
          have hle := catS_le rs j
          have hle1 := catS_le rs (j + 1)
          have hrb := (HB.out j hlt2).below hb.out
          have HNL := Lib.hid (HNIL.out j hlt2)
          have hl1 : (catS (rs.take (j + 1))).length = (catS (rs.take j)).length + (rs.getD j SR.zero).l.length := by rw [HS.out, List.length_append]
          generalize rs.getD j SR.zero = r at *
          obtain ⟨RA, rc, rl⟩ := r
          dsimp only at hc0 hrb HNL HS hl1
          have hd0 := (hb.out.cell (p := ⟨b, o + j, none⟩) hbl).trans hc0; clear hc0
          have hki2 : (j : Int) < (m : Int) := by omega
          have hown := HR.out
          have hbs := hb.out.size
          rw [HT.out] at hle hle1
          have HL1 := Lib.hid hl1
          have hb1 : (catS (rs.take j)).length + rl.length ≤ 2200000 := by omega
          clear hl1 HR
          generalize hT0 : (catS (rs.take j)).length = T0 at *
          have HT0 := Lib.hid hT0; clear hT0
          go_wp2_with (at_builtin; refine wpList_appN wr rfl _ _ _ rfl w.heap.size 3 i0 _ 1 8 Tryd.underlying23 HI.out rfl (by omega) (.slice B T0 d) T0 _ rfl hown RA rl.length rc (ints rl) rfl (by rw [ints_length]; omega) hrb HNL.out (ints_one _) (by omega) (by omega) hbs ?_; intro v' w3 hown3 hg3)
          have hb3 := grown_row hb.out rfl hown hg3
          obtain ⟨B3, d3, rfl, hr3⟩ := row_is (n' := (catS (rs.take (j + 1))).length) (cs' := ints (catS (rs.take (j + 1)))) hown3 (by rw [HL1.out]) (by rw [HS.out]; exact ints_app _ _)
          have HR3 := Lib.hid hr3
          clear hown3 hg3 hr3 hown hrb hd0
          go_roundw
          case rel => exact ⟨j + 1, by omega, by go_num, ⟨_, _, rfl, HR3⟩, hb3⟩
          case measure => simp [intOf]; omega
        · have hki2 : ¬ ((j : Int) < (m : Int)) := by omega
          have hjm : j = m := by omega
          have HCT2 : Hid (catS (rs.take j) = catS rs) := by rw [Hid, hjm, List.take_of_length_le (by rw [HN.out]; exact Nat.le_refl _)]
          clear hjm
          rw [HCT2.out, HT.out] at HR ⊢
          go_wp2_with fail
          go_ret
          exact ⟨B, d, rfl, HR.out, hb.out⟩
end Go.Proofs.YthekihggedgofaaDoor
