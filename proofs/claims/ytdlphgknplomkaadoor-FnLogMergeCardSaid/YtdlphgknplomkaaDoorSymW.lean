/- Walks of the library's merging in place at elements of k cells: exchange of ranges, rotation. No statement is proved here. -/
import Derived.Test.YtdlphgknplomkaaDoorSymL
import Derived.Test.YtdlphgknplomkaaDoorChecked
import Derived.Shelf.SlSortCmp.KitK
import Derived.Sort.WalkB2
import Derived.Sort.WalkB12
import Derived.Deep.LoopGhost
namespace Go.Proofs.YtdlphgknplomkaaDoor
open Go.Shelf Go.RowKit Go.Lib Go.Sort

/-- what a walk of these functions is told of the program -/
structure SymP (P : Program) (k : Nat) : Prop where
  mixed : P.follows .mixedOrders = true
  fsw : P.funcs[83]? = some Tryd.f83
  fro : P.funcs[78]? = some Tryd.f78
  fsy : P.funcs[74]? = some Tryd.f74
  t0 : P.underlying 0 = some (TypeDesc.tuple #[])
  a0 : ∀ w, (isAgg 0).run P w = .ok false w
  z0 : ∀ w, (Go.sizeOf 0).run P w = .ok 1 w
  v0 : ∀ w, (zeroValue 0).run P w = .ok (Value.tuple #[]) w
  t3 : P.underlying 3 = some (TypeDesc.int IntKind.i64)
  a3 : ∀ w, (isAgg 3).run P w = .ok false w
  z3 : ∀ w, (Go.sizeOf 3).run P w = .ok 1 w
  v3 : ∀ w, (zeroValue 3).run P w = .ok (Value.int IntKind.i64 0) w
  t4 : P.underlying 4 = some (TypeDesc.bool)
  a4 : ∀ w, (isAgg 4).run P w = .ok false w
  z4 : ∀ w, (Go.sizeOf 4).run P w = .ok 1 w
  v4 : ∀ w, (zeroValue 4).run P w = .ok (Value.bool false) w
  tS : P.underlying 23 = some (TypeDesc.slice 25)
  aS : ∀ w, (isAgg 23).run P w = .ok false w
  zS : ∀ w, (Go.sizeOf 23).run P w = .ok 1 w
  vS : ∀ w, (zeroValue 23).run P w = .ok (Value.slice none 0 0) w
  aE : ∀ w, (isAgg 25).run P w = .ok true w
  zE : ∀ w, (Go.sizeOf 25).run P w = .ok k w
  tF : P.underlying 61 = some (TypeDesc.func #[25, 25] #[3] false)
  aF : ∀ w, (isAgg 61).run P w = .ok false w
  zF : ∀ w, (Go.sizeOf 61).run P w = .ok 1 w
  vF : ∀ w, (zeroValue 61).run P w = .ok (Value.nilFunc) w
  tU : P.underlying 79 = some (TypeDesc.int IntKind.u64)
  aU : ∀ w, (isAgg 79).run P w = .ok false w
  zU : ∀ w, (Go.sizeOf 79).run P w = .ok 1 w
  vU : ∀ w, (zeroValue 79).run P w = .ok (Value.int IntKind.u64 0) w
theorem symP : SymP Tryd.prog 4 := {
  mixed := by kernel_rfl
  fsw := Tryd.func83
  fro := Tryd.func78
  fsy := Tryd.func74
  t0 := Tryd.underlying0
  a0 := Tryd.isAgg0
  z0 := Tryd.sizeOf0
  v0 := Tryd.zeroValue0
  t3 := Tryd.underlying3
  a3 := Tryd.isAgg3
  z3 := Tryd.sizeOf3
  v3 := Tryd.zeroValue3
  t4 := Tryd.underlying4
  a4 := Tryd.isAgg4
  z4 := Tryd.sizeOf4
  v4 := Tryd.zeroValue4
  tS := Tryd.underlying23
  aS := Tryd.isAgg23
  zS := Tryd.sizeOf23
  vS := Tryd.zeroValue23
  aE := Tryd.isAgg25
  zE := Tryd.sizeOf25
  tF := Tryd.underlying61
  aF := Tryd.isAgg61
  zF := Tryd.sizeOf61
  vF := Tryd.zeroValue61
  tU := Tryd.underlying79
  aU := Tryd.isAgg79
  zU := Tryd.sizeOf79
  vU := Tryd.zeroValue79 }

variable {P : Program} {α : Type} [Inhabited α]

set_option maxHeartbeats 4000000 in
set_option maxRecDepth 1000000 in
theorem swrW {k : Nat} (L : SymP P k) (enc : α → List Value) (g : Nat) (cb : Array Value) (blk off cap a b n : Nat) (d0 d : Array α) (w0 w : World)
    (R : RowK enc k w0 blk off d0) (hs : d0.size = d.size) (S : SWK enc k w0 blk off d w) (hab : a + n ≤ b) (hb : b + n ≤ d.size) (hsz : d.size < 4611686018427387904) :
    Calls P 83 #[.slice (some ⟨blk, off, none⟩) d.size cap, .int .i64 a, .int .i64 b, .int .i64 n, .func (.func g) #[] cb] w fun e w' => e = .returned (.tuple #[]) ∧ SWK enc k w0 blk off (rngSwap d a b n) w' := by
  have mixed := L.mixed; have t0 := L.t0; have a0 := L.a0; have z0 := L.z0; have v0 := L.v0; have t3 := L.t3; have a3 := L.a3; have z3 := L.z3; have v3 := L.v3; have t4 := L.t4; have a4 := L.a4; have z4 := L.z4; have v4 := L.v4; have tS := L.tS; have aS := L.aS; have zS := L.zS; have vS := L.vS; have aE := L.aE; have zE := L.zE; have tF := L.tF; have aF := L.aF; have zF := L.zF; have vF := L.vF
  have S0 : Aside (SWK enc k w0 blk off d w) := S
  clear S
  go_enter L.fsw, Tryd.ntmps83
  go_wp2
  go_loopg [10] n (fun kx s10 wr => ∃ (i : Nat), s10 = .int .i64 i ∧ i ≤ n ∧ n - i ≤ kx ∧ Aside (SWK enc k w0 blk off (rngSwap d a b i) wr))
  case atStart => exact ⟨0, rfl, by omega, by omega, S0⟩
  case round =>
    clear S0
    obtain ⟨i, rfl, hin, hkx, S1⟩ := hrel
    by_cases hlt : i < n
    · have hltz : (i : Int) < (n : Int) := by omega
      have hsd : (rngSwap d a b i).size = d.size := rngSwap_size d a b i
      have HD : Hid (rngSwap d a b (i + 1) = swp (rngSwap d a b i) (a + i) (b + i)) := rfl
      generalize rngSwap d a b i = dk at *
      go_wp2_with fail
      have ea44 : ((a : Int) + (i : Int)).toNat = a + i := by omega
      have pa44 : (0 : Int) ≤ (a : Int) + (i : Int) := by omega
      have ba44 : (a : Int) + (i : Int) < (d.size : Int) := by omega
      have ra44 : IntKind.i64.wrap ((a : Int) + (i : Int)) = (a : Int) + (i : Int) := by rw [IntKind.wrap_i64]; omega
      have ec44 : ((b : Int) + (i : Int)).toNat = b + i := by omega
      have pc44 : (0 : Int) ≤ (b : Int) + (i : Int) := by omega
      have bc44 : (b : Int) + (i : Int) < (d.size : Int) := by omega
      have rc44 : IntKind.i64.wrap ((b : Int) + (i : Int)) = (b : Int) + (i : Int) := by rw [IntKind.wrap_i64]; omega
      have S2 : Aside (SWK enc k w0 blk off (swp dk (a + i) (b + i)) ((wr.drew.setCells blk (off + (a + i) * k) (enc dk[b + i]!)).setCells blk (off + (b + i) * k) (enc dk[a + i]!))) := S1.out.swapped R (a + i) (b + i) (by omega) (by omega)
      have l44a := S1.out.ld1 R (by omega) P (a + i) (by omega)
      have l44b := S1.out.ld1 R (by omega) P (b + i) (by omega)
      have s44a := S1.out.st1 R (by omega) P (a + i) (by omega) dk[b + i]!
      have s44b := S1.out.st2 R (by omega) P (a + i) (b + i) (by omega) (by omega) dk[b + i]! dk[a + i]!
      have n44a : (enc dk[a + i]!).length = k := R.hk _
      have n44b : (enc dk[b + i]!).length = k := R.hk _
      generalize enc dk[a + i]! = cI44 at S2 l44a s44b n44a
      generalize enc dk[b + i]! = cJ44 at S2 l44b s44a s44b n44b
      clear S1
      go_wp2_with fail
      go_big_region_o
      clear l44a l44b s44a s44b
      generalize (wr.drew.setCells blk (off + (a + i) * k) cJ44).setCells blk (off + (b + i) * k) cI44 = w2 at S2 ⊢
      go_wp2
      go_roundg (n - (i + 1))
      case measure => omega
      case rel => exact ⟨i + 1, by go_num, by omega, Nat.le_refl _, by rw [HD.out]; exact S2⟩
    · have hin2 : i = n := by omega
      subst hin2
      go_wp2
      go_end0
      exact ⟨rfl, S1.out⟩
theorem swrZ {k : Nat} (L : SymP P k) (enc : α → List Value) (g : Nat) (cb : Array Value) (blk off cap a b n sz : Nat) (x y z : Int) (d0 d : Array α) (w0 w : World)
    (R : RowK enc k w0 blk off d0) (hs : d0.size = d.size) (S : SWK enc k w0 blk off d w) (hx : x = a) (hy : y = b) (hz : z = n) (hsd : sz = d.size) (hab : a + n ≤ b) (hb : b + n ≤ d.size) (hsz : d.size < 4611686018427387904) :
    Calls P 83 #[.slice (some ⟨blk, off, none⟩) sz cap, .int .i64 x, .int .i64 y, .int .i64 z, .func (.func g) #[] cb] w fun e w' => e = .returned (.tuple #[]) ∧ SWK enc k w0 blk off (rngSwap d a b n) w' := by
  subst hx hy hz hsd
  exact swrW L enc g cb blk off cap a b n d0 d w0 w R hs S hab hb hsz

set_option maxHeartbeats 4000000 in
set_option maxRecDepth 1000000 in
theorem rotW {k : Nat} (L : SymP P k) (enc : α → List Value) (g : Nat) (cb : Array Value) (blk off cap a m b : Nat) (d0 d : Array α) (w0 w : World)
    (R : RowK enc k w0 blk off d0) (hs : d0.size = d.size) (S : SWK enc k w0 blk off d w) (ham : a < m) (hmb : m < b) (hb : b ≤ d.size) (hsz : d.size < 4611686018427387904) :
    Calls P 78 #[.slice (some ⟨blk, off, none⟩) d.size cap, .int .i64 a, .int .i64 m, .int .i64 b, .func (.func g) #[] cb] w fun e w' => e = .returned (.tuple #[]) ∧ ∃ d', Rot a m b d d' ∧ SWK enc k w0 blk off d' w' := by
  have mixed := L.mixed; have t0 := L.t0; have a0 := L.a0; have z0 := L.z0; have v0 := L.v0; have t3 := L.t3; have a3 := L.a3; have z3 := L.z3; have v3 := L.v3; have t4 := L.t4; have a4 := L.a4; have z4 := L.z4; have v4 := L.v4; have tS := L.tS; have aS := L.aS; have zS := L.zS; have vS := L.vS; have tF := L.tF; have aF := L.aF; have zF := L.zF; have vF := L.vF
  have esw : ∀ args w, (callFunc 83 args).run P w = .ok (.enter 83 args) w := enters_of L.fsw (by kernel_rfl) rfl
  have S0 : Aside (SWK enc k w0 blk off d w) := S
  clear S
  have hr1 : IntKind.i64.wrap ((m : Int) - (a : Int)) = (m : Int) - (a : Int) := by rw [IntKind.wrap_i64]; omega
  have hr2 : IntKind.i64.wrap ((b : Int) - (m : Int)) = (b : Int) - (m : Int) := by rw [IntKind.wrap_i64]; omega
  go_enter L.fro, Tryd.ntmps78
  go_wp2
  go_loopg [10, 11] (b - a) (fun kx s10 s11 wr => ∃ (i j : Nat) (dk : Array α) (x y : Int), s10 = .int .i64 x ∧ s11 = .int .i64 y ∧ x = i ∧ y = j ∧ 0 < i ∧ 0 < j ∧ a + i ≤ m ∧ m + j ≤ b ∧ i + j ≤ kx ∧ dk.size = d.size ∧ Hid (PermIn a b d dk ∧ ∀ q, rotG (m - i) m (m + j) (fun q => dk[q]!) q = rotG a m b (fun q => d[q]!) q) ∧ Aside (SWK enc k w0 blk off dk wr))
  case atStart => exact ⟨m - a, b - m, d, _, _, rfl, rfl, by omega, by omega, by omega, by omega, by omega, by omega, by omega, rfl, ⟨permIn_refl _ _ _, fun q => by rw [show m - (m - a) = a by omega, show m + (b - m) = b by omega]⟩, S0⟩
  case round =>
    clear S0 hr1 hr2
    obtain ⟨i, j, dk, x, y, rfl, rfl, hx, hy, hi0, hj0, him, hjb, hkx, hds, HR, S1⟩ := hrel
    have hr1 : IntKind.i64.wrap ((m : Int) - x) = (m : Int) - x := by rw [IntKind.wrap_i64]; omega
    have hr2 : IntKind.i64.wrap ((m : Int) + y) = (m : Int) + y := by rw [IntKind.wrap_i64]; omega
    have hr3 : IntKind.i64.wrap ((m : Int) + y - x) = (m : Int) + y - x := by rw [IntKind.wrap_i64]; omega
    have hr4 : IntKind.i64.wrap (x - y) = x - y := by rw [IntKind.wrap_i64]; omega
    have hr5 : IntKind.i64.wrap (y - x) = y - x := by rw [IntKind.wrap_i64]; omega
    rcases Nat.lt_trichotomy i j with hij | hij | hij
    · have hne : (x != y) = true := by simp; omega
      have hgt : ¬ y < x := by omega
      go_wp2_with (go_at_fn 83; refine (swrZ L enc g cb blk off cap (m - i) (m + j - i) i d.size _ _ _ d0 dk w0 _ R (by omega) S1.out (by omega) (by omega) (by omega) hds.symm (by omega) (by omega) (by omega)).mono ?_; rintro e w1 ⟨rfl, S2⟩)
      have S3 : Aside _ := S2
      clear S2
      go_roundg (i + (j - i))
      case measure => omega
      case rel => exact ⟨i, j - i, _, _, _, rfl, rfl, by omega, by omega, by omega, by omega, by omega, by omega, Nat.le_refl _, by rw [rngSwap_size]; exact hds, ⟨permIn_trans _ _ _ _ _ HR.out.1 (rngSwap_perm _ _ _ _ _ (by omega) (by omega) _ (by omega) (by omega)), fun q => by rw [rot_lt (fun q => dk[q]!) _ m i j hij (by omega) (fun q => rngSwap_get dk _ _ _ (by omega) (by omega) q)]; exact HR.out.2 q⟩, S3⟩
    · subst hij
      have hne : (x != y) = false := by simp; omega
      go_wp2_with (go_at_fn 83; refine (swrZ L enc g cb blk off cap (m - i) m i d.size _ _ _ d0 dk w0 _ R (by omega) S1.out (by omega) (by omega) (by omega) hds.symm (by omega) (by omega) (by omega)).mono ?_; rintro e w1 ⟨rfl, S2⟩)
      have S3 : Aside _ := S2
      clear S2
      go_end0
      exact ⟨rfl, _, ⟨permIn_trans _ _ _ _ _ HR.out.1 (rngSwap_perm _ _ _ _ _ (by omega) (by omega) _ (by omega) (by omega)), fun q => by rw [← HR.out.2 q]; exact rot_eq (fun q => dk[q]!) (fun q => (rngSwap dk (m - i) m i)[q]!) m i (by omega) (fun q => rngSwap_get dk _ _ _ (by omega) (by omega) q) q⟩, S3.out⟩
    · have hne : (x != y) = true := by simp; omega
      have hgt : y < x := by omega
      go_wp2_with (go_at_fn 83; refine (swrZ L enc g cb blk off cap (m - i) m j d.size _ _ _ d0 dk w0 _ R (by omega) S1.out (by omega) (by omega) (by omega) hds.symm (by omega) (by omega) (by omega)).mono ?_; rintro e w1 ⟨rfl, S2⟩)
      have S3 : Aside _ := S2
      clear S2
      go_roundg (i - j + j)
      case measure => omega
      case rel => exact ⟨i - j, j, _, _, _, rfl, rfl, by omega, by omega, by omega, by omega, by omega, by omega, Nat.le_refl _, by rw [rngSwap_size]; exact hds, ⟨permIn_trans _ _ _ _ _ HR.out.1 (rngSwap_perm _ _ _ _ _ (by omega) (by omega) _ (by omega) (by omega)), fun q => by rw [rot_gt (fun q => dk[q]!) _ m i j hij (by omega) (fun q => rngSwap_get dk _ _ _ (by omega) (by omega) q)]; exact HR.out.2 q⟩, S3⟩
end Go.Proofs.YtdlphgknplomkaaDoor
