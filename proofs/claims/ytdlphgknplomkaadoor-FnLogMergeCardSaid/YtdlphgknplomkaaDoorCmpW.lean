/- The library's Compact at elements of k cells, and at entries. No statement is proved here. -/
import Derived.Test.YtdlphgknplomkaaDoorSymZ
import Derived.Shelf.RegionOpenPlain
import Derived.Lib.SlicesCompact
import Derived.Lib.SliceRun
import Derived.Laws.StructEq
namespace Go.Proofs.YtdlphgknplomkaaDoor
open Go.Shelf Go.RowKit Go.Sort

section
variable {P : Program} {α : Type} [Inhabited α]
theorem setMany_put (enc : α → List Value) (k : Nat) (hk : ∀ x, (enc x).length = k) (d : Array α) (i : Nat) (hi : i < d.size) (x : α) : setMany (flatK enc k d) (i * k) (enc x) = flatK enc k (d.setIfInBounds i x) := by
  refine ext_get! (by simp) fun t ht => ?_
  have ht' : t < d.size * k := by simpa using ht
  have k0 : 0 < k := by rcases Nat.eq_zero_or_pos k with h | h; · subst h; simp at ht'
                        · exact h
  rw [get_setMany _ _ _ t (by simpa using ht'), get_flatK _ _ _ t ht', get_flatK _ _ _ t (by simpa using ht'), hk]
  by_cases b : t / k = i
  · rw [if_pos ((blk_iff k i t k0).2 b), b, getElem!_set_same d i x hi]
    have : t - i * k = t % k := by subst b; rw [Nat.mod_eq_sub_div_mul]
    rw [this]
  · rw [if_neg (fun h => b ((blk_iff k i t k0).1 h)), getElem!_set_other d i (t / k) x b]
variable {enc : α → List Value} {k : Nat} {w0 W : World} {blk off : Nat} {dk : Array α}
theorem swk_put (h : SWK enc k w0 blk off dk W) (hk : ∀ x, (enc x).length = k) (hblk : blk < w0.heap.size) (i : Nat) (hi : i < dk.size) (x : α) : SWK enc k w0 blk off (dk.setIfInBounds i x) (W.setCells blk (off + i * k) (enc x)) := by
  obtain ⟨n, os, rfl⟩ := h
  refine ⟨n, os, ?_⟩
  unfold sortWorldK
  rw [setCells_grow os blk _ _ _ (by rw [size_putRowK]; exact hblk)]
  unfold putRowK
  rw [setCells_putRow _ _ _ _ _ _ (by rw [hk, size_flatK]; exact rowK_bnd dk k i hi), setMany_put enc k hk dk i hi x]
theorem setCells_app (b : Nat) : ∀ (vs us : List Value) (o : Nat) (w : World), w.setCells b o (vs ++ us) = (w.setCells b o vs).setCells b (o + vs.length) us
  | [], _, _, _ => rfl
  | v :: r, us, o, w => by
    rw [List.cons_append, World.setCells, World.setCells, setCells_app b r us (o + 1)]
    rw [List.length_cons, show o + 1 + r.length = o + (r.length + 1) by omega]
theorem swk_lay (hk : ∀ x, (enc x).length = k) (hblk : blk < w0.heap.size) : ∀ (xs : List α) (dk : Array α) (W : World) (j : Nat), SWK enc k w0 blk off dk W → j + xs.length ≤ dk.size → SWK enc k w0 blk off (Lib.lay dk j xs) (W.setCells blk (off + j * k) (xs.flatMap enc))
  | [], _, _, _, h, _ => h
  | x :: r, dk, W, j, h, hj => by
    have hl : j + (r.length + 1) ≤ dk.size := by simpa using hj
    rw [List.flatMap_cons, setCells_app, hk, show off + j * k + k = off + (j + 1) * k by rw [Nat.add_mul, Nat.one_mul, Nat.add_assoc]]
    exact swk_lay hk hblk r _ _ (j + 1) (swk_put h hk hblk j (by omega) x) (by simp; omega)

/-- what a walk of Compact is told of the program -/
structure ComP (P : Program) (k : Nat) (enc : α → List Value) [DecidableEq α] (zr : α) (zv : Value) : Prop where
  mixed : P.follows .mixedOrders = true
  fcm : P.funcs[51]? = some Tryd.f51
  t0 : P.underlying 0 = some (TypeDesc.tuple #[])
  a0 : ∀ w, (isAgg 0).run P w = .ok false w
  z0 : ∀ w, (Go.sizeOf 0).run P w = .ok 1 w
  v0 : ∀ w, (zeroValue 0).run P w = .ok (Value.tuple #[]) w
  t3 : P.underlying 3 = some (TypeDesc.int IntKind.i64)
  a3 : ∀ w, (isAgg 3).run P w = .ok false w
  z3 : ∀ w, (Go.sizeOf 3).run P w = .ok 1 w
  v3 : ∀ w, (zeroValue 3).run P w = .ok (Value.int IntKind.i64 0) w
  t4 : P.underlying 4 = some (TypeDesc.bool)
  a4 : ∀ w, (isAgg 4).run P w = .ok false w
  z4 : ∀ w, (Go.sizeOf 4).run P w = .ok 1 w
  v4 : ∀ w, (zeroValue 4).run P w = .ok (Value.bool false) w
  tS : P.underlying 23 = some (TypeDesc.slice 25)
  aS : ∀ w, (isAgg 23).run P w = .ok false w
  zS : ∀ w, (Go.sizeOf 23).run P w = .ok 1 w
  vS : ∀ w, (zeroValue 23).run P w = .ok (Value.slice none 0 0) w
  aE : ∀ w, (isAgg 25).run P w = .ok true w
  zE : ∀ w, (Go.sizeOf 25).run P w = .ok k w
  vE : ∀ w, (zeroValue 25).run P w = .ok zv w
  zer : ∀ n, (Builtin.zeroCells zv.cells n).toList = (List.replicate n zr).flatMap enc
  eql : ∀ (x y : α) (w : World), Sem.run P (binOp .eql 25 (.agg (enc x).toArray) (.agg (enc y).toArray)) w = .ok (.bool (decide (x = y))) w
  neq : ∀ (x y : α) (w : World), Sem.run P (binOp .neq 25 (.agg (enc x).toArray) (.agg (enc y).toArray)) w = .ok (.bool (!decide (x = y))) w
  eqg : ∀ (op : BinOp) (a b : Operand) (x y : α) (w : World), Sem.run P (eqGuard op 25 a b (.agg (enc x).toArray) (.agg (enc y).toArray)) w = .ok () w

theorem clear_k [DecidableEq α] {zr : α} {zv : Value} (L : ComP P k enc zr zv) (R : RowK enc k w0 blk off dk) {dj : Array α} (S : SWK enc k w0 blk off dj W) (hs : dj.size = dk.size) (j n c : Nat) (hn : 0 < n) (hj : j + n ≤ dj.size) (ty : TypeId) :
    (Builtin.clear_ #[23] ty #[.slice (some ⟨blk, off + j * k, none⟩) n c]).run P W = .ok (.tuple #[]) (W.setCells blk (off + j * k) ((List.replicate n zr).flatMap enc)) := by
  have hH := S.holds R.hblk R.hH hs
  have hlen : ((List.replicate n zr).flatMap enc).length = n * k := by
    clear hj hn
    induction n with
    | zero => simp
    | succ n ih => rw [List.replicate_succ, List.flatMap_cons, List.length_append, ih, R.hk, Nat.add_mul, Nat.one_mul, Nat.add_comm]
  have hst := stores_of_holds P hH (j * k) ((List.replicate n zr).flatMap enc) (by
    rw [hlen, size_flatK, ← Nat.add_mul]
    exact Nat.mul_le_mul_right k hj) (by
    intro v hv
    rw [List.mem_flatMap] at hv
    obtain ⟨x, _, hx⟩ := hv
    exact R.h1 x v hx)
  rw [← L.zer n] at hst ⊢
  obtain ⟨m, rfl⟩ : ∃ m, n = m + 1 := ⟨n - 1, by omega⟩
  simp [Builtin.clear_, run_underlying L.tS, L.vE, hst]

set_option maxHeartbeats 4000000 in
set_option maxRecDepth 1000000 in
theorem compG [DecidableEq α] {zr : α} {zv : Value} (L : ComP P k enc zr zv) (cap : Nat) (d0 d : Array α) (w : World) (R : RowK enc k w0 blk off d0) (hs : d0.size = d.size) (S : SWK enc k w0 blk off d w) (hcap : d.size ≤ cap) (hsz : d.size < 4611686018427387904) :
    Calls P 51 #[.slice (some ⟨blk, off, none⟩) d.size cap] w fun e w' => e = .returned (.slice (some ⟨blk, off, none⟩) (Lib.compactUpTo d d.size).length cap) ∧ ∃ d' : Array α, d'.size = d.size ∧ d'.toList.take (Lib.compactUpTo d d.size).length = Lib.compactUpTo d d.size ∧ SWK enc k w0 blk off d' w' := by
  have mixed := L.mixed; have t0 := L.t0; have a0 := L.a0; have z0 := L.z0; have v0 := L.v0; have t3 := L.t3; have a3 := L.a3; have z3 := L.z3; have v3 := L.v3; have t4 := L.t4; have a4 := L.a4; have z4 := L.z4; have v4 := L.v4; have tS := L.tS; have aS := L.aS; have zS := L.zS; have vS := L.vS; have aE := L.aE; have zE := L.zE
  have S0 : Aside (SWK enc k w0 blk off d w) := S
  clear S
  have hall : Hid ((∀ j, j < d.size → Lib.keeps d j = true) → (Lib.compactUpTo d d.size).length = d.size ∧ d.toList.take (Lib.compactUpTo d d.size).length = Lib.compactUpTo d d.size) := fun h => by
    rw [Lib.compactUpTo_all d _ h, Lib.range_map_get]
    exact ⟨by simp, List.take_of_length_le (Nat.le_refl _)⟩
  by_cases h2 : d.size < 2
  · have h2z : (d.size : Int) < 2 := by omega
    go_enter L.fcm, Tryd.ntmps51
    go_wp2
    go_ret
    obtain ⟨e1, e2⟩ := hall.out (fun j hj => Lib.keeps_lt_one d j (by omega))
    exact ⟨by rw [e1]; rfl, d, rfl, e2, S0.out⟩
  · have h2z : ¬ (d.size : Int) < 2 := by omega
    go_enter L.fcm, Tryd.ntmps51
    go_wp2
    go_loopg [3] d.size (fun g s3 wr => ∃ q : Nat, s3 = .int .i64 q ∧ 1 ≤ q ∧ q ≤ d.size ∧ d.size - q ≤ g ∧ Hid (∀ j, j < q → Lib.keeps d j = true) ∧ Aside (SWK enc k w0 blk off d wr))
    case atStart => exact ⟨1, rfl, Nat.le_refl _, by omega, by omega, Lib.keeps_lt_one d, S0⟩
    case round =>
      clear S0
      obtain ⟨q, rfl, hq1, hq, hg, HA, S1⟩ := hrel
      by_cases hlt : q < d.size
      · have hltz : (q : Int) < (d.size : Int) := by omega
        obtain ⟨x, hx⟩ : ∃ x, x = d[q]! := ⟨_, rfl⟩
        obtain ⟨y, hy⟩ : ∃ y, y = d[q - 1]! := ⟨_, rfl⟩
        have l1 := S1.out.ld1 R hs.symm P q hlt
        have l2 := S1.out.ld1 R hs.symm P (q - 1) (by omega)
        rw [← hx] at l1; rw [← hy] at l2
        have HXY : Hid (x = d[q]! ∧ y = d[q - 1]!) := ⟨hx, hy⟩
        have heq : ∀ w, Sem.run P (binOp .eql 25 (.agg (enc x).toArray) (.agg (enc y).toArray)) w = .ok (.bool (decide (x = y))) w := fun w => L.eql x y w
        have hgd : ∀ (op : BinOp) (a b : Operand) (w : World), Sem.run P (eqGuard op 25 a b (.agg (enc x).toArray) (.agg (enc y).toArray)) w = .ok () w := fun op a b w => L.eqg op a b x y w
        have eq1 : ((q : Int) - 1).toNat = q - 1 := by omega
        have pq1 : (0 : Int) ≤ (q : Int) - 1 := by omega
        have bq1 : (q : Int) - 1 < (d.size : Int) := by omega
        have rq1 : IntKind.i64.wrap ((q : Int) - 1) = (q : Int) - 1 := by rw [IntKind.wrap_i64]; omega
        clear hx hy
        by_cases hdup : x = y
        · have hb : decide (x = y) = true := decide_eq_true hdup
          have hcq : ¬ cap = q := by omega
          have hq0 : (0 : Int) ≤ (q : Int) := by omega
          have hqc : (q : Int) ≤ (cap : Int) := by omega
          have hqn : (q : Int) ≤ (d.size : Int) := by omega
          have HDUP := Lib.hid hdup; clear hdup
          go_wp2_with fail
          go_region_o
          have S2 : Aside (SWK enc k w0 blk off d wr.drew) := S1.out.drew
          clear l1 l2 heq hgd S1
          go_wp2
          go_loopg [3, 5] d.size (fun g s3 s5 wr => ∃ (p q2 : Nat) (dk : Array α), s3 = .int .i64 p ∧ s5 = .int .i64 q2 ∧ 1 ≤ q2 ∧ q + q2 ≤ d.size ∧ d.size - (q + q2) ≤ g ∧ p < q + q2 ∧ dk.size = d.size ∧ Hid (Lib.CompInv d (q + q2) p dk) ∧ Aside (SWK enc k w0 blk off dk wr))
          case atStart => exact ⟨q, 1, d, rfl, rfl, Nat.le_refl _, by omega, by omega, by omega, rfl, Lib.CompInv.start HA.out (Lib.keeps_neg (by omega) (by rw [← HXY.out.1, ← HXY.out.2, HDUP.out])), S2⟩
          case round =>
            clear S2
            obtain ⟨p, q2, dk, rfl, rfl, h1, hle, hg2, hpq, hds, HI, S3⟩ := hrel
            by_cases hlt2 : q + q2 < d.size
            · have hltz2 : (q2 : Int) < ((d.size - q : Nat) : Int) := by omega
              obtain ⟨u, hu⟩ : ∃ u, u = d[q + q2]! := ⟨_, rfl⟩
              obtain ⟨v, hv⟩ : ∃ v, v = d[q + q2 - 1]! := ⟨_, rfl⟩
              have lu : Sem.run P (loadCellsFrom ⟨blk, off + q * k + q2 * k, none⟩ 0 k #[]) wr.drew = .ok (enc u).toArray wr.drew := by
                have := S3.out.ld1 R (by omega) P (q + q2) (by omega)
                rw [HI.out.high _ (by omega), ← hu] at this
                rwa [Nat.add_mul, ← Nat.add_assoc] at this
              have lv : Sem.run P (loadCellsFrom ⟨blk, off + q * k + (q2 - 1) * k, none⟩ 0 k #[]) wr.drew = .ok (enc v).toArray wr.drew := by
                have := S3.out.ld1 R (by omega) P (q + q2 - 1) (by omega)
                rw [HI.out.high _ (by omega), ← hv] at this
                rwa [show q + q2 - 1 = q + (q2 - 1) by omega, Nat.add_mul, ← Nat.add_assoc] at this
              have st := S3.out.st1 R (by omega) P p (by omega) u
              have SP : Hid (SWK enc k w0 blk off (dk.setIfInBounds p u) (wr.drew.setCells blk (off + p * k) (enc u))) := swk_put S3.out.drew R.hk R.hblk p (by omega) u
              have SD : Hid (SWK enc k w0 blk off dk wr.drew) := S3.out.drew
              have HUV : Hid (u = d[q + q2]! ∧ v = d[q + q2 - 1]!) := ⟨hu, hv⟩
              have heq : ∀ w, Sem.run P (binOp .neq 25 (.agg (enc u).toArray) (.agg (enc v).toArray)) w = .ok (.bool (!decide (u = v))) w := fun w => L.neq u v w
              have hgd : ∀ (op : BinOp) (a b : Operand) (w : World), Sem.run P (eqGuard op 25 a b (.agg (enc u).toArray) (.agg (enc v).toArray)) w = .ok () w := fun op a b w => L.eqg op a b u v w
              have nu : (enc u).length = k := R.hk u
              have eq2 : ((q2 : Int) - 1).toNat = q2 - 1 := by omega
              have pq2 : (0 : Int) ≤ (q2 : Int) - 1 := by omega
              have bq2 : (q2 : Int) - 1 < ((d.size - q : Nat) : Int) := by omega
              have rq2 : IntKind.i64.wrap ((q2 : Int) - 1) = (q2 : Int) - 1 := by rw [IntKind.wrap_i64]; omega
              clear hu hv S3
              by_cases huv : u = v
              · have hb2 : decide (u = v) = true := decide_eq_true huv
                have HUU := Lib.hid huv; clear huv st SP nu
                go_wp2_with fail
                go_region_o
                go_wp2
                go_roundg (d.size - (q + (q2 + 1)))
                case measure => omega
                case rel => exact ⟨p, q2 + 1, dk, rfl, by go_num, by omega, by omega, Nat.le_refl _, by omega, hds, HI.out.skip (Lib.keeps_neg (by omega) (by rw [← HUV.out.1, ← HUV.out.2, HUU.out])), SD.out⟩
              · have hb2 : decide (u = v) = false := decide_eq_false huv
                have HUU := Lib.hid huv; clear huv
                have hp0 : (0 : Int) ≤ (p : Int) := by omega
                have hpn : (p : Int) < (d.size : Int) := by omega
                go_wp2_with fail
                go_region_o
                go_wp2
                go_roundg (d.size - (q + (q2 + 1)))
                case measure => omega
                case rel => exact ⟨p + 1, q2 + 1, dk.setIfInBounds p u, by go_num, by go_num, by omega, by omega, Nat.le_refl _, by omega, by simpa using hds, by have := HI.out.keep hlt2 (Lib.keeps_pos (by rw [← HUV.out.1, ← HUV.out.2]; exact HUU.out)); rw [← HUV.out.1] at this; exact this, SP.out⟩
            · have hend : q + q2 = d.size := by omega
              have hltz2 : ¬ (q2 : Int) < ((d.size - q : Nat) : Int) := by omega
              have hcl : ∀ ty, (Builtin.clear_ #[23] ty #[.slice (some ⟨blk, off + p * k, none⟩) (d.size - p) (cap - p)]).run P wr = .ok (.tuple #[]) (wr.setCells blk (off + p * k) ((List.replicate (d.size - p) zr).flatMap enc)) := fun ty => clear_k L R S3.out (by omega) p (d.size - p) (cap - p) (by omega) (by omega) ty
              have SL : Hid (SWK enc k w0 blk off (Lib.lay dk p (List.replicate (d.size - p) zr)) (wr.setCells blk (off + p * k) ((List.replicate (d.size - p) zr).flatMap enc))) := swk_lay R.hk R.hblk _ dk wr p S3.out (by simp; omega)
              have HEND := Lib.hid hend; clear hend S3 hq0 hqc hqn hcq
              have hcp : ¬ cap = p := by omega
              have hp0 : (0 : Int) ≤ (p : Int) := by omega
              have hpc : (p : Int) ≤ (cap : Int) := by omega
              have hpn : (p : Int) ≤ (d.size : Int) := by omega
              go_wp2
              go_ret
              have hI := HI.out
              rw [HEND.out] at hI
              refine ⟨by rw [hI.len]; rfl, _, ?_, ?_, SL.out⟩
              · rw [hI.done zr]; simp [hI.len]; omega
              · rw [hI.done zr]; simp
        · have hb : decide (x = y) = false := decide_eq_false hdup
          have HDUP := Lib.hid hdup; clear hdup
          go_wp2_with fail
          go_region_o
          have S2 : Aside (SWK enc k w0 blk off d wr.drew) := S1.out.drew
          clear l1 l2 heq hgd S1
          go_wp2
          go_roundg (d.size - (q + 1))
          case measure => omega
          case rel =>
            refine ⟨q + 1, by go_num, by omega, by omega, Nat.le_refl _, fun j hj => ?_, S2⟩
            by_cases e : j = q
            · subst e
              exact Lib.keeps_pos (by rw [← HXY.out.1, ← HXY.out.2]; exact HDUP.out)
            · exact HA.out j (by omega)
      · have hqe : q = d.size := by omega
        have hltz : ¬ (q : Int) < (d.size : Int) := by omega
        have HQE := Lib.hid hqe; clear hqe
        go_wp2
        go_ret
        obtain ⟨e1, e2⟩ := hall.out (by rw [← HQE.out]; exact HA.out)
        exact ⟨by rw [e1]; rfl, d, rfl, e2, S1.out⟩
end

instance : DecidableEq Entry := fun a b => decidable_of_iff (eqE a b = true) (eqE_iff a b)
theorem dec_eqE (a b : Entry) : decide (a = b) = eqE a b := by
  rw [Bool.eq_iff_iff, decide_eq_true_eq, eqE_iff]
theorem eq_agg (x y : Entry) (w : World) : (Op.equalIn 10000 25 (.agg x.cells.toArray) (.agg y.cells.toArray)).run Tryd.prog w = .ok (decide (x = y)) w := by
  have u3 := Tryd.underlying3
  have a3 := Tryd.isAgg3
  have z3 := Tryd.sizeOf3
  have hS : Tryd.prog.underlying 25 = some (.struct (Tryd.prog.fieldsOf 25)) := by kernel_rfl
  have hp : Tryd.prog.stoodInHeld 25 = false := by kernel_rfl
  rw [dec_eqE]
  obtain ⟨t, u, v, x⟩ := x
  obtain ⟨t', u', v', x'⟩ := y
  simp only [Entry.cells]
  rw [show (10000 : Nat) = 9999 + 1 from rfl, run_equalIn_agg w 9999 25 _ _ hS hp]
  simp only [Program.fieldsOf, Tryd.underlying25]
  go_simp
  by_cases h1 : t = t' <;> by_cases h2 : u = u' <;> by_cases h3 : v = v' <;> by_cases h4 : x = x' <;> simp [h1, h2, h3, h4, eqE]
theorem zer_E (n : Nat) : (Builtin.zeroCells (Value.agg #[.int .i64 0, .int .i64 0, .int .i64 0, .int .i64 0]).cells n).toList = (List.replicate n Entry.zero).flatMap Entry.cells := by
  apply List.ext_getElem
  · simp [Builtin.zeroCells, Value.cells, List.length_flatMap, Entry.cells]
  · intro i h1 h2
    have hi : i < n * 4 := by simpa [Builtin.zeroCells, Value.cells] using h1
    have hz : ((List.replicate n Entry.zero).flatMap Entry.cells)[i / 4 * 4 + i % 4]? = ((List.replicate n Entry.zero).getD (i / 4) Entry.zero).cells[i % 4]? := flat_get Entry.cells 4 Entry.cells_length Entry.zero (List.replicate n Entry.zero) (i / 4) (i % 4) (by simp; omega) (by omega)
    rw [show i / 4 * 4 + i % 4 = i by omega, List.getElem?_eq_getElem h2] at hz
    have hd : (List.replicate n Entry.zero).getD (i / 4) Entry.zero = Entry.zero := by simp [List.getElem?_replicate]; split <;> rfl
    rw [hd] at hz
    have h4 : i % 4 = 0 ∨ i % 4 = 1 ∨ i % 4 = 2 ∨ i % 4 = 3 := by omega
    have hq : (((List.replicate n Entry.zero).flatMap Entry.cells)[i]) = .int .i64 0 := by
      rcases h4 with e | e | e | e <;> rw [e] at hz <;> exact Option.some.inj hz
    rw [hq]
    simp only [Builtin.zeroCells, Value.cells, Array.getElem_toList, Array.getElem_map, Array.getElem_range]
    rcases h4 with e | e | e | e <;> simp [e]
theorem comP : ComP Tryd.prog 4 Entry.cells Entry.zero (.agg #[.int .i64 0, .int .i64 0, .int .i64 0, .int .i64 0]) := {
  mixed := by kernel_rfl
  fcm := Tryd.func51
  t0 := Tryd.underlying0
  a0 := Tryd.isAgg0
  z0 := Tryd.sizeOf0
  v0 := Tryd.zeroValue0
  t3 := Tryd.underlying3
  a3 := Tryd.isAgg3
  z3 := Tryd.sizeOf3
  v3 := Tryd.zeroValue3
  t4 := Tryd.underlying4
  a4 := Tryd.isAgg4
  z4 := Tryd.sizeOf4
  v4 := Tryd.zeroValue4
  tS := Tryd.underlying23
  aS := Tryd.isAgg23
  zS := Tryd.sizeOf23
  vS := Tryd.zeroValue23
  aE := Tryd.isAgg25
  zE := Tryd.sizeOf25
  vE := Tryd.zeroValue25
  zer := zer_E
  eql := fun x y w => by show (binOp _ _ _ _).run _ _ = _; rw [run_eql_struct, eq_agg]; rfl
  neq := fun x y w => by show (binOp _ _ _ _).run _ _ = _; rw [run_neq_struct, eq_agg]; rfl
  eqg := fun op a b x y w => run_eqGuard_agg w op _ a b _ _ (by kernel_rfl) }

/-- the plain reading of what Compact leaves -/
theorem compact_compE (l : List Entry) : Lib.compactUpTo l.toArray l.toArray.size = compE l := by
  cases l with
  | nil => rfl
  | cons x t =>
    have key : ∀ (t : List Entry) (p : Entry) (pre : List Entry), Lib.compactUpTo (pre ++ p :: t).toArray (pre ++ p :: t).length = Lib.compactUpTo (pre ++ p :: t).toArray (pre.length + 1) ++ compFrom p t := by
      intro t
      induction t with
      | nil => intro p pre; simp [compFrom]
      | cons y t ih =>
        intro p pre
        have h := ih y (pre ++ [p])
        rw [show pre ++ [p] ++ y :: t = pre ++ p :: y :: t by simp] at h
        rw [h, List.length_append, List.length_singleton, Lib.compactUpTo_succ, List.append_assoc, compFrom]
        have e1 : (pre ++ p :: y :: t).toArray[pre.length + 1]! = y := by simp
        have e0 : (pre ++ p :: y :: t).toArray[pre.length + 1 - 1]! = p := by simp
        by_cases hpy : p = y
        · rw [Lib.keeps_neg (by omega) (by rw [e1, e0, hpy]), (eqE_iff p y).2 hpy]; simp
        · have hf : eqE p y = false := by rw [← Bool.not_eq_true, eqE_iff]; exact hpy
          rw [Lib.keeps_pos (by rw [e1, e0]; exact fun e => hpy e.symm), hf, e1]; simp
    have h := key t x []
    simp only [List.nil_append, List.length_nil, Nat.zero_add] at h
    rw [List.size_toArray, h, Lib.compactUpTo_succ, Lib.keeps_lt_one _ 0 (by omega), compE]
    simp [Lib.compactUpTo]
end Go.Proofs.YtdlphgknplomkaaDoor
