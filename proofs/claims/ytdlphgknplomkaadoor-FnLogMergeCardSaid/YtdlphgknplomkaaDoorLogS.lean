/- The contract of the reference's LogPut. No statement is proved here. -/
import Derived.Test.YtdlphgknplomkaaDoorLogP
import Derived.Test.YtdlphgknplomkaaDoorAppS
import Derived.Test.YtdlphgknplomkaaDoorDrX
import Derived.Test.YtdlphgknplomkaaDoorAft
import Derived.Deep.RegionLaw
import Derived.BigQuiet
namespace Go.Proofs.YtdlphgknplomkaaDoor
open Go.RowKit

theorem blk_in {w : World} {g : Nat} {o : Obj} (h : w.heap[g]? = some o) : g < w.heap.size := by
  rcases Nat.lt_or_ge g w.heap.size with hlt | hge
  · exact hlt
  · rw [Array.getElem?_eq_none hge] at h; cases h
theorem rowbox {w w' : World} {base n g : Nat} {E : TypeId} {size : Nat} {v : Value} {cs : List Value} {o : Obj} (hown : w.ownsRow base E size v n cs) (hg : w.grownBy w' v.ownBlock) (hb : g < base) (h : Hid (w.heap[g]? = some o)) : Hid (w'.heap[g]? = some o) :=
  (hg.block g (blk_in h.out) (fun e => by have := (hown.lt g e.symm).1; omega)).trans h.out
theorem grown_ge {w w1 w0 : World} {base : Nat} {v : Value} {E : TypeId} {size n : Nat} {cs : List Value} (hb : Below w0.heap.size w0 w) (hbase : w0.heap.size ≤ base) (hown : w.ownsRow base E size v n cs) (hg : w.grownBy w1 v.ownBlock) : Below w0.heap.size w0 w1 :=
  hb.grown hg (by have := hb.size; omega) (fun k hk => Nat.le_trans hbase (hown.lt k hk).1)
theorem be_boxL {g : Nat} {w w' : World} {o : Obj} (h : Hid (w.heap[g]? = some o)) (hb : Below w.heap.size w w') : Hid (w'.heap[g]? = some o) := (hb.block g (blk_in h.out)).trans h.out
theorem newboxL (w : World) (o : Obj) : Hid ((w.alloc o).heap[w.heap.size]? = some o) := heap_alloc_new w o
theorem boxcellL {g : Nat} {w : World} {cs : Array Value} {T : TypeId} (h : Hid (w.heap[g]? = some (.cells cs T (0, 0)))) (j : Nat) : w.cell? ⟨g, j, none⟩ = cs[j]? := cell_of_row w g j cs T (0, 0) h.out
theorem flatE_one (l : List Entry) : ∀ u ∈ flatEntry l, u.oneCell' = true := by
  intro u hu
  simp only [flatEntry, List.mem_flatMap] at hu
  obtain ⟨r, _, hr⟩ := hu
  simp only [Entry.cells, List.mem_cons, List.not_mem_nil, or_false] at hr
  rcases hr with rfl | rfl | rfl | rfl <;> rfl
theorem flatE_app (l m : List Entry) : flatEntry l ++ flatEntry m = flatEntry (l ++ m) := by simp [flatEntry]
theorem flatE_drop {w : World} {b o : Nat} {l : List Entry} (h : Rd w (some ⟨b, o, none⟩) (flatEntry l)) (k : Nat) : Rd w (some ⟨b, o + k * 4, none⟩) (flatEntry (l.drop k)) := by
  by_cases hk : k ≤ l.length
  · have e : flatEntry (l.drop k) = (flatEntry l).drop (k * 4) := by
      have h1 : flatEntry l = flatEntry (l.take k) ++ flatEntry (l.drop k) := by
        unfold flatEntry; rw [← List.flatMap_append, List.take_append_drop]
      have h2 : (flatEntry (l.take k)).length = k * 4 := by rw [flatEntry_length]; simp; omega
      rw [h1, ← h2, List.drop_left]
    rw [e]; exact rdPart h
  · rw [List.drop_eq_nil_of_le (by omega)]; exact Rd.nil
theorem flatE_len (l : List Entry) (n : Nat) (h : l.length = n) : (flatEntry l).length = n * 4 := by rw [flatEntry_length, h]
/-- where the entries that come before end -/
theorem tw_take {p : Entry → Bool} : ∀ {l : List Entry} {k : Nat}, k ≤ l.length → (∀ j, j < k → p (eAt l j) = true) → (k = l.length ∨ p (eAt l k) = false) → l.takeWhile p = l.take k ∧ l.dropWhile p = l.drop k
  | [], k, hk, _, _ => by have : k = 0 := by simpa using hk
                          subst this; simp
  | y :: l, 0, _, _, he => by
    have : p y = false := by
      rcases he with h | h
      · simp at h
      · simpa [eAt] using h
    simp [this]
  | y :: l, k + 1, hk, h, he => by
    have h0 : p y = true := by simpa [eAt] using h 0 (by omega)
    have ih := tw_take (p := p) (l := l) (k := k) (by simpa using hk) (fun j hj => by simpa [eAt] using h (j + 1) (by omega)) (by
      rcases he with h | h
      · left; simpa using h
      · right; simpa [eAt] using h)
    simp [h0, ih]
theorem insE_at {l : List Entry} {e : Entry} {k : Nat} (hk : k ≤ l.length) (h : ∀ j, j < k → lessB (eAt l j) e = true) (he : k = l.length ∨ lessB (eAt l k) e = false) : insE l e = l.take k ++ [e] ++ l.drop k := by
  obtain ⟨h1, h2⟩ := tw_take (p := fun x => lessB x e) hk h he
  rw [insE, h1, h2]; simp
theorem findI_cases (l : List Entry) (u v : Int) : (findI l u v = -1 ∧ ∀ j, j < l.length → sameB (eAt l j) u v = false) ∨ ∃ k : Nat, findI l u v = k ∧ k < l.length ∧ sameB (eAt l k) u v = true := by
  by_cases h : ∃ k, k < l.length ∧ sameB (eAt l k) u v = true
  · right
    obtain ⟨k, hk, hs⟩ := h
    obtain ⟨m, ⟨hm1, hm2⟩, hm3⟩ : ∃ m, (m < l.length ∧ sameB (eAt l m) u v = true) ∧ ∀ j, j < m → ¬ (j < l.length ∧ sameB (eAt l j) u v = true) := by
      induction k using Nat.strongRecOn with
      | _ k ih =>
        by_cases h2 : ∃ j, j < k ∧ sameB (eAt l j) u v = true
        · obtain ⟨j, hj, hs'⟩ := h2
          exact ih j hj (by omega) hs'
        · exact ⟨k, ⟨hk, hs⟩, fun j hj hc => h2 ⟨j, hj, hc.2⟩⟩
    exact ⟨m, findI_hit hm1 hm2 (fun j hj => by
      cases hc : sameB (eAt l j) u v with
      | false => rfl
      | true => exact absurd ⟨by omega, hc⟩ (hm3 j hj)), hm1, hm2⟩
  · left
    have hn : ∀ j, j < l.length → sameB (eAt l j) u v = false := fun j hj => by
      cases hc : sameB (eAt l j) u v with
      | false => rfl
      | true => exact absurd ⟨j, hj, hc⟩ h
    exact ⟨findI_none hn, hn⟩
/-- what putting returns -/
def RetLP (l : List Entry) (e : Entry) (w : World) (en : Ending) (w' : World) : Prop :=
  ∃ B d, en = .returned (.tuple #[.slice B (putV l e).1.length d, .bool (putV l e).2]) ∧ w'.ownsRow w.heap.size 25 4 (.slice B (putV l e).1.length d) (putV l e).1.length (flatEntry (putV l e).1) ∧ Below w.heap.size w w'
theorem retLP {l : List Entry} {e : Entry} {w w' : World} {B : Option Addr} {d m : Nat} {r : List Entry} {b : Bool} (h : putV l e = (r, b)) (hm : r.length = m) (ho : w'.ownsRow w.heap.size 25 4 (.slice B m d) m (flatEntry r)) (hb : Below w.heap.size w w') : RetLP l e w (.returned (.tuple #[.slice B m d, .bool b])) w' := by
  subst hm
  refine ⟨B, d, ?_, ?_, hb⟩ <;> rw [h]
  exact ho
theorem elIs (a b c d t u v x : Int) (r : Bool) (w : World) (h : lessB ⟨a, b, c, d⟩ ⟨t, u, v, x⟩ = r) : Calls Tryd.prog 27 #[.agg #[.int .i64 a, .int .i64 b, .int .i64 c, .int .i64 d], .agg #[.int .i64 t, .int .i64 u, .int .i64 v, .int .i64 x]] w fun e w' => e = .returned (.bool r) ∧ Below w.heap.size w w' := by
  subst h; exact elS a b c d t u v x w
theorem binE (a b c d t u v x : Int) (W : World) : (binOp .eql 25 (.agg #[.int .i64 a, .int .i64 b, .int .i64 c, .int .i64 d]) (.agg #[.int .i64 t, .int .i64 u, .int .i64 v, .int .i64 x])).run Tryd.prog W = .ok (.bool (eqE ⟨a, b, c, d⟩ ⟨t, u, v, x⟩)) W := by
  have hS : Tryd.prog.underlying 25 = some (.struct (Tryd.prog.fieldsOf 25)) := by kernel_rfl
  have hp : Tryd.prog.stoodInHeld 25 = false := by kernel_rfl
  rw [run_eql_struct, show (10000 : Nat) = 9999 + 1 from rfl, run_equalIn_agg W 9999 25 _ _ hS hp]
  simp only [Program.fieldsOf, Tryd.underlying25]
  go_simp
  unfold eqE
  by_cases h1 : a = t <;> by_cases h2 : b = u <;> by_cases h3 : c = v <;> by_cases h4 : d = x <;> simp [h1, h2, h3, h4]

set_option maxRecDepth 100000 in
set_option maxHeartbeats 4000000 in
theorem specLP (A : Option Addr) (n c : Nat) (l : List Entry) (t u v x : Int) (w : World) (hn : l.length = n) (hm : n ≤ 1048576) (hcap : n ≤ c) (hF : A = none ∧ c = 0 ∨ ∃ g, A = some ⟨g, 0, none⟩) (hA : Rd w A (flatEntry l)) :
    Calls Tryd.prog 11 #[.slice A n c, .agg #[.int .i64 t, .int .i64 u, .int .i64 v, .int .i64 x]] w (RetLP l ⟨t, u, v, x⟩ w) := by
  have HA := Lib.hid hA; clear hA
  have HN := Lib.hid hn; clear hn
  have HF := Lib.hid hF; clear hF
  obtain ⟨i0, hi0, hz0, hz1, hz2⟩ := info_parts info_Entry
  have HI := Lib.hid (And.intro hi0 (And.intro hz0 (And.intro hz1 hz2))); clear hi0 hz0 hz1 hz2
  have hb := allocB (allocB (Below.refl w.heap.size w) (.cells #[.int .i64 t, .int .i64 u, .int .i64 v, .int .i64 x] 25)) (.cells #[] 25)
  have hown : ((w.alloc (.cells #[.int .i64 t, .int .i64 u, .int .i64 v, .int .i64 x] 25)).alloc (.cells #[] 25)).ownsRow (w.heap.size + 1) 25 4 (.slice (some ⟨w.heap.size + 1, 0, none⟩) 0 0) 0 [] := by
    simpa using World.ownsRow_lit (base := w.heap.size + 1) (e := 25) (size := 4) (w.alloc (.cells #[.int .i64 t, .int .i64 u, .int .i64 v, .int .i64 x] 25)) #[] 0 (by simp) (Nat.zero_le _) rfl
  have BE := be_boxL (newboxL w (.cells #[.int .i64 t, .int .i64 u, .int .i64 v, .int .i64 x] 25)) (allocB (Below.refl _ _) (.cells #[] 25))
  have HW := Lib.hid hown; clear hown
  go_enter Tryd.func11, Tryd.ntmps11
  go_wp2_with fail
  refine (specLV A n c l _ HN.out hm (HA.out.below hb)).mono ?_
  rintro e w1 ⟨rfl, hbn⟩
  replace hb := seqB hb hbn
  replace BE := be_boxL BE hbn
  replace HW := Lib.hid (row_below HW.out hbn)
  clear hbn
  cases hv : logB l with
  | false =>
    go_wp2_with fail
    exact bodyPost_ret (v := .tuple #[.slice (some ⟨w.heap.size + 1, 0, none⟩) 0 0, .bool false]) (by simp [results, Tryd.results11, go_sem]) rfl (retLP (put_no hv) rfl (row_mono HW.out (Nat.le_succ _)) hb)
  | true =>
  have hn16 : n ≤ 16 := by have := log_len hv; have := HN.out; omega
  have HV := Lib.hid hv; clear hv
  have e0 := boxcellL BE 0; have e1 := boxcellL BE 1; have e2 := boxcellL BE 2; have e3 := boxcellL BE 3
  simp at e0 e1 e2 e3
  go_wp2_with fail
  refine (specFind A n c l u v _ HN.out hm (HA.out.below hb)).mono ?_
  rintro e w' ⟨rfl, rfl⟩
  rcases findI_cases l u v with ⟨hf, hno⟩ | ⟨k, hf, hkl, hs⟩
  rotate_left
  · rw [hf]
    have HP : Hid (putV l ⟨t, u, v, x⟩ = (l, eqE (l.getD k Entry.zero) ⟨t, u, v, x⟩)) := put_found (e := ⟨t, u, v, x⟩) HV.out hkl hs
    clear hf hs
    have hkn : k < n := by have := HN.out; omega
    obtain ⟨b, o, rfl, hbl, hc0, hc1, hc2, hc3⟩ := HA.out.atEntry (k := k) hkl
    clear hkl
    generalize l.getD k Entry.zero = r at *
    obtain ⟨r0, r1, r2, r3⟩ := r
    have hd0 : w1.drew.cell? ⟨b, o + k * 4, none⟩ = some (.int .i64 r0) := (hb.cell (p := ⟨b, o + k * 4, none⟩) hbl).trans hc0
    have hd1 : w1.drew.cell? ⟨b, o + k * 4 + 1, none⟩ = some (.int .i64 r1) := (hb.cell (p := ⟨b, o + k * 4 + 1, none⟩) hbl).trans hc1
    have hd2 : w1.drew.cell? ⟨b, o + k * 4 + 2, none⟩ = some (.int .i64 r2) := (hb.cell (p := ⟨b, o + k * 4 + 2, none⟩) hbl).trans hc2
    have hd3 : w1.drew.cell? ⟨b, o + k * 4 + 3, none⟩ = some (.int .i64 r3) := (hb.cell (p := ⟨b, o + k * 4 + 3, none⟩) hbl).trans hc3
    have f0 : w1.drew.cell? ⟨w.heap.size, 0, none⟩ = some (.int .i64 t) := e0
    have f1 : w1.drew.cell? ⟨w.heap.size, 1, none⟩ = some (.int .i64 u) := e1
    have f2 : w1.drew.cell? ⟨w.heap.size, 2, none⟩ = some (.int .i64 v) := e2
    have f3 : w1.drew.cell? ⟨w.heap.size, 3, none⟩ = some (.int .i64 x) := e3
    have hki : (k : Int) < (n : Int) := by omega
    have HRD : Hid (Rd w1.drew (some ⟨b, o, none⟩) (flatEntry l)) := Lib.hid (HA.out.below (drew1B hb))
    have HWD : Hid (w1.drew.ownsRow (w.heap.size + 1) 25 4 (.slice (some ⟨w.heap.size + 1, 0, none⟩) 0 0) 0 []) := HW
    have hbd := drew1B hb
    have HBE : Hid (w1.drew.heap[w.heap.size]? = some (.cells #[.int .i64 t, .int .i64 u, .int .i64 v, .int .i64 x] 25 (0, 0))) := BE
    have HCK := Lib.hid (And.intro hc0 (And.intro hc1 (And.intro hc2 hc3)))
    have hsz : w.heap.size + 1 ≤ w1.drew.heap.size := blk_in HBE.out
    clear hc0 hc1 hc2 hc3 e0 e1 e2 e3 HW BE

    have hite : ∀ (p : Prop) [Decidable p] (a b : Next) (W : World), (if p then Result.ok a W else Result.ok b W) = Result.ok (if p then a else b) W := fun p _ a b W => by split <;> rfl
    have hite2 : ∀ (p : Prop) [Decidable p] (a b : Bool), (if p then Next.value (.bool a) else Next.value (.bool b)) = Next.value (.bool (if p then a else b)) := fun p _ a b => by split <;> rfl
    have HB4 : Hid ((if r0 = t then if r1 = u then if r2 = v then if r3 = x then true else false else false else false else false) = eqE ⟨r0, r1, r2, r3⟩ ⟨t, u, v, x⟩) := by rw [Hid]; unfold eqE; by_cases h1 : r0 = t <;> by_cases h2 : r1 = u <;> by_cases h3 : r2 = v <;> by_cases h4 : r3 = x <;> simp [h1, h2, h3, h4]
    go_wp2_with fail
    go_region_law (refine step_appN _ rfl _ _ _ rfl (w.heap.size + 1) 25 i0 _ 4 32 Tryd.underlying23 HI.out rfl (by omega) _ 0 _ rfl HWD.out _ n _ (flatEntry l) rfl (flatE_len l n HN.out) HRD.out (fun e => by cases e) (flatE_one l) (by omega) (by omega) hsz ?_; intro v' w9 hown9 hg9; have hb9 := grown_ge hbd (Nat.le_succ _) HWD.out hg9; have BE9 := rowbox HWD.out hg9 (Nat.lt_succ_self _) HBE; have g0 := boxcellL BE9 0; have g1 := boxcellL BE9 1; have g2 := boxcellL BE9 2; have g3 := boxcellL BE9 3; have k0 := (hb9.cell (p := ⟨b, o + k * 4, none⟩) hbl).trans HCK.out.1; have k1 := (hb9.cell (p := ⟨b, o + k * 4 + 1, none⟩) hbl).trans HCK.out.2.1; have k2 := (hb9.cell (p := ⟨b, o + k * 4 + 2, none⟩) hbl).trans HCK.out.2.2.1; have k3 := (hb9.cell (p := ⟨b, o + k * 4 + 3, none⟩) hbl).trans HCK.out.2.2.2; obtain ⟨B9, d9, rfl, hr9⟩ := row_is (n' := n) (cs' := flatEntry l) hown9 (by omega) rfl; clear hown9 hg9)
    all_goals
      go_wp2_with fail
      exact bodyPost_ret (v := .tuple #[.slice B9 n d9, .bool (eqE ⟨r0, r1, r2, r3⟩ ⟨t, u, v, x⟩)]) (by rw [← HB4.out]; simp [results, Tryd.results11, go_sem]) rfl (retLP HP.out HN.out (row_mono hr9 (Nat.le_succ _)) hb9)
  rw [hf]
  have HNO := Lib.hid hno; clear hno hf
  have HPN := Lib.hid (put_none (e := ⟨t, u, v, x⟩) HV.out HNO.out)
  have hneg : ¬ ((0 : Int) ≤ -1) := by omega
  clear e0 e1 e2 e3
  go_wp2_with fail
  go_loopw [6, 8] (fun ov i wr => ∃ k : Nat, k ≤ n ∧ i = .int .i64 k ∧ (∃ B d, ov = .slice B k d ∧ Hid (wr.ownsRow (w.heap.size + 1) 25 4 (.slice B k d) k (flatEntry (l.take k)))) ∧ Hid (∀ j, j < k → lessB (eAt l j) ⟨t, u, v, x⟩ = true) ∧ Hid (wr.heap[w.heap.size]? = some (.cells #[.int .i64 t, .int .i64 u, .int .i64 v, .int .i64 x] 25 (0, 0))) ∧ Below w.heap.size w wr) (fun _ i _ => n - (intOf i).toNat)
  case atStart => exact ⟨0, by omega, rfl, ⟨_, _, rfl, HW.out⟩, fun j hj => absurd hj (by omega), BE, hb⟩
  case round =>
    clear HW BE hb
    obtain ⟨k, hk, rfl, ⟨B, d, rfl, HW⟩, HLS, BE, hb⟩ := hrel
    by_cases hlt : k < n
    · obtain ⟨b, o, rfl, hbl, hc0, hc1, hc2, hc3⟩ := HA.out.atEntry (k := k) (by rw [HN.out]; exact hlt)
      have HTS : Hid (l.take (k + 1) = l.take k ++ [l.getD k Entry.zero]) := by rw [Hid, List.take_succ_eq_append_getElem (by rw [HN.out]; exact hlt)]; simp [show k < l.length by rw [HN.out]; exact hlt]
      have HGK : Hid (eAt l k = l.getD k Entry.zero) := rfl
      generalize l.getD k Entry.zero = r at *
      obtain ⟨r0, r1, r2, r3⟩ := r
      have f0 : ∀ i : After wr, i.wd.cell? ⟨b, o + k * 4, none⟩ = some (.int .i64 r0) := fun i => i.cell ((hb.cell (p := ⟨b, o + k * 4, none⟩) hbl).trans hc0)
      have f1 : ∀ i : After wr, i.wd.cell? ⟨b, o + k * 4 + 1, none⟩ = some (.int .i64 r1) := fun i => i.cell ((hb.cell (p := ⟨b, o + k * 4 + 1, none⟩) hbl).trans hc1)
      have f2 : ∀ i : After wr, i.wd.cell? ⟨b, o + k * 4 + 2, none⟩ = some (.int .i64 r2) := fun i => i.cell ((hb.cell (p := ⟨b, o + k * 4 + 2, none⟩) hbl).trans hc2)
      have f3 : ∀ i : After wr, i.wd.cell? ⟨b, o + k * 4 + 3, none⟩ = some (.int .i64 r3) := fun i => i.cell ((hb.cell (p := ⟨b, o + k * 4 + 3, none⟩) hbl).trans hc3)
      have q0 : ∀ i : After wr, i.wd.cell? ⟨w.heap.size, 0, none⟩ = some (.int .i64 t) := fun i => i.cell (boxcellL BE 0)
      have q1 : ∀ i : After wr, i.wd.cell? ⟨w.heap.size, 1, none⟩ = some (.int .i64 u) := fun i => i.cell (boxcellL BE 1)
      have q2 : ∀ i : After wr, i.wd.cell? ⟨w.heap.size, 2, none⟩ = some (.int .i64 v) := fun i => i.cell (boxcellL BE 2)
      have q3 : ∀ i : After wr, i.wd.cell? ⟨w.heap.size, 3, none⟩ = some (.int .i64 x) := fun i => i.cell (boxcellL BE 3)
      have hki : (k : Int) < (n : Int) := by omega
      have hk0 : (0 : Int) ≤ (k : Int) := by omega
      have HC := Lib.hid (And.intro hc0 (And.intro hc1 (And.intro hc2 hc3)))
      clear hc0 hc1 hc2 hc3
      cases hle : lessB ⟨r0, r1, r2, r3⟩ ⟨t, u, v, x⟩ with
      | true =>
        go_wp2_with fail
        refine wp_region_after (by kernel_rfl) (by kernel_rfl) ?_
        repeat (go_big_quiet_step ((go_at_call 27; exact after_call (elIs _ _ _ _ _ _ _ _ _ _ hle))))
        refine wpQuiet_nil ?_
        rintro _ ⟨i2, rfl⟩
        have hbn := i2.below
        clear f0 f1 f2 f3 q0 q1 q2 q3
        generalize i2.wd = w2 at *
        replace hb := seqB hb hbn
        replace BE := be_boxL BE hbn
        have hrow := row_below HW.out hbn
        clear HW hbn
        have hd0 := (hb.cell (p := ⟨b, o + k * 4, none⟩) hbl).trans HC.out.1
        have hd1 := (hb.cell (p := ⟨b, o + k * 4 + 1, none⟩) hbl).trans HC.out.2.1
        have hd2 := (hb.cell (p := ⟨b, o + k * 4 + 2, none⟩) hbl).trans HC.out.2.2.1
        have hd3 := (hb.cell (p := ⟨b, o + k * 4 + 3, none⟩) hbl).trans HC.out.2.2.2
        have hsz : w.heap.size + 1 ≤ w2.heap.size := blk_in BE.out
        have hrd2 := rd_new w2 #[.int .i64 r0, .int .i64 r1, .int .i64 r2, .int .i64 r3] 25
        go_wp2_with (at_builtin; refine wpList_appN _ rfl _ _ _ rfl (w.heap.size + 1) 25 i0 _ 4 32 Tryd.underlying23 HI.out rfl (by omega) _ k _ rfl (hrow.alloc _) (some ⟨w2.heap.size, 0, none⟩) 1 1 [.int .i64 r0, .int .i64 r1, .int .i64 r2, .int .i64 r3] rfl rfl hrd2 (fun e => by cases e) (by simp [Value.oneCell']) (by omega) (by omega) (by simp; omega) ?_; intro v' w3 hown3 hg3)
        have hb3 := grown_ge (allocB hb _) (Nat.le_succ _) (hrow.alloc _) hg3
        have BE3 := rowbox (hrow.alloc _) hg3 (Nat.lt_succ_self _) (be_boxL BE (allocB (Below.refl _ _) _))
        obtain ⟨B9, d9, rfl, hr9⟩ := row_is (n' := k + 1) (cs' := flatEntry (l.take (k + 1))) hown3 rfl (by rw [HTS.out, ← flatE_app]; rfl)
        have HW9 := Lib.hid hr9
        have HLS9 : Hid (∀ j, j < k + 1 → lessB (eAt l j) ⟨t, u, v, x⟩ = true) := fun j hj => by
          rcases Nat.lt_or_ge j k with h | h
          · exact HLS.out j h
          · have : j = k := by omega
            subst this; rw [HGK.out]; exact hle
        clear hown3 hg3 hr9 hrow hrd2 hd0 hd1 hd2 hd3
        go_roundw
        case rel => exact ⟨k + 1, by omega, by go_num, ⟨_, _, rfl, HW9⟩, HLS9, BE3, hb3⟩
        case measure => simp [intOf]; omega
      | false =>
        go_wp2_with fail
        refine wp_region_after (by kernel_rfl) (by kernel_rfl) ?_
        repeat (go_big_quiet_step ((go_at_call 27; exact after_call (elIs _ _ _ _ _ _ _ _ _ _ hle))))
        refine wpQuiet_nil ?_
        rintro _ ⟨i2, rfl⟩
        have hbn := i2.below
        clear f0 f1 f2 f3 q0 q1 q2 q3
        generalize i2.wd = w2 at *
        replace hb := seqB hb hbn
        replace BE := be_boxL BE hbn
        replace HW := Lib.hid (row_below HW.out hbn)
        clear hbn
        have HIN : Hid (insE l ⟨t, u, v, x⟩ = l.take k ++ [⟨t, u, v, x⟩] ++ l.drop k) := insE_at (by rw [HN.out]; exact hk) HLS.out (.inr (by rw [HGK.out]; exact hle))
        clear hle HTS HGK HC HLS
        have HRD : Hid (Rd w (some ⟨b, o + k * 4, none⟩) (flatEntry (l.drop k))) := flatE_drop HA.out k
        have hck : ¬ c = k := by omega
        have hi2 : (n : Int) ≤ (c : Int) := by omega
        have hi3 : (k : Int) ≤ (n : Int) := by omega
        have hi4 : (k : Int) ≤ (c : Int) := by omega
        have HBE : Hid (w2.drew.heap[w.heap.size]? = some (.cells #[.int .i64 t, .int .i64 u, .int .i64 v, .int .i64 x] 25 (0, 0))) := BE
        have f0 : w2.drew.cell? ⟨w.heap.size, 0, none⟩ = some (.int .i64 t) := boxcellL HBE 0
        have f1 : w2.drew.cell? ⟨w.heap.size, 1, none⟩ = some (.int .i64 u) := boxcellL HBE 1
        have f2 : w2.drew.cell? ⟨w.heap.size, 2, none⟩ = some (.int .i64 v) := boxcellL HBE 2
        have f3 : w2.drew.cell? ⟨w.heap.size, 3, none⟩ = some (.int .i64 x) := boxcellL HBE 3
        have HOW : Hid ((w2.drew.alloc (.cells #[.int .i64 t, .int .i64 u, .int .i64 v, .int .i64 x] 25)).ownsRow (w.heap.size + 1) 25 4 (.slice B k d) k (flatEntry (l.take k))) := Lib.hid ((show w2.drew.ownsRow (w.heap.size + 1) 25 4 (.slice B k d) k (flatEntry (l.take k)) from HW.out).alloc (.cells #[.int .i64 t, .int .i64 u, .int .i64 v, .int .i64 x] 25))
        have hbL : Below w.heap.size w (w2.drew.alloc (.cells #[.int .i64 t, .int .i64 u, .int .i64 v, .int .i64 x] 25)) := allocB (drew1B hb) (.cells #[.int .i64 t, .int .i64 u, .int .i64 v, .int .i64 x] 25)
        have RDL : Hid (Rd (w2.drew.alloc (.cells #[.int .i64 t, .int .i64 u, .int .i64 v, .int .i64 x] 25)) (some ⟨w2.heap.size, 0, none⟩) [.int .i64 t, .int .i64 u, .int .i64 v, .int .i64 x]) := Lib.hid (rd_new w2.drew #[.int .i64 t, .int .i64 u, .int .i64 v, .int .i64 x] 25)
        have hWs : w.heap.size + 1 ≤ (w2.drew.alloc (.cells #[.int .i64 t, .int .i64 u, .int .i64 v, .int .i64 x] 25)).heap.size := by have := blk_in (be_boxL HBE (allocB (Below.refl _ _) (.cells #[.int .i64 t, .int .i64 u, .int .i64 v, .int .i64 x] 25))).out; omega
        clear HW BE
        go_wp2_with fail
        go_region_law (first | (refine step_appN _ rfl _ _ _ rfl (w.heap.size + 1) 25 i0 _ 4 32 Tryd.underlying23 HI.out rfl (by omega) (.slice B9 (k + 1) d9) (k + 1) (flatEntry (l.take k ++ [⟨t, u, v, x⟩])) rfl HO9.out _ (n - k) _ (flatEntry (l.drop k)) rfl (flatE_len _ _ (by simp [HN.out])) (HRD.out.below hb9) (fun e => by first | exact ⟨by omega, by first | rfl | omega⟩ | cases e) (flatE_one _) (by omega) (by omega) hs9 ?_; intro v' w10 hown10 hg10; have hb10 := grown_ge hb9 (Nat.le_succ _) HO9.out hg10; obtain ⟨B10, d10, rfl, hr10⟩ := row_is (n' := n + 1) (cs' := flatEntry (insE l ⟨t, u, v, x⟩)) hown10 (by omega) (by rw [HIN.out, flatE_app]); have HR10 := Lib.hid hr10; clear hr10 hown10 hg10 HO9) | (refine step_appN _ rfl _ _ _ rfl (w.heap.size + 1) 25 i0 _ 4 32 Tryd.underlying23 HI.out rfl (by omega) (.slice B k d) k (flatEntry (l.take k)) rfl HOW.out _ 1 1 [.int .i64 t, .int .i64 u, .int .i64 v, .int .i64 x] rfl rfl RDL.out (fun e => by cases e) (by simp [Value.oneCell']) (by omega) (by omega) hWs ?_; intro v' w9 hown9 hg9; have hb9 := grown_ge hbL (Nat.le_succ _) HOW.out hg9; have hs9 : w.heap.size + 1 ≤ w9.heap.size := Nat.le_trans hWs hg9.size; obtain ⟨B9, d9, rfl, hr9⟩ := row_is (n' := k + 1) (cs' := flatEntry (l.take k ++ [⟨t, u, v, x⟩])) hown9 rfl (by rw [← flatE_app]; rfl); have HO9 := Lib.hid hr9; clear hr9 hown9 hg9 HOW RDL))
        all_goals
          go_wp2_with fail
          refine (specLV B10 (n + 1) d10 (insE l ⟨t, u, v, x⟩) _ (by rw [insE_length, HN.out]) (by omega) (rd_of_row HR10.out)).mono ?_
          rintro e w11 ⟨rfl, hbn⟩
          replace hb10 := seqB hb10 hbn
          replace HR10 := Lib.hid (row_below HR10.out hbn)
          clear hbn
          cases hlv : logB (insE l ⟨t, u, v, x⟩) with
          | true =>
            go_wp2_with fail
            exact bodyPost_ret (v := .tuple #[.slice B10 (n + 1) d10, .bool true]) (by simp [results, Tryd.results11, go_sem]) rfl (retLP (HPN.out.trans (by rw [hlv]; rfl)) (by rw [insE_length, HN.out]) (row_mono HR10.out (Nat.le_succ _)) hb10)
          | false =>
            have hlit : (w11.alloc (.cells #[] 25)).ownsRow w.heap.size 25 4 (.slice (some ⟨w11.heap.size, 0, none⟩) 0 0) 0 [] := World.ownsRow_lit w11 #[] 0 hb10.size (Nat.zero_le _) rfl
            have hbl2 := allocB hb10 (.cells #[] 25)
            have hrl := HA.out.below hbl2
            go_wp2_with (at_builtin; refine wpList_appN _ rfl _ _ _ rfl w.heap.size 25 i0 _ 4 32 Tryd.underlying23 HI.out rfl (by omega) _ 0 _ rfl hlit (some ⟨b, o, none⟩) n c (flatEntry l) rfl (flatE_len l _ HN.out) hrl (fun e => by cases e) (flatE_one l) (by omega) (by omega) hbl2.size ?_; intro v' w12 hown12 hg12; have hb12 := grown_ge hbl2 (Nat.le_refl _) hlit hg12; obtain ⟨B12, d12, rfl, hr12⟩ := row_is (n' := n) (cs' := flatEntry l) hown12 (by omega) rfl; clear hown12 hg12)
            exact bodyPost_ret (v := .tuple #[.slice B12 n d12, .bool false]) (by simp [results, Tryd.results11, go_sem]) rfl (retLP (HPN.out.trans (by rw [hlv]; rfl)) HN.out hr12 hb12)
    · have hkn : k = n := by omega
      subst hkn
      have HIN : Hid (insE l ⟨t, u, v, x⟩ = l.take k ++ [⟨t, u, v, x⟩] ++ l.drop k) := insE_at (by rw [HN.out]; exact hk) HLS.out (.inl HN.out.symm)
      have HDN : Hid (l.drop k = []) := List.drop_eq_nil_of_le (by rw [HN.out]; exact Nat.le_refl _)
      clear HLS
      have hki : decide ((k : Int) < (k : Int)) = false := by simp
      have hki' : ¬ ((k : Int) < (k : Int)) := by omega
      go_wp2_with fail
      refine wp_region_after (by kernel_rfl) (by kernel_rfl) ?_
      repeat (go_big_quiet_step (fail))
      refine wpQuiet_nil ?_
      rintro _ ⟨i2, rfl⟩
      have hbn := i2.below
      generalize i2.wd = w2 at *
      replace hb := seqB hb hbn
      replace BE := be_boxL BE hbn
      replace HW := Lib.hid (row_below HW.out hbn)
      clear hbn hki hki'
      rcases HF.out with ⟨rfl, rfl⟩ | ⟨g, rfl⟩
      · have hk0 : k = 0 := by omega
        subst hk0
        have HRD : ∀ (W : World) (X : Option Addr), Rd W X (flatEntry (l.drop 0)) := fun W X => by rw [HDN.out]; exact Rd.nil
        have hi2 : (0 : Int) ≤ (0 : Int) := by omega
        have HBE : Hid (w2.drew.heap[w.heap.size]? = some (.cells #[.int .i64 t, .int .i64 u, .int .i64 v, .int .i64 x] 25 (0, 0))) := BE
        have f0 : w2.drew.cell? ⟨w.heap.size, 0, none⟩ = some (.int .i64 t) := boxcellL HBE 0
        have f1 : w2.drew.cell? ⟨w.heap.size, 1, none⟩ = some (.int .i64 u) := boxcellL HBE 1
        have f2 : w2.drew.cell? ⟨w.heap.size, 2, none⟩ = some (.int .i64 v) := boxcellL HBE 2
        have f3 : w2.drew.cell? ⟨w.heap.size, 3, none⟩ = some (.int .i64 x) := boxcellL HBE 3
        have HOW : Hid ((w2.drew.alloc (.cells #[.int .i64 t, .int .i64 u, .int .i64 v, .int .i64 x] 25)).ownsRow (w.heap.size + 1) 25 4 (.slice B 0 d) 0 (flatEntry (l.take 0))) := Lib.hid ((show w2.drew.ownsRow (w.heap.size + 1) 25 4 (.slice B 0 d) 0 (flatEntry (l.take 0)) from HW.out).alloc (.cells #[.int .i64 t, .int .i64 u, .int .i64 v, .int .i64 x] 25))
        have hbL : Below w.heap.size w (w2.drew.alloc (.cells #[.int .i64 t, .int .i64 u, .int .i64 v, .int .i64 x] 25)) := allocB (drew1B hb) (.cells #[.int .i64 t, .int .i64 u, .int .i64 v, .int .i64 x] 25)
        have RDL : Hid (Rd (w2.drew.alloc (.cells #[.int .i64 t, .int .i64 u, .int .i64 v, .int .i64 x] 25)) (some ⟨w2.heap.size, 0, none⟩) [.int .i64 t, .int .i64 u, .int .i64 v, .int .i64 x]) := Lib.hid (rd_new w2.drew #[.int .i64 t, .int .i64 u, .int .i64 v, .int .i64 x] 25)
        have hWs : w.heap.size + 1 ≤ (w2.drew.alloc (.cells #[.int .i64 t, .int .i64 u, .int .i64 v, .int .i64 x] 25)).heap.size := by have := blk_in (be_boxL HBE (allocB (Below.refl _ _) (.cells #[.int .i64 t, .int .i64 u, .int .i64 v, .int .i64 x] 25))).out; omega
        clear HW BE
        go_wp2_with fail
        go_region_law (first | (refine step_appN _ rfl _ _ _ rfl (w.heap.size + 1) 25 i0 _ 4 32 Tryd.underlying23 HI.out rfl (by omega) (.slice B9 (0 + 1) d9) (0 + 1) (flatEntry (l.take 0 ++ [⟨t, u, v, x⟩])) rfl HO9.out _ 0 _ (flatEntry (l.drop 0)) rfl (flatE_len _ _ (by simp [HN.out])) (HRD w9 _) (fun e => by first | exact ⟨by omega, by first | rfl | omega⟩ | cases e) (flatE_one _) (by omega) (by omega) hs9 ?_; intro v' w10 hown10 hg10; have hb10 := grown_ge hb9 (Nat.le_succ _) HO9.out hg10; obtain ⟨B10, d10, rfl, hr10⟩ := row_is (n' := 0 + 1) (cs' := flatEntry (insE l ⟨t, u, v, x⟩)) hown10 (by omega) (by rw [HIN.out, flatE_app]); have HR10 := Lib.hid hr10; clear hr10 hown10 hg10 HO9) | (refine step_appN _ rfl _ _ _ rfl (w.heap.size + 1) 25 i0 _ 4 32 Tryd.underlying23 HI.out rfl (by omega) (.slice B 0 d) 0 (flatEntry (l.take 0)) rfl HOW.out _ 1 1 [.int .i64 t, .int .i64 u, .int .i64 v, .int .i64 x] rfl rfl RDL.out (fun e => by cases e) (by simp [Value.oneCell']) (by omega) (by omega) hWs ?_; intro v' w9 hown9 hg9; have hb9 := grown_ge hbL (Nat.le_succ _) HOW.out hg9; have hs9 : w.heap.size + 1 ≤ w9.heap.size := Nat.le_trans hWs hg9.size; obtain ⟨B9, d9, rfl, hr9⟩ := row_is (n' := 0 + 1) (cs' := flatEntry (l.take 0 ++ [⟨t, u, v, x⟩])) hown9 rfl (by rw [← flatE_app]; rfl); have HO9 := Lib.hid hr9; clear hr9 hown9 hg9 HOW RDL))
        all_goals
          go_wp2_with fail
          refine (specLV B10 (0 + 1) d10 (insE l ⟨t, u, v, x⟩) _ (by rw [insE_length, HN.out]) (by omega) (rd_of_row HR10.out)).mono ?_
          rintro e w11 ⟨rfl, hbn⟩
          replace hb10 := seqB hb10 hbn
          replace HR10 := Lib.hid (row_below HR10.out hbn)
          clear hbn
          cases hlv : logB (insE l ⟨t, u, v, x⟩) with
          | true =>
            go_wp2_with fail
            exact bodyPost_ret (v := .tuple #[.slice B10 (0 + 1) d10, .bool true]) (by simp [results, Tryd.results11, go_sem]) rfl (retLP (HPN.out.trans (by rw [hlv]; rfl)) (by rw [insE_length, HN.out]) (row_mono HR10.out (Nat.le_succ _)) hb10)
          | false =>
            have hlit : (w11.alloc (.cells #[] 25)).ownsRow w.heap.size 25 4 (.slice (some ⟨w11.heap.size, 0, none⟩) 0 0) 0 [] := World.ownsRow_lit w11 #[] 0 hb10.size (Nat.zero_le _) rfl
            have hbl2 := allocB hb10 (.cells #[] 25)
            have hrl := HA.out.below hbl2
            go_wp2_with (at_builtin; refine wpList_appN _ rfl _ _ _ rfl w.heap.size 25 i0 _ 4 32 Tryd.underlying23 HI.out rfl (by omega) _ 0 _ rfl hlit none 0 0 (flatEntry l) rfl (flatE_len l _ HN.out) hrl (fun _ => ⟨by omega, rfl⟩) (flatE_one l) (by omega) (by omega) hbl2.size ?_; intro v' w12 hown12 hg12; have hb12 := grown_ge hbl2 (Nat.le_refl _) hlit hg12; obtain ⟨B12, d12, rfl, hr12⟩ := row_is (n' := 0) (cs' := flatEntry l) hown12 (by omega) rfl; clear hown12 hg12)
            exact bodyPost_ret (v := .tuple #[.slice B12 0 d12, .bool false]) (by simp [results, Tryd.results11, go_sem]) rfl (retLP (HPN.out.trans (by rw [hlv]; rfl)) HN.out hr12 hb12)
      · by_cases hck : c = k
        · subst hck
          have HRD : ∀ (W : World) (X : Option Addr), Rd W X (flatEntry (l.drop c)) := fun W X => by rw [HDN.out]; exact Rd.nil
          have hi2 : (c : Int) ≤ (c : Int) := by omega
          have HBE : Hid (w2.drew.heap[w.heap.size]? = some (.cells #[.int .i64 t, .int .i64 u, .int .i64 v, .int .i64 x] 25 (0, 0))) := BE
          have f0 : w2.drew.cell? ⟨w.heap.size, 0, none⟩ = some (.int .i64 t) := boxcellL HBE 0
          have f1 : w2.drew.cell? ⟨w.heap.size, 1, none⟩ = some (.int .i64 u) := boxcellL HBE 1
          have f2 : w2.drew.cell? ⟨w.heap.size, 2, none⟩ = some (.int .i64 v) := boxcellL HBE 2
          have f3 : w2.drew.cell? ⟨w.heap.size, 3, none⟩ = some (.int .i64 x) := boxcellL HBE 3
          have HOW : Hid ((w2.drew.alloc (.cells #[.int .i64 t, .int .i64 u, .int .i64 v, .int .i64 x] 25)).ownsRow (w.heap.size + 1) 25 4 (.slice B c d) c (flatEntry (l.take c))) := Lib.hid ((show w2.drew.ownsRow (w.heap.size + 1) 25 4 (.slice B c d) c (flatEntry (l.take c)) from HW.out).alloc (.cells #[.int .i64 t, .int .i64 u, .int .i64 v, .int .i64 x] 25))
          have hbL : Below w.heap.size w (w2.drew.alloc (.cells #[.int .i64 t, .int .i64 u, .int .i64 v, .int .i64 x] 25)) := allocB (drew1B hb) (.cells #[.int .i64 t, .int .i64 u, .int .i64 v, .int .i64 x] 25)
          have RDL : Hid (Rd (w2.drew.alloc (.cells #[.int .i64 t, .int .i64 u, .int .i64 v, .int .i64 x] 25)) (some ⟨w2.heap.size, 0, none⟩) [.int .i64 t, .int .i64 u, .int .i64 v, .int .i64 x]) := Lib.hid (rd_new w2.drew #[.int .i64 t, .int .i64 u, .int .i64 v, .int .i64 x] 25)
          have hWs : w.heap.size + 1 ≤ (w2.drew.alloc (.cells #[.int .i64 t, .int .i64 u, .int .i64 v, .int .i64 x] 25)).heap.size := by have := blk_in (be_boxL HBE (allocB (Below.refl _ _) (.cells #[.int .i64 t, .int .i64 u, .int .i64 v, .int .i64 x] 25))).out; omega
          clear HW BE
          go_wp2_with fail
          go_region_law (first | (refine step_appN _ rfl _ _ _ rfl (w.heap.size + 1) 25 i0 _ 4 32 Tryd.underlying23 HI.out rfl (by omega) (.slice B9 (c + 1) d9) (c + 1) (flatEntry (l.take c ++ [⟨t, u, v, x⟩])) rfl HO9.out _ 0 _ (flatEntry (l.drop c)) rfl (flatE_len _ _ (by simp [HN.out])) (HRD w9 _) (fun e => by first | exact ⟨by omega, by first | rfl | omega⟩ | cases e) (flatE_one _) (by omega) (by omega) hs9 ?_; intro v' w10 hown10 hg10; have hb10 := grown_ge hb9 (Nat.le_succ _) HO9.out hg10; obtain ⟨B10, d10, rfl, hr10⟩ := row_is (n' := c + 1) (cs' := flatEntry (insE l ⟨t, u, v, x⟩)) hown10 (by omega) (by rw [HIN.out, flatE_app]); have HR10 := Lib.hid hr10; clear hr10 hown10 hg10 HO9) | (refine step_appN _ rfl _ _ _ rfl (w.heap.size + 1) 25 i0 _ 4 32 Tryd.underlying23 HI.out rfl (by omega) (.slice B c d) c (flatEntry (l.take c)) rfl HOW.out _ 1 1 [.int .i64 t, .int .i64 u, .int .i64 v, .int .i64 x] rfl rfl RDL.out (fun e => by cases e) (by simp [Value.oneCell']) (by omega) (by omega) hWs ?_; intro v' w9 hown9 hg9; have hb9 := grown_ge hbL (Nat.le_succ _) HOW.out hg9; have hs9 : w.heap.size + 1 ≤ w9.heap.size := Nat.le_trans hWs hg9.size; obtain ⟨B9, d9, rfl, hr9⟩ := row_is (n' := c + 1) (cs' := flatEntry (l.take c ++ [⟨t, u, v, x⟩])) hown9 rfl (by rw [← flatE_app]; rfl); have HO9 := Lib.hid hr9; clear hr9 hown9 hg9 HOW RDL))
          all_goals
            go_wp2_with fail
            refine (specLV B10 (c + 1) d10 (insE l ⟨t, u, v, x⟩) _ (by rw [insE_length, HN.out]) (by omega) (rd_of_row HR10.out)).mono ?_
            rintro e w11 ⟨rfl, hbn⟩
            replace hb10 := seqB hb10 hbn
            replace HR10 := Lib.hid (row_below HR10.out hbn)
            clear hbn
            cases hlv : logB (insE l ⟨t, u, v, x⟩) with
            | true =>
              go_wp2_with fail
              exact bodyPost_ret (v := .tuple #[.slice B10 (c + 1) d10, .bool true]) (by simp [results, Tryd.results11, go_sem]) rfl (retLP (HPN.out.trans (by rw [hlv]; rfl)) (by rw [insE_length, HN.out]) (row_mono HR10.out (Nat.le_succ _)) hb10)
            | false =>
              have hlit : (w11.alloc (.cells #[] 25)).ownsRow w.heap.size 25 4 (.slice (some ⟨w11.heap.size, 0, none⟩) 0 0) 0 [] := World.ownsRow_lit w11 #[] 0 hb10.size (Nat.zero_le _) rfl
              have hbl2 := allocB hb10 (.cells #[] 25)
              have hrl := HA.out.below hbl2
              go_wp2_with (at_builtin; refine wpList_appN _ rfl _ _ _ rfl w.heap.size 25 i0 _ 4 32 Tryd.underlying23 HI.out rfl (by omega) _ 0 _ rfl hlit (some ⟨g, 0, none⟩) c c (flatEntry l) rfl (flatE_len l _ HN.out) hrl (fun e => by cases e) (flatE_one l) (by omega) (by omega) hbl2.size ?_; intro v' w12 hown12 hg12; have hb12 := grown_ge hbl2 (Nat.le_refl _) hlit hg12; obtain ⟨B12, d12, rfl, hr12⟩ := row_is (n' := c) (cs' := flatEntry l) hown12 (by omega) rfl; clear hown12 hg12)
              exact bodyPost_ret (v := .tuple #[.slice B12 c d12, .bool false]) (by simp [results, Tryd.results11, go_sem]) rfl (retLP (HPN.out.trans (by rw [hlv]; rfl)) HN.out hr12 hb12)
        · skip
          have HRD : ∀ (W : World) (X : Option Addr), Rd W X (flatEntry (l.drop k)) := fun W X => by rw [HDN.out]; exact Rd.nil
          have hi2 : (k : Int) ≤ (c : Int) := by omega
          have HBE : Hid (w2.drew.heap[w.heap.size]? = some (.cells #[.int .i64 t, .int .i64 u, .int .i64 v, .int .i64 x] 25 (0, 0))) := BE
          have f0 : w2.drew.cell? ⟨w.heap.size, 0, none⟩ = some (.int .i64 t) := boxcellL HBE 0
          have f1 : w2.drew.cell? ⟨w.heap.size, 1, none⟩ = some (.int .i64 u) := boxcellL HBE 1
          have f2 : w2.drew.cell? ⟨w.heap.size, 2, none⟩ = some (.int .i64 v) := boxcellL HBE 2
          have f3 : w2.drew.cell? ⟨w.heap.size, 3, none⟩ = some (.int .i64 x) := boxcellL HBE 3
          have HOW : Hid ((w2.drew.alloc (.cells #[.int .i64 t, .int .i64 u, .int .i64 v, .int .i64 x] 25)).ownsRow (w.heap.size + 1) 25 4 (.slice B k d) k (flatEntry (l.take k))) := Lib.hid ((show w2.drew.ownsRow (w.heap.size + 1) 25 4 (.slice B k d) k (flatEntry (l.take k)) from HW.out).alloc (.cells #[.int .i64 t, .int .i64 u, .int .i64 v, .int .i64 x] 25))
          have hbL : Below w.heap.size w (w2.drew.alloc (.cells #[.int .i64 t, .int .i64 u, .int .i64 v, .int .i64 x] 25)) := allocB (drew1B hb) (.cells #[.int .i64 t, .int .i64 u, .int .i64 v, .int .i64 x] 25)
          have RDL : Hid (Rd (w2.drew.alloc (.cells #[.int .i64 t, .int .i64 u, .int .i64 v, .int .i64 x] 25)) (some ⟨w2.heap.size, 0, none⟩) [.int .i64 t, .int .i64 u, .int .i64 v, .int .i64 x]) := Lib.hid (rd_new w2.drew #[.int .i64 t, .int .i64 u, .int .i64 v, .int .i64 x] 25)
          have hWs : w.heap.size + 1 ≤ (w2.drew.alloc (.cells #[.int .i64 t, .int .i64 u, .int .i64 v, .int .i64 x] 25)).heap.size := by have := blk_in (be_boxL HBE (allocB (Below.refl _ _) (.cells #[.int .i64 t, .int .i64 u, .int .i64 v, .int .i64 x] 25))).out; omega
          clear HW BE
          go_wp2_with fail
          go_region_law (first | (refine step_appN _ rfl _ _ _ rfl (w.heap.size + 1) 25 i0 _ 4 32 Tryd.underlying23 HI.out rfl (by omega) (.slice B9 (k + 1) d9) (k + 1) (flatEntry (l.take k ++ [⟨t, u, v, x⟩])) rfl HO9.out _ 0 _ (flatEntry (l.drop k)) rfl (flatE_len _ _ (by simp [HN.out])) (HRD w9 _) (fun e => by first | exact ⟨by omega, by first | rfl | omega⟩ | cases e) (flatE_one _) (by omega) (by omega) hs9 ?_; intro v' w10 hown10 hg10; have hb10 := grown_ge hb9 (Nat.le_succ _) HO9.out hg10; obtain ⟨B10, d10, rfl, hr10⟩ := row_is (n' := k + 1) (cs' := flatEntry (insE l ⟨t, u, v, x⟩)) hown10 (by omega) (by rw [HIN.out, flatE_app]); have HR10 := Lib.hid hr10; clear hr10 hown10 hg10 HO9) | (refine step_appN _ rfl _ _ _ rfl (w.heap.size + 1) 25 i0 _ 4 32 Tryd.underlying23 HI.out rfl (by omega) (.slice B k d) k (flatEntry (l.take k)) rfl HOW.out _ 1 1 [.int .i64 t, .int .i64 u, .int .i64 v, .int .i64 x] rfl rfl RDL.out (fun e => by cases e) (by simp [Value.oneCell']) (by omega) (by omega) hWs ?_; intro v' w9 hown9 hg9; have hb9 := grown_ge hbL (Nat.le_succ _) HOW.out hg9; have hs9 : w.heap.size + 1 ≤ w9.heap.size := Nat.le_trans hWs hg9.size; obtain ⟨B9, d9, rfl, hr9⟩ := row_is (n' := k + 1) (cs' := flatEntry (l.take k ++ [⟨t, u, v, x⟩])) hown9 rfl (by rw [← flatE_app]; rfl); have HO9 := Lib.hid hr9; clear hr9 hown9 hg9 HOW RDL))
          all_goals
            go_wp2_with fail
            refine (specLV B10 (k + 1) d10 (insE l ⟨t, u, v, x⟩) _ (by rw [insE_length, HN.out]) (by omega) (rd_of_row HR10.out)).mono ?_
            rintro e w11 ⟨rfl, hbn⟩
            replace hb10 := seqB hb10 hbn
            replace HR10 := Lib.hid (row_below HR10.out hbn)
            clear hbn
            cases hlv : logB (insE l ⟨t, u, v, x⟩) with
            | true =>
              go_wp2_with fail
              exact bodyPost_ret (v := .tuple #[.slice B10 (k + 1) d10, .bool true]) (by simp [results, Tryd.results11, go_sem]) rfl (retLP (HPN.out.trans (by rw [hlv]; rfl)) (by rw [insE_length, HN.out]) (row_mono HR10.out (Nat.le_succ _)) hb10)
            | false =>
              have hlit : (w11.alloc (.cells #[] 25)).ownsRow w.heap.size 25 4 (.slice (some ⟨w11.heap.size, 0, none⟩) 0 0) 0 [] := World.ownsRow_lit w11 #[] 0 hb10.size (Nat.zero_le _) rfl
              have hbl2 := allocB hb10 (.cells #[] 25)
              have hrl := HA.out.below hbl2
              go_wp2_with (at_builtin; refine wpList_appN _ rfl _ _ _ rfl w.heap.size 25 i0 _ 4 32 Tryd.underlying23 HI.out rfl (by omega) _ 0 _ rfl hlit (some ⟨g, 0, none⟩) k c (flatEntry l) rfl (flatE_len l _ HN.out) hrl (fun e => by cases e) (flatE_one l) (by omega) (by omega) hbl2.size ?_; intro v' w12 hown12 hg12; have hb12 := grown_ge hbl2 (Nat.le_refl _) hlit hg12; obtain ⟨B12, d12, rfl, hr12⟩ := row_is (n' := k) (cs' := flatEntry l) hown12 (by omega) rfl; clear hown12 hg12)
              exact bodyPost_ret (v := .tuple #[.slice B12 k d12, .bool false]) (by simp [results, Tryd.results11, go_sem]) rfl (retLP (HPN.out.trans (by rw [hlv]; rfl)) HN.out hr12 hb12)
end Go.Proofs.YtdlphgknplomkaaDoor
