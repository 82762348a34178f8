/- Contracts of AckOrder and of both AlarmNext: the closure, the library's stable sort of few numbers, the loops. No statement is proved here. -/
import Derived.Test.YtkpebmcmdplbeaaAlN
import Derived.Test.YtkpebmcmdplbeaaCmp
import Derived.Test.YtkpebmcmdplbeaaRow
import Derived.Test.YtkpebmcmdplbeaaLins
import Derived.Shelf.SlSortCmp.Insertion1
import Derived.StillTailTactics
namespace Go.Proofs.Ytkpebmcmdplbeaa
open Go.RowKit

def cfA (l : List Alarm) (i j : Nat) : Int := orI [c3 (aAt l j).fRank (aAt l i).fRank, c3 (aAt l i).fSince (aAt l j).fSince]
theorem cfA_lt (l : List Alarm) (i j : Nat) : decide (cfA l i j < 0) = alBt l i j := by
  unfold cfA alBt c3
  generalize (aAt l i).fRank = a
  generalize (aAt l j).fRank = b
  generalize (aAt l i).fSince = x
  generalize (aAt l j).fSince = y
  rcases Int.lt_trichotomy a b with h | h | h
  · have h2 : ¬ b < a := by omega
    have h3 : a ≠ b := by omega
    simp [orI, h, h2, h3]
  · subst h
    rcases Int.lt_trichotomy x y with h | h | h
    · simp [orI, h]
    · subst h; simp [orI]
    · have h2 : ¬ x < y := by omega
      simp [orI, h, h2]
  · have h2 : ¬ a < b := by omega
    simp [orI, h]

set_option maxRecDepth 4000 in
set_option maxHeartbeats 1000000 in
theorem closA (bl : Nat) (A : Option Addr) (n c : Nat) (l : List Alarm) (i j : Nat) (W : World) (hi : i < n) (hj : j < n) (hn : l.length = n) (hl : W.cell? ⟨bl, 0, none⟩ = some (.slice A n c)) (hA : Rd W A (flatAlarm l)) :
    Calls Try.prog 16 #[.int .i64 i, .int .i64 j, .pointer (some ⟨bl, 0, none⟩)] W fun e w' => e = .returned (.int .i64 (cfA l i j)) ∧ ∃ q os', w' = Go.Sort.grow (W.drewN q) os' := by
  obtain ⟨b, o, rfl, _, hc0, _, hc2⟩ := hA.atAlarm (k := i) (by omega)
  obtain ⟨_, _, e2, _, hd0, _, hd2⟩ := hA.atAlarm (k := j) (by omega)
  cases e2
  have HE : Hid (cfA l i j = orI [c3 (l.getD j Alarm.zero).fRank (l.getD i Alarm.zero).fRank, c3 (l.getD i Alarm.zero).fSince (l.getD j Alarm.zero).fSince]) := rfl
  have hin : (i : Int) < (n : Int) := by omega
  have hjn : (j : Int) < (n : Int) := by omega
  generalize (l.getD i Alarm.zero).fRank = a at *
  generalize (l.getD i Alarm.zero).fSince = x at *
  generalize (l.getD j Alarm.zero).fRank = b' at *
  generalize (l.getD j Alarm.zero).fSince = y at *
  clear hA hn
  go_enter Try.func16, Try.ntmps16
  go_wp2_with fail
  go_still_tail 22, (by kernel_rfl)
  still_call (still_of (compare_any _ _ _))
  repeat still_step
  still_call (still_of (compare_any _ _ _))
  refine wpStill_nil ?_
  change wpList _ _ _ _ _ W.drew
  clear hl hc0 hc2 hd0 hd2
  go_wp2_with fail
  refine (or_any _ _ _ [c3 b' a, c3 x y] _ rfl (by simp) (rd_new W.drew #[.int .i64 (c3 b' a), .int .i64 (c3 x y)] 3)).mono ?_
  rintro e w' ⟨rfl, rfl⟩
  go_wp2_with fail
  go_ret
  exact ⟨ret_int HE.out.symm, 1, #[_], congrArg World.drew (Go.Sort.alloc_eq_grow W _)⟩

theorem below_grow (w : World) (os : Array Obj) : Below w.heap.size w (Go.Sort.grow w os) :=
  ⟨rfl, rfl, rfl, by simp, fun k hk => Go.Sort.heap_grow_old w os hk⟩
def natsA (ys : List Nat) : List Int := ys.map fun (i : Nat) => (i : Int)
theorem natsA_length (ys : List Nat) : (natsA ys).length = ys.length := by simp [natsA]
theorem fins (n : Nat) : ∀ acc : List Nat, (∀ i ∈ acc, i < n) → ∃ L : List (Fin n), L.map Fin.val = acc
  | [], _ => ⟨[], rfl⟩
  | a :: t, h => by
    obtain ⟨L, hL⟩ := fins n t (fun i hi => h i (by simp [hi]))
    exact ⟨⟨a, h a (by simp)⟩ :: L, by simp [hL]⟩
open Go.Sort Go.Shelf in
theorem own_putRowG {n m g base : Nat} [Inhabited (Fin n)] {w : World} {cs : List Value} (h : Own w base 3 1 (some ⟨g, 0, none⟩) m cs) (h0 : 0 < m) (d : Array (Fin n)) (hd : d.size = m) :
    Own (putRow (fun i : Fin n => Value.int .i64 (i.val : Int)) w g 0 d) base 3 1 (some ⟨g, 0, none⟩) m (ints (natsA (d.toList.map Fin.val))) := by
  refine ⟨by simp [ints, natsA, hd], fun _ => ?_⟩
  obtain ⟨g', cur, e, hge, hg, ht⟩ := h.2 h0
  cases e
  refine ⟨g, putCells (fun i : Fin n => Value.int .i64 (i.val : Int)) 0 d cur, rfl, hge, ?_, ?_⟩
  · simp only [putRow, mapBlock, Array.getElem?_modify, if_true, hg, Option.map_some, onCells]
  · have hl : m ≤ cur.size := by
      have h1 := congrArg List.length ht
      have h2 := h.1
      simp at h1; omega
    apply List.ext_getElem?
    intro k
    rcases Nat.lt_or_ge k m with hk | hk
    · rw [List.getElem?_take, if_pos (by omega)]
      have e1 : (putCells (fun i : Fin n => Value.int .i64 (i.val : Int)) 0 d cur).toList[k]? = some (Value.int .i64 ((d[k]!).val : Int)) := by
        rw [Array.getElem?_toList]
        simp only [putCells, Array.getElem?_mapIdx]
        rw [Array.getElem?_eq_getElem (by omega)]
        simp [hd, hk]
      rw [e1]
      have e2 : d[k]! = d[k]'(by omega) := by rw [getElem!_pos d k (by omega)]
      rw [e2]
      simp [ints, natsA, hd, hk]
    · rw [List.getElem?_take, if_neg (by omega)]
      rw [List.getElem?_eq_none (by simp [ints, natsA, hd]; omega)]
theorem own_at {w : World} {base n g : Nat} {s : List Int} (h : Own w base 3 1 (some ⟨g, 0, none⟩) n (ints s)) {k : Nat} (hk : k < n) : w.cell? ⟨g, k, none⟩ = some (.int .i64 (s.getD k 0)) ∧ w.frozen? ⟨g, k, none⟩ = false := by
  have hl := h.1
  rw [ints_length, Nat.mul_one] at hl
  refine ⟨?_, h.frozen (by omega) k⟩
  rw [h.cell (by omega) k (by omega)]
  simp [ints, show k < s.length by omega]

open Go.Sort Go.Shelf in
set_option maxHeartbeats 1000000 in
theorem insA (base g bl : Nat) (A : Option Addr) (n c cap : Nat) (l : List Alarm) (acc : List Nat) (hacc : ∀ i ∈ acc, i < n) (hasc : acc.Pairwise (· < ·)) (w : World) (hn : l.length = n) (h0 : 0 < acc.length) (h8 : acc.length ≤ 8) (hbl : bl ≠ g) (hAg : ∀ a, A = some a → a.block ≠ g)
    (hl : w.cell? ⟨bl, 0, none⟩ = some (.slice A n c)) (hA : Rd w A (flatAlarm l)) (hO : Own w base 3 1 (some ⟨g, 0, none⟩) acc.length (ints (natsA acc))) :
    Calls Try.prog 22 #[.slice (some ⟨g, 0, none⟩) acc.length cap, .int .i64 0, .int .i64 acc.length, .func (.func 16) #[] #[.pointer (some ⟨bl, 0, none⟩)]] w fun e w' => e = .returned (.tuple #[]) ∧
      ∃ ys : List Nat, ys.length = acc.length ∧ ys.Pairwise (fun i j => alBt l i j = true ∨ (alBt l j i = false ∧ i < j)) ∧ (∀ k, k ∈ ys ↔ k ∈ acc) ∧ Own w' base 3 1 (some ⟨g, 0, none⟩) acc.length (ints (natsA ys)) ∧ Below base w w' := by
  have hn0 : 0 < n := by
    obtain ⟨x, t, e⟩ : ∃ x t, acc = x :: t := by cases acc with | nil => simp at h0 | cons x t => exact ⟨x, t, rfl⟩
    have := hacc x (by rw [e]; simp)
    omega
  letI : Inhabited (Fin n) := ⟨⟨0, hn0⟩⟩
  obtain ⟨L, hL⟩ := fins n acc hacc
  have hds : L.toArray.size = acc.length := by rw [← hL]; simp
  have hgl : g < w.heap.size := hO.lt _ h0 rfl
  have hge : base ≤ g := hO.ge (Nat.le_refl _) ⟨g, 0, none⟩ h0 rfl
  have hcell : ∀ (m : Nat) (os : Array Obj) (dk : Array (Fin n)) (a : Addr) (v : Value), a.block ≠ g → w.cell? a = some v → (sortWorld (fun i : Fin n => Value.int .i64 (i.val : Int)) w g 0 m dk os).cell? a = some v := by
    intro m os dk a v hne hv
    have hlt : a.block < w.heap.size := World.block_lt_of_cell? w _ hv
    unfold sortWorld
    rw [cell?_grow _ _ _ (by simpa [putRow, mapBlock, Sort.ahead] using hlt), cell?_putRow_other _ _ _ _ _ _ (.inl hne)]
    exact hv
  have hrd : ∀ (m : Nat) (os : Array Obj) (dk : Array (Fin n)), Rd (sortWorld (fun i : Fin n => Value.int .i64 (i.val : Int)) w g 0 m dk os) A (flatAlarm l) := by
    intro m os dk hp
    obtain ⟨x, o, e, hlt, hc⟩ := hA hp
    refine ⟨x, o, e, ?_, fun k u hu => hcell m os dk ⟨x, o + k, none⟩ _ (hAg ⟨x, o, none⟩ e) (hc k u hu)⟩
    unfold sortWorld grow
    simp [putRow, mapBlock, Sort.ahead]; omega
  have hcmp : CmpLays1 Try.prog 16 #[.pointer (some ⟨bl, 0, none⟩)] (fun i : Fin n => Value.int .i64 (i.val : Int)) (fun x y => cfA l x.val y.val) g 0 L.toArray.size w := by
    intro m os dk _ x y
    exact closA bl A n c l x.val y.val _ x.isLt y.isLt hn (hcell m os dk ⟨bl, 0, none⟩ _ hbl hl) (hrd m os dk)
  have hH : Holds (fun i : Fin n => Value.int .i64 (i.val : Int)) w g 0 L.toArray := by
    intro j hj
    rw [hds] at hj
    obtain ⟨h1, h2⟩ := own_at hO hj
    rw [Nat.zero_add]
    refine ⟨?_, h2⟩
    have hjL : j < L.length := by have := congrArg List.length hL; simp at this; omega
    rw [h1, getElem!_pos _ j (by simpa using hjL)]
    have : acc[j]? = some (L[j]).val := by rw [← hL]; simp [hjL]
    simp [natsA, List.getD_eq_getElem?_getD, this]
  have eg : ∀ args w, (callFunc 16 args).run Try.prog w = .ok (.enter 16 args) w := enters_of Try.func16 (by kernel_rfl) rfl
  have hcon := Any.insertionSortCmpFunc_s lins (fun i : Fin n => Value.int .i64 (i.val : Int)) (fun x y => cfA l x.val y.val) 16 #[.pointer (some ⟨bl, 0, none⟩)] g 0 cap 0 L.toArray.size L.toArray L.toArray w w eg hcmp ⟨fun _ => rfl, hH, hgl⟩ rfl (SW.start hH) (Nat.zero_le _) (Nat.le_refl _) (by rw [hds]; omega)
  rw [hds] at hcon
  refine Calls.mono hcon ?_
  rintro e w' ⟨rfl, m, os, rfl⟩
  have hlt : ltOf (fun x y : Fin n => cfA l x.val y.val) = fun x y : Fin n => alBt l x.val y.val := by
    funext x y
    exact cfA_lt l x.val y.val
  rw [hlt, ← hds]
  have hLa : L.toArray.toList.Pairwise (fun x y : Fin n => x.val < y.val) := by
    have := hasc
    rw [← hL, List.pairwise_map] at this
    exact this
  obtain ⟨e1, e2, e3⟩ := sortG (fun x y : Fin n => alBt l x.val y.val) (fun x y => x.val < y.val) (fun i j k h h' => fo_trans l i.val j.val k.val h h') L.toArray hLa
  generalize Sort.insertionSort (fun x y : Fin n => alBt l x.val y.val) L.toArray 0 L.toArray.size = D at *
  have hD : D.size = acc.length := by rw [← hds]; simpa using e1
  refine ⟨rfl, D.toList.map Fin.val, by simp [hD, hds], ?_, fun k => ?_, ?_, ?_⟩
  · rw [List.pairwise_map]; exact e2
  · rw [← hL, List.mem_map, List.mem_map]
    constructor
    · rintro ⟨x, hx, rfl⟩; exact ⟨x, (e3 x).1 hx, rfl⟩
    · rintro ⟨x, hx, rfl⟩; exact ⟨x, (e3 x).2 hx, rfl⟩
  · unfold sortWorld
    rw [hds]
    exact (own_putRowG (show Own (Sort.ahead w m) _ _ _ _ _ _ from hO) h0 D hD).below (below_grow _ _)
  · refine ⟨rfl, rfl, rfl, ?_, fun k hk => ?_⟩
    · unfold sortWorld; rw [size_grow]; simp [putRow, mapBlock, Sort.ahead]
    · unfold sortWorld
      rw [heap_grow_old _ _ (by simp [putRow, mapBlock, Sort.ahead]; omega)]
      have hne : g ≠ k := by omega
      show (putRow (fun i : Fin n => Value.int .i64 (i.val : Int)) (Sort.ahead w m) g 0 D).heap[k]? = _
      simp only [putRow, mapBlock, Array.getElem?_modify, if_neg hne]
      rfl
set_option maxHeartbeats 400000 in
theorem ins0 (p : Option Addr) (cap : Nat) (f : Value) (w : World) : Calls Try.prog 22 #[.slice p 0 cap, .int .i64 0, .int .i64 0, f] w fun e w' => e = .returned (.tuple #[]) ∧ w = w' := by
  go_enter Try.func22, Try.ntmps22
  go_wp2_with fail
  refine wp_loop_rounds 1 ?_
  rw [rounds_succ]
  go_wp2_with fail
  go_end0
  exact ⟨rfl, rfl⟩
set_option maxHeartbeats 400000 in
theorem stabC (p : Option Addr) (n cap : Nat) (f : Value) (w : World) (h6 : n ≤ 19) (R : World → Prop) (hin : Calls Try.prog 22 #[.slice p n cap, .int .i64 0, .int .i64 n, f] w fun e w' => e = .returned (.tuple #[]) ∧ R w') :
    Calls Try.prog 20 #[.slice p n cap, .int .i64 n, f] w fun e w' => e = .returned (.tuple #[]) ∧ R w' := by
  have HIN := Lib.hid hin; clear hin
  go_enter Try.func20, Try.ntmps20
  go_wp2_with fail
  refine wp_loop_rounds 1 ?_
  rw [rounds_succ]
  go_wp2_with fail
  refine HIN.out.mono ?_
  rintro e w1 ⟨rfl, hR⟩
  have HR := Lib.hid hR; clear hR
  go_wp2_with fail
  refine wp_loop_rounds 1 ?_
  rw [rounds_succ]
  go_wp2_with fail
  go_end0
  exact ⟨rfl, HR.out⟩
set_option maxHeartbeats 400000 in
theorem sortC (p : Option Addr) (n cap : Nat) (f : Value) (w : World) (h6 : n ≤ 19) (R : World → Prop) (hin : Calls Try.prog 22 #[.slice p n cap, .int .i64 0, .int .i64 n, f] w fun e w' => e = .returned (.tuple #[]) ∧ R w') :
    Calls Try.prog 15 #[.slice p n cap, f] w fun e w' => e = .returned (.tuple #[]) ∧ R w' := by
  have HIN := Lib.hid (stabC p n cap f w h6 R hin); clear hin
  go_enter Try.func15, Try.ntmps15
  go_wp2_with fail
  refine HIN.out.mono ?_
  rintro e w1 ⟨rfl, hR⟩
  have HR := Lib.hid hR; clear hR
  go_wp2_with fail
  go_end0
  exact ⟨rfl, HR.out⟩
end Go.Proofs.Ytkpebmcmdplbeaa
