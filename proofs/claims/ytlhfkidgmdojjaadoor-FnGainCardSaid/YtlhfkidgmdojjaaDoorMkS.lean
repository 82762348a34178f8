/- The library's stable sort of the indices of orders by their prices: the closure, the insertion sort, the sort. No statement is proved here. -/
import Derived.Test.YtlhfkidgmdojjaaDoorMkS0
import Derived.Test.YtlhfkidgmdojjaaDoorMkT
import Derived.Test.YtlhfkidgmdojjaaDoorCmp
import Derived.Test.YtlhfkidgmdojjaaDoorLins
namespace Go.Proofs.YtlhfkidgmdojjaaDoor
open Go.RowKit

/-- the closure's answer at two indices -/
def cfO (l : List Order) (sg : Int) (i j : Nat) : Int := sg * c3 (oAt l i).fPrice (oAt l j).fPrice
theorem c3_cases (x y : Int) : c3 x y = -1 ∨ c3 x y = 0 ∨ c3 x y = 1 := by
  unfold c3; split
  · exact .inl rfl
  · split
    · exact .inr (.inr rfl)
    · exact .inr (.inl rfl)
theorem cfO_asc (l : List Order) (i j : Nat) : decide (cfO l 1 i j < 0) = oBetter l false i j := by
  unfold cfO c3 oBetter
  generalize (oAt l i).fPrice = x
  generalize (oAt l j).fPrice = y
  by_cases h : x < y
  · simp [h]
  · by_cases h2 : y < x <;> simp [h, h2]
theorem cfO_desc (l : List Order) (i j : Nat) : decide (cfO l (-1) i j < 0) = oBetter l true i j := by
  unfold cfO c3 oBetter
  generalize (oAt l i).fPrice = x
  generalize (oAt l j).fPrice = y
  by_cases h : x < y
  · have h3 : ¬ y < x := by omega
    simp [h, h3]
  · by_cases h2 : y < x <;> simp [h, h2]

set_option maxHeartbeats 1000000 in
theorem closO (bs bl : Nat) (sg : Int) (hsg : sg = 1 ∨ sg = -1) (A : Option Addr) (n c : Nat) (l : List Order) (i j : Nat) (W : World) (hi : i < n) (hj : j < n) (hn : l.length = n) (hs : W.cell? ⟨bs, 0, none⟩ = some (.int .i64 sg)) (hl : W.cell? ⟨bl, 0, none⟩ = some (.slice A n c)) (hA : Rd W A (flatOrder l)) :
    Calls Tryd.prog 34 #[.int .i64 i, .int .i64 j, .pointer (some ⟨bs, 0, none⟩), .pointer (some ⟨bl, 0, none⟩)] W fun e w' => e = .returned (.int .i64 (cfO l sg i j)) ∧ ∃ q, w' = W.drewN q := by
  obtain ⟨b, o, rfl, _, hc0, _⟩ := hA.atOrder (k := i) (by omega)
  obtain ⟨_, _, e2, _, hd0, _⟩ := hA.atOrder (k := j) (by omega)
  cases e2
  have HE : Hid (cfO l sg i j = sg * c3 (l.getD i Order.zero).fPrice (l.getD j Order.zero).fPrice) := rfl
  have hin : (i : Int) < (n : Int) := by omega
  have hjn : (j : Int) < (n : Int) := by omega
  generalize (l.getD i Order.zero).fPrice = x at *
  generalize (l.getD j Order.zero).fPrice = y at *
  have HC := Lib.hid (compare_any x y)
  have hcc := c3_cases x y
  generalize c3 x y = C at *
  have hw : IntKind.i64.wrap (sg * C) = sg * C := by
    refine IntWalk.i64_in _ ?_
    rcases hsg with rfl | rfl <;> rcases hcc with rfl | rfl | rfl <;> omega
  clear hA hn hsg hcc
  go_enter Tryd.func34, Tryd.ntmps34
  go_wp2_with fail
  go_quiet ((go_at_call 35; exact quiet_left (HC.out _)))
  go_wp2_with fail
  go_ret
  exact ⟨ret_int HE.out.symm, _, rfl⟩
open Go.Sort Go.Shelf in
theorem own_putRow {n g base : Nat} [Inhabited (Fin n)] {w : World} {cs : List Value} (h : Own w base 3 1 (some ⟨g, 0, none⟩) n cs) (h0 : 0 < n) (d : Array (Fin n)) (hd : d.size = n) :
    Own (putRow (fun i : Fin n => Value.int .i64 (i.val : Int)) w g 0 d) base 3 1 (some ⟨g, 0, none⟩) n (ints (nats (d.toList.map Fin.val))) := by
  refine ⟨by simp [ints, nats, hd], fun _ => ?_⟩
  obtain ⟨g', cur, e, hge, hg, ht⟩ := h.2 h0
  cases e
  refine ⟨g, putCells (fun i : Fin n => Value.int .i64 (i.val : Int)) 0 d cur, rfl, hge, ?_, ?_⟩
  · simp only [putRow, mapBlock, Array.getElem?_modify, if_true, hg, Option.map_some, onCells]
  · have hl : n ≤ cur.size := by
      have h1 := congrArg List.length ht
      have h2 := h.1
      simp at h1; omega
    apply List.ext_getElem?
    intro k
    rcases Nat.lt_or_ge k n with hk | hk
    · rw [List.getElem?_take, if_pos (by omega)]
      have e1 : (putCells (fun i : Fin n => Value.int .i64 (i.val : Int)) 0 d cur).toList[k]? = some (Value.int .i64 ((d[k]!).val : Int)) := by
        rw [Array.getElem?_toList]
        simp only [putCells, Array.getElem?_mapIdx]
        rw [Array.getElem?_eq_getElem (by omega)]
        simp [hd, hk]
      rw [e1]
      have e2 : d[k]! = d[k]'(by omega) := by rw [getElem!_pos d k (by omega)]
      rw [e2]
      simp [ints, nats, hd, hk]
    · rw [List.getElem?_take, if_neg (by omega)]
      rw [List.getElem?_eq_none (by simp [ints, nats, hd]; omega)]
open Go.Sort in
theorem turned_putRow {n g : Nat} [Inhabited (Fin n)] (w : World) (h0 : 0 < n) (d : Array (Fin n)) (q : Nat) : Turned (some ⟨g, 0, none⟩) n w ((putRow (fun i : Fin n => Value.int .i64 (i.val : Int)) w g 0 d).drewN q) := by
  refine ⟨rfl, rfl, rfl, ?_, fun k hk => ?_⟩
  · show (putRow (fun i : Fin n => Value.int .i64 (i.val : Int)) w g 0 d).heap.size = _
    simp [putRow, mapBlock]
  · show (putRow (fun i : Fin n => Value.int .i64 (i.val : Int)) w g 0 d).heap[k]? = _
    have hne : g ≠ k := fun e => hk ⟨g, 0, none⟩ h0 rfl e.symm
    simp only [putRow, mapBlock, Array.getElem?_modify, if_neg hne]
open Go.Sort Go.Shelf in
set_option maxHeartbeats 1000000 in
theorem insC (base g bs bl : Nat) (sg : Int) (b : Bool) (hsb : sg = 1 ∧ b = false ∨ sg = -1 ∧ b = true) (A : Option Addr) (n c cap : Nat) (l : List Order) (w : World) (hn : l.length = n) (h0 : 0 < n) (h6 : n ≤ 6) (hbs : bs ≠ g) (hbl : bl ≠ g) (hAg : ∀ a, A = some a → a.block ≠ g)
    (hs : w.cell? ⟨bs, 0, none⟩ = some (.int .i64 sg)) (hl : w.cell? ⟨bl, 0, none⟩ = some (.slice A n c)) (hA : Rd w A (flatOrder l)) (hO : Own w base 3 1 (some ⟨g, 0, none⟩) n (ints (nats (List.range n)))) :
    Calls Tryd.prog 49 #[.slice (some ⟨g, 0, none⟩) n cap, .int .i64 0, .int .i64 n, .func (.func 34) #[] #[.pointer (some ⟨bs, 0, none⟩), .pointer (some ⟨bl, 0, none⟩)]] w fun e w' => e = .returned (.tuple #[]) ∧
      ∃ ys : List Nat, ys.length = n ∧ ys.Pairwise (Rk l b) ∧ (∀ k, k ∈ ys ↔ k < n) ∧ Own w' base 3 1 (some ⟨g, 0, none⟩) n (ints (nats ys)) ∧ Turned (some ⟨g, 0, none⟩) n w w' := by
  letI : Inhabited (Fin n) := ⟨⟨0, h0⟩⟩
  have hds : (List.finRange n).toArray.size = n := by simp
  have hgl : g < w.heap.size := hO.lt _ h0 rfl
  have hcell : ∀ (m : Nat) (os : Array Obj) (dk : Array (Fin n)) (a : Addr) (v : Value), a.block ≠ g → w.cell? a = some v → (sortWorld (fun i : Fin n => Value.int .i64 (i.val : Int)) w g 0 m dk os).cell? a = some v := by
    intro m os dk a v hne hv
    have hlt : a.block < w.heap.size := World.block_lt_of_cell? w _ hv
    unfold sortWorld
    rw [cell?_grow _ _ _ (by simpa [putRow, mapBlock, Sort.ahead] using hlt), cell?_putRow_other _ _ _ _ _ _ (.inl hne)]
    exact hv
  have hrd : ∀ (m : Nat) (os : Array Obj) (dk : Array (Fin n)), Rd (sortWorld (fun i : Fin n => Value.int .i64 (i.val : Int)) w g 0 m dk os) A (flatOrder l) := by
    intro m os dk hp
    obtain ⟨x, o, e, hlt, hc⟩ := hA hp
    refine ⟨x, o, e, ?_, fun k u hu => hcell m os dk ⟨x, o + k, none⟩ _ (hAg ⟨x, o, none⟩ e) (hc k u hu)⟩
    unfold sortWorld grow
    simp [putRow, mapBlock, Sort.ahead]; omega
  have hcmp : CmpReads Tryd.prog 34 #[.pointer (some ⟨bs, 0, none⟩), .pointer (some ⟨bl, 0, none⟩)] (fun i : Fin n => Value.int .i64 (i.val : Int)) (fun x y => cfO l sg x.val y.val) g 0 (List.finRange n).toArray.size w := by
    intro m os dk _ x y
    exact closO bs bl sg (by rcases hsb with h | h <;> simp [h.1]) A n c l x.val y.val _ x.isLt y.isLt hn (hcell m os dk ⟨bs, 0, none⟩ _ hbs hs) (hcell m os dk ⟨bl, 0, none⟩ _ hbl hl) (hrd m os dk)
  have hH : Holds (fun i : Fin n => Value.int .i64 (i.val : Int)) w g 0 (List.finRange n).toArray := by
    intro j hj
    rw [hds] at hj
    obtain ⟨h1, h2⟩ := own_int hO hj
    rw [Nat.zero_add]
    refine ⟨?_, h2⟩
    rw [h1, getElem!_pos _ j (by rw [hds]; exact hj)]
    simp [dAt, nats, hj]
  have eg : ∀ args w, (callFunc 34 args).run Tryd.prog w = .ok (.enter 34 args) w := enters_of Tryd.func34 (by kernel_rfl) rfl
  have hcon := Any.insertionSortCmpFunc_one lins (fun i : Fin n => Value.int .i64 (i.val : Int)) (fun _ => rfl) (fun x y => cfO l sg x.val y.val) 34 #[.pointer (some ⟨bs, 0, none⟩), .pointer (some ⟨bl, 0, none⟩)] g 0 cap 0 n (List.finRange n).toArray w eg hcmp hH (Nat.zero_le _) (by rw [hds]; exact Nat.le_refl _) (by rw [hds]; omega)
  rw [hds] at hcon
  refine Calls.mono hcon ?_
  rintro e w' ⟨rfl, q, rfl⟩
  have hlt : ltOf (fun x y : Fin n => cfO l sg x.val y.val) = fun x y : Fin n => oBetter l b x.val y.val := by
    funext x y
    rcases hsb with ⟨rfl, rfl⟩ | ⟨rfl, rfl⟩
    · exact cfO_asc l x.val y.val
    · exact cfO_desc l x.val y.val
  rw [hlt]
  obtain ⟨ys, e1, e2, e3, e4⟩ := sort_list l b n h0 (List.finRange n).toArray (by simp)
  refine ⟨rfl, ys, e2, e3, e4, ?_, turned_putRow w h0 _ q⟩
  have hsz : (Sort.insertionSort (fun x y : Fin n => oBetter l b x.val y.val) (List.finRange n).toArray 0 n).size = n := by
    have := congrArg List.length e1
    simpa [e2] using this
  have := own_putRow hO h0 _ hsz
  rw [e1] at this
  exact this
/-- what the sort leaves -/
def Sorted (l : List Order) (b : Bool) (base g n : Nat) (w : World) (e : Ending) (w' : World) : Prop :=
  e = .returned (.tuple #[]) ∧ ∃ ys : List Nat, ys.length = n ∧ ys.Pairwise (Rk l b) ∧ (∀ k, k ∈ ys ↔ k < n) ∧ Own w' base 3 1 (some ⟨g, 0, none⟩) n (ints (nats ys)) ∧ Turned (some ⟨g, 0, none⟩) n w w'
set_option maxHeartbeats 400000 in
theorem ins0 (p : Option Addr) (cap : Nat) (f : Value) (w : World) : Calls Tryd.prog 49 #[.slice p 0 cap, .int .i64 0, .int .i64 0, f] w fun e w' => e = .returned (.tuple #[]) ∧ w = w' := by
  go_enter Tryd.func49, Tryd.ntmps49
  go_wp2_with fail
  refine wp_loop_rounds 1 ?_
  rw [rounds_succ]
  go_wp2_with fail
  go_end0
  exact ⟨rfl, rfl⟩
set_option maxHeartbeats 400000 in
theorem stabC (p : Option Addr) (n cap : Nat) (f : Value) (w : World) (h6 : n ≤ 6) (R : World → Prop) (hin : Calls Tryd.prog 49 #[.slice p n cap, .int .i64 0, .int .i64 n, f] w fun e w' => e = .returned (.tuple #[]) ∧ R w') :
    Calls Tryd.prog 44 #[.slice p n cap, .int .i64 n, f] w fun e w' => e = .returned (.tuple #[]) ∧ R w' := by
  have HIN := Lib.hid hin; clear hin
  go_enter Tryd.func44, Tryd.ntmps44
  go_wp2_with fail
  refine wp_loop_rounds 1 ?_
  rw [rounds_succ]
  go_wp2_with fail
  refine HIN.out.mono ?_
  rintro e w1 ⟨rfl, hR⟩
  have HR := Lib.hid hR; clear hR
  go_wp2_with fail
  refine wp_loop_rounds 1 ?_
  rw [rounds_succ]
  go_wp2_with fail
  go_end0
  exact ⟨rfl, HR.out⟩
set_option maxHeartbeats 400000 in
theorem sortC (p : Option Addr) (n cap : Nat) (f : Value) (w : World) (h6 : n ≤ 6) (R : World → Prop) (hin : Calls Tryd.prog 49 #[.slice p n cap, .int .i64 0, .int .i64 n, f] w fun e w' => e = .returned (.tuple #[]) ∧ R w') :
    Calls Tryd.prog 33 #[.slice p n cap, f] w fun e w' => e = .returned (.tuple #[]) ∧ R w' := by
  have HIN := Lib.hid (stabC p n cap f w h6 R hin); clear hin
  go_enter Tryd.func33, Tryd.ntmps33
  go_wp2_with fail
  refine HIN.out.mono ?_
  rintro e w1 ⟨rfl, hR⟩
  have HR := Lib.hid hR; clear hR
  go_wp2_with fail
  go_end0
  exact ⟨rfl, HR.out⟩
end Go.Proofs.YtlhfkidgmdojjaaDoor
