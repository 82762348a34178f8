/- Plain laws of the library's merging in place (exchange of ranges, rotation, the cut of two sorted runs). No program, and no statement, is proved here. -/
import Derived.Sort.LotA
namespace Go.Proofs.YtdlphgknplomkaaDoor
open Go.Sort
section
variable {α : Type}
/-- what lies where behind an exchange of ranges -/
def rngG (a b n : Nat) (f : Nat → α) (k : Nat) : α := if a ≤ k ∧ k < a + n then f (k - a + b) else if b ≤ k ∧ k < b + n then f (k - b + a) else f k
/-- what lies where behind a rotation -/
def rotG (a m b : Nat) (f : Nat → α) (k : Nat) : α := if a ≤ k ∧ k < a + (b - m) then f (k + (m - a)) else if a + (b - m) ≤ k ∧ k < b then f (k - (b - m)) else f k
theorem rot_gt (f g : Nat → α) (m i j : Nat) (hij : j < i) (hi : i ≤ m) (hg : ∀ k, g k = rngG (m - i) m j f k) (k : Nat) : rotG (m - (i - j)) m (m + j) g k = rotG (m - i) m (m + j) f k := by
  unfold rotG
  simp only [hg]
  unfold rngG
  repeat' split
  all_goals first | (exfalso; omega) | exact congrArg f (by omega)
theorem rot_lt (f g : Nat → α) (m i j : Nat) (hij : i < j) (hi : i ≤ m) (hg : ∀ k, g k = rngG (m - i) (m + j - i) i f k) (k : Nat) : rotG (m - i) m (m + (j - i)) g k = rotG (m - i) m (m + j) f k := by
  unfold rotG
  simp only [hg]
  unfold rngG
  repeat' split
  all_goals first | (exfalso; omega) | exact congrArg f (by omega)
theorem rot_eq (f g : Nat → α) (m i : Nat) (hi : i ≤ m) (hg : ∀ k, g k = rngG (m - i) m i f k) (k : Nat) : g k = rotG (m - i) m (m + i) f k := by
  rw [hg]
  unfold rotG rngG
  repeat' split
  all_goals first | (exfalso; omega) | exact congrArg f (by omega)
theorem rot_left (a b : Nat) (f : Nat → α) (k : Nat) : rotG a a b f k = f k := by
  unfold rotG
  repeat' split
  all_goals first | (exfalso; omega) | exact congrArg f (by omega)
theorem rot_right (a b : Nat) (f : Nat → α) (k : Nat) : rotG a b b f k = f k := by
  unfold rotG
  repeat' split
  all_goals first | (exfalso; omega) | exact congrArg f (by omega)

def shUpG (a n : Nat) (f : Nat → α) (k : Nat) : α := if a ≤ k ∧ k < a + n then f (k + 1) else if k = a + n then f a else f k
def shDnG (m n : Nat) (f : Nat → α) (k : Nat) : α := if m - n < k ∧ k ≤ m then f (k - 1) else if k = m - n then f m else f k
theorem swo_le_lt {lt : α → α → Bool} (h : SWO lt) {x y z : α} (h1 : lt x y = false) (h2 : lt z y = true) : lt x z = false := by
  cases hxz : lt x z with
  | false => rfl
  | true => have := h.trans _ _ _ hxz h2; rw [h1] at this; cases this
theorem swo_lt_le {lt : α → α → Bool} (h : SWO lt) {x y z : α} (h1 : lt y x = false) (h2 : lt y z = true) : lt z x = false := by
  cases hzx : lt z x with
  | false => rfl
  | true => have := h.trans _ _ _ h2 hzx; rw [h1] at this; cases this
end

variable {α : Type} [Inhabited α]

/-- the places from a on and from b on, n of each, exchanged -/
def rngSwap (d : Array α) (a b : Nat) : Nat → Array α
  | 0 => d
  | n + 1 => swp (rngSwap d a b n) (a + n) (b + n)
theorem rngSwap_size (d : Array α) (a b : Nat) : ∀ n, (rngSwap d a b n).size = d.size
  | 0 => rfl
  | n + 1 => by rw [rngSwap, size_swp, rngSwap_size d a b n]
theorem rngSwap_get (d : Array α) (a b : Nat) : ∀ n, a + n ≤ b → b + n ≤ d.size → ∀ k, (rngSwap d a b n)[k]! = rngG a b n (fun k => d[k]!) k
  | 0, _, _, k => by
    unfold rngG
    rw [rngSwap, if_neg (by omega), if_neg (by omega)]
  | n + 1, h1, h2, k => by
    have ih := rngSwap_get d a b n (by omega) (by omega)
    have hsz := rngSwap_size d a b n
    rw [rngSwap, swp_get _ (by omega) (by omega), ih, ih, ih]
    generalize (fun k => d[k]! : Nat → α) = f
    unfold rngG
    repeat' split
    all_goals first | (exfalso; omega) | exact congrArg f (by omega)
theorem rngSwap_perm (d : Array α) (a b lo hi : Nat) (hlo : lo ≤ a) (hs : hi ≤ d.size) : ∀ n, a + n ≤ b → b + n ≤ hi → PermIn lo hi d (rngSwap d a b n)
  | 0, _, _ => permIn_refl _ _ _
  | n + 1, h1, h2 => permIn_trans _ _ _ _ _ (rngSwap_perm d a b lo hi hlo hs n (by omega) (by omega)) (swp_permIn _ _ _ _ _ (by omega) (by omega) (by omega) (by omega) (by rw [rngSwap_size]; exact hs))

/-- d' is d rotated -/
def Rot (a m b : Nat) (d d' : Array α) : Prop := PermIn a b d d' ∧ ∀ k, d'[k]! = rotG a m b (fun k => d[k]!) k

/-- one element moved up -/
def shUp (d : Array α) (a : Nat) : Nat → Array α
  | 0 => d
  | n + 1 => swp (shUp d a n) (a + n) (a + n + 1)
theorem shUp_size (d : Array α) (a : Nat) : ∀ n, (shUp d a n).size = d.size
  | 0 => rfl
  | n + 1 => by rw [shUp, size_swp, shUp_size d a n]
theorem shUp_get (d : Array α) (a : Nat) : ∀ n, a + n < d.size → ∀ k, (shUp d a n)[k]! = shUpG a n (fun k => d[k]!) k
  | 0, _, k => by
    generalize hf : (fun k => d[k]! : Nat → α) = f
    have : d[k]! = f k := by rw [← hf]
    rw [shUp, this]
    unfold shUpG
    repeat' split
    all_goals first | (exfalso; omega) | exact congrArg f (by omega)
  | n + 1, h, k => by
    have ih := shUp_get d a n (by omega)
    have hsz := shUp_size d a n
    rw [shUp, swp_get _ (by omega) (by omega), ih, ih, ih]
    generalize (fun k => d[k]! : Nat → α) = f
    unfold shUpG
    repeat' split
    all_goals first | (exfalso; omega) | exact congrArg f (by omega)
theorem shUp_perm (d : Array α) (a lo hi : Nat) (hlo : lo ≤ a) (hs : hi ≤ d.size) : ∀ n, a + n < hi → PermIn lo hi d (shUp d a n)
  | 0, _ => permIn_refl _ _ _
  | n + 1, h => permIn_trans _ _ _ _ _ (shUp_perm d a lo hi hlo hs n (by omega)) (swp_permIn _ _ _ _ _ (by omega) (by omega) (by omega) (by omega) (by rw [shUp_size]; exact hs))
/-- one element moved down -/
def shDn (d : Array α) (m : Nat) : Nat → Array α
  | 0 => d
  | n + 1 => swp (shDn d m n) (m - n) (m - n - 1)
theorem shDn_size (d : Array α) (m : Nat) : ∀ n, (shDn d m n).size = d.size
  | 0 => rfl
  | n + 1 => by rw [shDn, size_swp, shDn_size d m n]
theorem shDn_get (d : Array α) (m : Nat) (hm : m < d.size) : ∀ n, n ≤ m → ∀ k, (shDn d m n)[k]! = shDnG m n (fun k => d[k]!) k
  | 0, _, k => by
    generalize hf : (fun k => d[k]! : Nat → α) = f
    have : d[k]! = f k := by rw [← hf]
    rw [shDn, this]
    unfold shDnG
    repeat' split
    all_goals first | (exfalso; omega) | exact congrArg f (by omega)
  | n + 1, h, k => by
    have ih := shDn_get d m hm n (by omega)
    have hsz := shDn_size d m n
    rw [shDn, swp_get _ (by omega) (by omega), ih, ih, ih]
    generalize (fun k => d[k]! : Nat → α) = f
    unfold shDnG
    repeat' split
    all_goals first | (exfalso; omega) | exact congrArg f (by omega)
theorem shDn_perm (d : Array α) (m lo hi : Nat) (hm : m < hi) (hs : hi ≤ d.size) : ∀ n, lo + n ≤ m → PermIn lo hi d (shDn d m n)
  | 0, _ => permIn_refl _ _ _
  | n + 1, h => permIn_trans _ _ _ _ _ (shDn_perm d m lo hi hm hs n (by omega)) (swp_permIn _ _ _ _ _ (by omega) (by omega) (by omega) (by omega) (by rw [shDn_size]; exact hs))

variable {lt : α → α → Bool}
theorem sorted_le (h : SWO lt) {a b : Nat} {d : Array α} (hs : SortedIn lt a b d) {i j : Nat} (hi : a ≤ i) (hij : i ≤ j) (hj : j < b) : lt d[j]! d[i]! = false := by
  rcases Nat.lt_or_ge i j with h1 | h1
  · exact hs i j hi h1 hj
  · have : i = j := by omega
    subst this; exact h.irrefl _
/-- a run of one element in front of a sorted run: moved to its place -/
theorem ins_up (h : SWO lt) {d d' : Array α} {a b i : Nat} (hs : SortedIn lt (a + 1) b d) (hi : a + 1 ≤ i) (hib : i ≤ b) (hl : i = a + 1 ∨ lt d[i - 1]! d[a]! = true) (hr : i = b ∨ lt d[i]! d[a]! = false)
    (hg : ∀ k, d'[k]! = shUpG a (i - 1 - a) (fun k => d[k]!) k) : SortedIn lt a b d' := by
  intro p q hp hpq hq
  rw [hg, hg]
  unfold shUpG
  have before : ∀ x, a + 1 ≤ x → x < i → lt d[a]! d[x]! = false := fun x h1 h2 => by
    rcases hl with e | e
    · omega
    · exact swo_lt_le h (sorted_le h hs h1 (show x ≤ i - 1 by omega) (by omega)) e
  have behind : ∀ x, i ≤ x → x < b → lt d[x]! d[a]! = false := fun x h1 h2 => by
    rcases hr with e | e
    · omega
    · exact h.ntrans _ _ _ (sorted_le h hs hi h1 h2) e
  repeat' split
  all_goals first
    | (exfalso; omega)
    | exact before _ (by omega) (by omega)
    | exact behind _ (by omega) (by omega)
    | exact sorted_le h hs (by omega) (by omega) (by omega)
/-- a run of one element behind a sorted run: moved to its place -/
theorem ins_dn (h : SWO lt) {d d' : Array α} {a m i : Nat} (hs : SortedIn lt a m d) (hi : a ≤ i) (him : i ≤ m) (hl : i = a ∨ lt d[m]! d[i - 1]! = false) (hr : i = m ∨ lt d[m]! d[i]! = true)
    (hg : ∀ k, d'[k]! = shDnG m (m - i) (fun k => d[k]!) k) : SortedIn lt a (m + 1) d' := by
  intro p q hp hpq hq
  rw [hg, hg]
  unfold shDnG
  have before : ∀ x, a ≤ x → x < i → lt d[m]! d[x]! = false := fun x h1 h2 => by
    rcases hl with e | e
    · omega
    · exact h.ntrans _ _ _ e (sorted_le h hs h1 (show x ≤ i - 1 by omega) (by omega))
  have behind : ∀ x, i ≤ x → x < m → lt d[x]! d[m]! = false := fun x h1 h2 => by
    rcases hr with e | e
    · omega
    · exact swo_le_lt h (sorted_le h hs hi h1 h2) e
  repeat' split
  all_goals first
    | (exfalso; omega)
    | exact before _ (by omega) (by omega)
    | exact behind _ (by omega) (by omega)
    | exact sorted_le h hs (by omega) (by omega) (by omega)

/-- the cut that the search of a merge finds -/
def Cut (lt : α → α → Bool) (lo hi n s : Nat) (d : Array α) : Prop := lo ≤ s ∧ s ≤ hi ∧ (s = lo ∨ lt d[n - s]! d[s - 1]! = false) ∧ (s = hi ∨ lt d[n - 1 - s]! d[s]! = true)
/-- behind the rotation all of the left half comes before all of the right half, and each half is two sorted runs -/
theorem sym_cut (h : SWO lt) {d d' : Array α} {a m b mid s lo hi : Nat} (ham : a < m) (hmb : m < b) (hm1 : 2 * mid ≤ a + b) (hm2 : a + b ≤ 2 * mid + 1)
    (hlh : (mid < m ∧ lo = mid + m - b ∧ hi = mid) ∨ (m ≤ mid ∧ lo = a ∧ hi = m)) (hc : Cut lt lo hi (mid + m) s d) (h1 : SortedIn lt a m d) (h2 : SortedIn lt m b d)
    (hg : ∀ k, d'[k]! = rotG s m (mid + m - s) (fun k => d[k]!) k) :
    SortedIn lt a s d' ∧ SortedIn lt s mid d' ∧ SortedIn lt mid (mid + m - s) d' ∧ SortedIn lt (mid + m - s) b d' ∧ ∀ x y, a ≤ x → x < mid → mid ≤ y → y < b → lt d'[y]! d'[x]! = false := by
  obtain ⟨c1, c2, c3, c4⟩ := hc
  have hsm : s ≤ m := by omega
  have hsa : a ≤ s := by omega
  have hsd : s ≤ mid := by omega
  have heb : mid + m - s ≤ b := by omega
  have cross : ∀ x y, a ≤ x → x < s → mid + m - s ≤ y → y < b → lt d[y]! d[x]! = false := fun x y g1 g2 g3 g4 => by
    rcases c3 with e | e
    · omega
    · exact h.ntrans _ _ _ (sorted_le h h2 (by omega) g3 g4) (h.ntrans _ _ _ e (sorted_le h h1 g1 (show x ≤ s - 1 by omega) (by omega)))
  have cross2 : ∀ x y, m ≤ x → x < mid + m - s → s ≤ y → y < m → lt d[y]! d[x]! = false := fun x y g1 g2 g3 g4 => by
    rcases c4 with e | e
    · omega
    · have e1 : lt d[s]! d[mid + m - 1 - s]! = false := h.asymmA e
      exact h.ntrans _ _ _ (sorted_le h h1 hsa g3 g4) (h.ntrans _ _ _ e1 (sorted_le h h2 g1 (show x ≤ mid + m - 1 - s by omega) (by omega)))
  refine ⟨?_, ?_, ?_, ?_, ?_⟩
  · intro p q hp hpq hq
    rw [hg, hg]; unfold rotG
    rw [if_neg (by omega), if_neg (by omega), if_neg (by omega), if_neg (by omega)]
    exact h1 p q hp hpq (by omega)
  · intro p q hp hpq hq
    rw [hg, hg]; unfold rotG
    rw [if_pos (by omega), if_pos (by omega)]
    exact h2 _ _ (by omega) (by omega) (by omega)
  · intro p q hp hpq hq
    rw [hg, hg]; unfold rotG
    rw [if_neg (by omega), if_pos (by omega), if_neg (by omega), if_pos (by omega)]
    exact h1 _ _ (by omega) (by omega) (by omega)
  · intro p q hp hpq hq
    rw [hg, hg]; unfold rotG
    rw [if_neg (by omega), if_neg (by omega), if_neg (by omega), if_neg (by omega)]
    exact h2 p q (by omega) hpq hq
  · intro x y hx hxm hy hyb
    rw [hg, hg]; unfold rotG
    repeat' split
    all_goals first
      | (exfalso; omega)
      | exact cross _ _ (by omega) (by omega) (by omega) (by omega)
      | exact cross2 _ _ (by omega) (by omega) (by omega) (by omega)
      | exact h1 _ _ (by omega) (by omega) (by omega)
      | exact h2 _ _ (by omega) (by omega) (by omega)
/-- two halves, each sorted by itself -/
theorem sym_join {d1 d2 d3 : Array α} {a mid b : Nat} (hmb : mid ≤ b) (hb : b ≤ d1.size) (hx : ∀ x y, a ≤ x → x < mid → mid ≤ y → y < b → lt d1[y]! d1[x]! = false)
    (p1 : PermIn a mid d1 d2) (s1 : SortedIn lt a mid d2) (p2 : PermIn mid b d2 d3) (s2 : SortedIn lt mid b d3) : SortedIn lt a b d3 := by
  have k1 : ∀ y, mid ≤ y → y < b → ∀ x, a ≤ x → x < mid → lt d1[y]! d2[x]! = false := fun y h1 h2 =>
    permIn_all d1 d2 a mid (fun z => lt d1[y]! z = false) (by omega) p1 (fun x h3 h4 => hx x y h3 h4 h1 h2)
  have k2 : ∀ x, a ≤ x → x < mid → ∀ y, mid ≤ y → y < b → lt d3[y]! d2[x]! = false := fun x h1 h2 =>
    permIn_all d2 d3 mid b (fun z => lt z d2[x]! = false) (by rw [p1.1]; exact hb) p2 (fun y h3 h4 => by
      rw [p1.2.1 y (.inr h3)]; exact k1 y h3 h4 x h1 h2)
  intro p q hp hpq hq
  rcases Nat.lt_or_ge q mid with h | h
  · rw [p2.2.1 q (.inl h), p2.2.1 p (.inl (by omega))]; exact s1 p q hp hpq h
  · rcases Nat.lt_or_ge p mid with h' | h'
    · rw [p2.2.1 p (.inl h')]; exact k2 p hp h' q h hq
    · exact s2 p q h' hpq hq
end Go.Proofs.YtdlphgknplomkaaDoor
