/- Plain laws of frames: what is valid, the bytes of a frame, what is read. No statement is proved here. -/
import Derived.Test.YtddiloillgbneaaDoorAll
namespace Go.Proofs.YtddiloillgbneaaDoor

/-- the sum of numbers -/
def sm : List Int → Int
  | [] => 0
  | x :: l => x + sm l
theorem sm_append (l m : List Int) : sm (l ++ m) = sm l + sm m := by
  induction l with
  | nil => simp [sm]
  | cons x l ih => simp [sm, ih]; omega
theorem sm_take_succ (l : List Int) (k : Nat) (h : k < l.length) : sm (l.take (k + 1)) = sm (l.take k) + l.getD k 0 := by
  rw [List.take_succ_eq_append_getElem h, sm_append]; simp [sm, h]
def byteL (l : List Int) : Bool := l.all fun x => inB x 0 255
theorem sm_bytes : ∀ l : List Int, byteL l = true → 0 ≤ sm l ∧ sm l ≤ 255 * (l.length : Int)
  | [], _ => by simp [sm]
  | x :: l, h => by
    simp only [byteL, List.all_cons, Bool.and_eq_true, inB_iff] at h
    have := sm_bytes l h.2
    simp only [sm, List.length_cons]; omega
theorem byteL_take (l : List Int) (k : Nat) (h : byteL l = true) : byteL (l.take k) = true := by
  simp only [byteL, List.all_eq_true] at h ⊢
  exact fun x hx => h x (List.mem_of_mem_take hx)
theorem byteL_get (l : List Int) (k : Nat) (h : byteL l = true) : 0 ≤ l.getD k 0 ∧ l.getD k 0 ≤ 255 := by
  rcases Nat.lt_or_ge k l.length with hk | hk
  · simp only [byteL, List.all_eq_true] at h
    have := h _ (List.getElem_mem hk)
    rw [inB_iff] at this
    simpa [hk] using this
  · simp [List.getD, List.getElem?_eq_none hk]

def frmB (a : Int) (b : List Int) : Bool := inB a 0 255 && (decide (b.length ≤ 12) && byteL b)
theorem frmB_iff (a : Int) (b : List Int) : frmB a b = true ↔ (0 ≤ a ∧ a ≤ 255) ∧ b.length ≤ 12 ∧ byteL b = true := by
  simp [frmB, inB_iff, and_assoc]
def frmSum (a : Int) (b : List Int) : Int := ((b.length : Int) + a + sm b) % 256
def frmOut (a : Int) (b : List Int) : List Int := 104 :: (b.length : Int) :: a :: (b ++ [frmSum a b, 22])
def frmBytes (a : Int) (b : List Int) : List Int := if frmB a b then frmOut a b else []
theorem frmOut_len (a : Int) (b : List Int) : (frmOut a b).length = b.length + 5 := by simp [frmOut]
theorem frmBytes_len (a : Int) (b : List Int) : (frmBytes a b).length ≤ 17 := by
  unfold frmBytes
  split
  · next h => rw [frmOut_len]; have := ((frmB_iff a b).1 h).2.1; omega
  · simp

def rdCnt (xs : List Int) : Nat := (xs.getD 1 0).toNat
def rdBody (xs : List Int) : List Int := (xs.drop 3).take (rdCnt xs)
def rdOk (xs : List Int) : Bool := decide (5 ≤ xs.length) && (inB (xs.getD 1 0) 0 12 && (decide (rdCnt xs + 5 ≤ xs.length) && decide (frmBytes (xs.getD 2 0) (rdBody xs) = xs.take (rdCnt xs + 5))))
def rdN (xs : List Int) : Nat := if rdOk xs then rdCnt xs + 5 else 0
def rdA (xs : List Int) : Int := if rdOk xs then xs.getD 2 0 else 0
def rdB (xs : List Int) : List Int := if rdOk xs then rdBody xs else []
theorem rd_short {xs : List Int} (h : xs.length < 5) : rdOk xs = false := by
  have : decide (5 ≤ xs.length) = false := by simpa using h
  rw [rdOk, this]; rfl
theorem rd_cnt {xs : List Int} (h : inB (xs.getD 1 0) 0 12 = false) : rdOk xs = false := by
  rw [rdOk, h]; simp
theorem rd_len {xs : List Int} (h : xs.length < rdCnt xs + 5) : rdOk xs = false := by
  have : decide (rdCnt xs + 5 ≤ xs.length) = false := by simpa using h
  rw [rdOk, this]; simp
theorem rd_eq {xs : List Int} (h1 : 5 ≤ xs.length) (h2 : inB (xs.getD 1 0) 0 12 = true) (h3 : rdCnt xs + 5 ≤ xs.length) : rdOk xs = decide (frmBytes (xs.getD 2 0) (rdBody xs) = xs.take (rdCnt xs + 5)) := by
  rw [rdOk, h2, decide_eq_true h1, decide_eq_true h3]; simp
theorem rd_no {xs : List Int} (h : rdOk xs = false) : rdN xs = 0 ∧ rdA xs = 0 ∧ rdB xs = [] := by simp [rdN, rdA, rdB, h]
theorem rd_yes {xs : List Int} (h : rdOk xs = true) : rdN xs = rdCnt xs + 5 ∧ rdA xs = xs.getD 2 0 ∧ rdB xs = rdBody xs := by simp [rdN, rdA, rdB, h]
theorem rdOk_iff (xs : List Int) : rdOk xs = true ↔ 5 ≤ xs.length ∧ (0 ≤ xs.getD 1 0 ∧ xs.getD 1 0 ≤ 12) ∧ rdCnt xs + 5 ≤ xs.length ∧ frmBytes (xs.getD 2 0) (rdBody xs) = xs.take (rdCnt xs + 5) := by
  simp only [rdOk, Bool.and_eq_true, decide_eq_true_eq, inB_iff]
theorem rdBody_len {xs : List Int} (h : rdCnt xs + 5 ≤ xs.length) : (rdBody xs).length = rdCnt xs := by simp [rdBody]; omega
theorem rdB_len (xs : List Int) : (rdB xs).length ≤ 12 := by
  cases h : rdOk xs with
  | false => rw [(rd_no h).2.2]; simp
  | true =>
    have h' := (rdOk_iff xs).1 h
    rw [(rd_yes h).2.2, rdBody_len h'.2.2.1, rdCnt]; omega
theorem rdN_le (xs : List Int) : rdN xs ≤ xs.length := by
  cases h : rdOk xs with
  | false => rw [(rd_no h).1]; omega
  | true => rw [(rd_yes h).1]; exact ((rdOk_iff xs).1 h).2.2.1

/-- what is read is a valid frame, and its bytes are those that were read -/
theorem rd_valid {xs : List Int} (h : rdOk xs = true) : frmB (rdA xs) (rdB xs) = true ∧ frmBytes (rdA xs) (rdB xs) = xs.take (rdN xs) ∧ (rdB xs).length + 5 = rdN xs := by
  have h' := (rdOk_iff xs).1 h
  obtain ⟨e1, e2, e3⟩ := rd_yes h
  rw [e1, e2, e3]
  refine ⟨?_, h'.2.2.2, by rw [rdBody_len h'.2.2.1]⟩
  cases hf : frmB (xs.getD 2 0) (rdBody xs) with
  | true => rfl
  | false =>
    have h2 := congrArg List.length h'.2.2.2
    rw [frmBytes, hf, List.length_take] at h2
    have h3 : ([] : List Int).length = min (rdCnt xs + 5) xs.length := h2
    have h4 : 0 = min (rdCnt xs + 5) xs.length := h3
    omega

/-- the bytes of a valid frame are read as it, whatever stands behind -/
theorem rd_frm (a : Int) (b t : List Int) (h : frmB a b = true) : rdOk (frmOut a b ++ t) = true ∧ rdA (frmOut a b ++ t) = a ∧ rdB (frmOut a b ++ t) = b ∧ rdN (frmOut a b ++ t) = b.length + 5 := by
  have hb := (frmB_iff a b).1 h
  have g1 : (frmOut a b ++ t).getD 1 0 = (b.length : Int) := by simp [frmOut]
  have g2 : (frmOut a b ++ t).getD 2 0 = a := by simp [frmOut]
  have gc : rdCnt (frmOut a b ++ t) = b.length := by rw [rdCnt, g1]; simp
  have gb : rdBody (frmOut a b ++ t) = b := by rw [rdBody, gc]; simp [frmOut]
  have gt : (frmOut a b ++ t).take (b.length + 5) = frmOut a b := by rw [← frmOut_len a b, List.take_left']; rfl
  have hok : rdOk (frmOut a b ++ t) = true := by
    rw [rdOk_iff, g1, g2, gc, gb, gt]
    refine ⟨by simp [frmOut_len]; omega, by omega, by simp [frmOut_len], by simp [frmBytes, h]⟩
  obtain ⟨e1, e2, e3⟩ := rd_yes hok
  exact ⟨hok, by rw [e2, g2], by rw [e3, gb], by rw [e1, gc]⟩
/-- fewer bytes are none -/
theorem rd_less (a : Int) (b : List Int) (k : Nat) (hk : k < (frmOut a b).length) : rdOk ((frmOut a b).take k) = false := by
  rcases Nat.lt_or_ge k 5 with h5 | h5
  · exact rd_short (by simp; omega)
  · refine rd_len ?_
    have g1 : ((frmOut a b).take k).getD 1 0 = (b.length : Int) := by
      rw [List.getD_eq_getElem?_getD, List.getElem?_take, if_pos (by omega)]; simp [frmOut]
    rw [rdCnt, g1]
    rw [frmOut_len] at hk
    simp; omega

theorem rd_form (x a z s : Int) (b : List Int) (h : rdOk (x :: (b.length : Int) :: a :: (b ++ [s, z])) = true) : x = 104 ∧ s = frmSum a b ∧ z = 22 := by
  have h' := (rdOk_iff _).1 h
  have gc : rdCnt (x :: (b.length : Int) :: a :: (b ++ [s, z])) = b.length := by simp [rdCnt]
  have gb : rdBody (x :: (b.length : Int) :: a :: (b ++ [s, z])) = b := by rw [rdBody, gc]; simp
  have e := h'.2.2.2
  rw [gc, gb] at e
  have g2 : (x :: (b.length : Int) :: a :: (b ++ [s, z])).getD 2 0 = a := by simp
  rw [g2, List.take_of_length_le (by simp)] at e
  unfold frmBytes at e
  split at e
  · simp [frmOut] at e
    exact ⟨e.1.symm, e.2.1.symm, e.2.2.symm⟩
  · simp at e
theorem sm_set : ∀ (b : List Int) (j : Nat) (v : Int), j < b.length → sm (b.set j v) = sm b - b.getD j 0 + v
  | [], _, _, h => absurd h (by simp)
  | x :: b, 0, v, _ => by simp [sm]; omega
  | x :: b, j + 1, v, h => by
    have := sm_set b j v (by simpa using h)
    simp [sm] at this ⊢; omega
/-- with one byte greater by 1 there is none -/
theorem rd_other (a : Int) (b : List Int) (h : frmB a b = true) (k : Nat) (hk : k < (frmOut a b).length) : rdOk ((frmOut a b).set k (((frmOut a b).getD k 0 + 1) % 256)) = false := by
  have hb := (frmB_iff a b).1 h
  rw [frmOut_len] at hk
  cases hr : rdOk ((frmOut a b).set k (((frmOut a b).getD k 0 + 1) % 256)) with
  | false => rfl
  | true =>
    exfalso
    match k, hk with
    | 0, _ =>
      have := (rd_form _ _ _ _ b (by simpa [frmOut] using hr)).1
      omega
    | 1, _ =>
      have h' := (rdOk_iff _).1 hr
      have g1 : ((frmOut a b).set 1 (((frmOut a b).getD 1 0 + 1) % 256)).getD 1 0 = ((b.length : Int) + 1) % 256 := by simp [frmOut]
      have gl := h'.2.2.1
      rw [rdCnt, g1] at gl
      simp [frmOut_len] at gl
      omega
    | 2, _ =>
      have := (rd_form _ _ _ _ b (by simpa [frmOut] using hr)).2.1
      simp only [frmSum] at this
      omega
    | j + 3, hk =>
      have e : (frmOut a b).set (j + 3) (((frmOut a b).getD (j + 3) 0 + 1) % 256) = 104 :: (b.length : Int) :: a :: ((b ++ [frmSum a b, 22]).set j (((b ++ [frmSum a b, 22]).getD j 0 + 1) % 256)) := by simp [frmOut]
      rw [e] at hr
      rcases Nat.lt_or_ge j b.length with hj | hj
      · have e2 : (b ++ [frmSum a b, 22]).set j (((b ++ [frmSum a b, 22]).getD j 0 + 1) % 256) = b.set j ((b.getD j 0 + 1) % 256) ++ [frmSum a b, 22] := by
          have eg : (b ++ [frmSum a b, 22]).getD j 0 = b.getD j 0 := by
            rw [List.getD_eq_getElem?_getD, List.getElem?_append_left hj, ← List.getD_eq_getElem?_getD]
          rw [List.set_append_left _ _ hj, eg]
        rw [e2] at hr
        have := (rd_form 104 a 22 (frmSum a b) (b.set j ((b.getD j 0 + 1) % 256)) (by simpa using hr)).2.1
        simp only [frmSum, sm_set _ _ _ hj, List.length_set] at this
        omega
      · rcases Nat.lt_or_ge b.length j with h2 | h2
        · have hj2 : j = b.length + 1 := by omega
          subst hj2
          have e2 : (b ++ [frmSum a b, 22]).set (b.length + 1) (((b ++ [frmSum a b, 22]).getD (b.length + 1) 0 + 1) % 256) = b ++ [frmSum a b, 23] := by
            rw [List.set_append_right _ _ (by omega)]; simp
          rw [e2] at hr
          have := (rd_form _ _ _ _ b hr).2.2
          omega
        · have hj2 : j = b.length := by omega
          subst hj2
          have e2 : (b ++ [frmSum a b, 22]).set b.length (((b ++ [frmSum a b, 22]).getD b.length 0 + 1) % 256) = b ++ [(frmSum a b + 1) % 256, 22] := by
            rw [List.set_append_right _ _ (by omega)]; simp
          rw [e2] at hr
          have := (rd_form _ _ _ _ b hr).2.1
          simp only [frmSum] at this
          omega

/-- the frames of a list, and how many numbers are skipped; n: fuel -/
def rdFsN : Nat → List Int → List (Int × List Int) × Nat
  | 0, _ => ([], 0)
  | n + 1, xs => if xs = [] then ([], 0) else if rdOk xs then ((rdA xs, rdB xs) :: (rdFsN n (xs.drop (rdN xs))).1, (rdFsN n (xs.drop (rdN xs))).2) else ((rdFsN n (xs.drop 1)).1, (rdFsN n (xs.drop 1)).2 + 1)
def rdFs (xs : List Int) : List (Int × List Int) × Nat := rdFsN xs.length xs
theorem rdN_pos {xs : List Int} (h : rdOk xs = true) : 5 ≤ rdN xs := by rw [(rd_yes h).1]; omega
theorem rdFsN_more : ∀ (n : Nat) (xs : List Int), xs.length ≤ n → rdFsN n xs = rdFs xs := by
  suffices H : ∀ (n m : Nat) (xs : List Int), xs.length ≤ n → xs.length ≤ m → rdFsN n xs = rdFsN m xs from fun n xs h => H n xs.length xs h (Nat.le_refl _)
  intro n
  induction n with
  | zero =>
    intro m xs h _
    have : xs = [] := List.eq_nil_of_length_eq_zero (by omega)
    subst this
    cases m <;> simp [rdFsN]
  | succ n ih =>
    intro m xs h1 h2
    cases m with
    | zero =>
      have : xs = [] := List.eq_nil_of_length_eq_zero (by omega)
      subst this
      simp [rdFsN]
    | succ m =>
      unfold rdFsN
      by_cases he : xs = []
      · simp [he]
      · have hp : 0 < xs.length := List.length_pos_iff.2 he
        by_cases hr : rdOk xs = true
        · have := rdN_pos hr
          rw [if_neg he, if_neg he, if_pos hr, if_pos hr, ih m (xs.drop (rdN xs)) (by simp; omega) (by simp; omega)]
        · rw [if_neg he, if_neg he, if_neg hr, if_neg hr, ih m (xs.drop 1) (by simp; omega) (by simp; omega)]
theorem rdFs_nil : rdFs [] = ([], 0) := rfl
theorem rdFs_yes {xs : List Int} (h : rdOk xs = true) : rdFs xs = ((rdA xs, rdB xs) :: (rdFs (xs.drop (rdN xs))).1, (rdFs (xs.drop (rdN xs))).2) := by
  have hn := rdN_pos h
  have hle := rdN_le xs
  have he : xs ≠ [] := by intro e; subst e; simp at hle; omega
  obtain ⟨n, hl⟩ : ∃ n, xs.length = n + 1 := ⟨xs.length - 1, by omega⟩
  rw [← rdFsN_more (n + 1) xs (by omega), rdFsN, if_neg he, if_pos h, rdFsN_more n _ (by simp; omega)]
theorem rdFs_no {xs : List Int} (hp : 0 < xs.length) (h : rdOk xs = false) : rdFs xs = ((rdFs (xs.drop 1)).1, (rdFs (xs.drop 1)).2 + 1) := by
  have he : xs ≠ [] := by intro e; subst e; simp at hp
  obtain ⟨n, hl⟩ : ∃ n, xs.length = n + 1 := ⟨xs.length - 1, by omega⟩
  rw [← rdFsN_more (n + 1) xs (by omega), rdFsN, if_neg he, if_neg (by simp [h]), rdFsN_more n _ (by simp; omega)]

/-- all frames that are read are valid; their bytes and what is skipped are all -/
def catB (fs : List (Int × List Int)) : List Int := fs.flatMap fun f => frmBytes f.1 f.2
theorem rdFs_all (xs : List Int) : (∀ f ∈ (rdFs xs).1, frmB f.1 f.2 = true) ∧ (catB (rdFs xs).1).length + (rdFs xs).2 = xs.length := by
  generalize hl : xs.length = l
  induction l using Nat.strongRecOn generalizing xs with
  | _ l ih =>
    rcases Nat.eq_zero_or_pos l with h0 | h0
    · have : xs = [] := List.eq_nil_of_length_eq_zero (by omega)
      subst this
      simp [rdFs_nil, catB]; omega
    · cases hr : rdOk xs with
      | true =>
        have hn := rdN_pos hr
        have hle := rdN_le xs
        obtain ⟨v1, v2, v3⟩ := rd_valid hr
        obtain ⟨i1, i2⟩ := ih (xs.drop (rdN xs)).length (by simp; omega) _ rfl
        rw [rdFs_yes hr]
        refine ⟨?_, ?_⟩
        · intro f hf
          rcases List.mem_cons.1 hf with e | e
          · subst e; exact v1
          · exact i1 f e
        · simp only [catB, List.flatMap_cons, List.length_append] at i2 ⊢
          rw [v2]
          simp at i2 ⊢; omega
      | false =>
        obtain ⟨i1, i2⟩ := ih (xs.drop 1).length (by simp; omega) _ rfl
        rw [rdFs_no (by omega) hr]
        exact ⟨i1, by simp at i2 ⊢; omega⟩
/-- the bytes of valid frames, one behind the other, are read as these frames -/
theorem rdFs_cat : ∀ fs : List (Int × List Int), (∀ f ∈ fs, frmB f.1 f.2 = true) → rdFs (catB fs) = (fs, 0)
  | [], _ => rfl
  | f :: fs, h => by
    have hf := h f (by simp)
    have e : catB (f :: fs) = frmOut f.1 f.2 ++ catB fs := by simp [catB, frmBytes, hf]
    obtain ⟨h1, h2, h3, h4⟩ := rd_frm f.1 f.2 (catB fs) hf
    rw [e, rdFs_yes h1, h2, h3, h4, ← frmOut_len f.1 f.2, List.drop_left', rdFs_cat fs (fun g hg => h g (by simp [hg]))]
    rfl
end Go.Proofs.YtddiloillgbneaaDoor
