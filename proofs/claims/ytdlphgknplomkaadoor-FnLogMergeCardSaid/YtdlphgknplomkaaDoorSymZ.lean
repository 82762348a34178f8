/- The library's stable sort at entries: up to 32 of them come out in order. No statement is proved here. -/
import Derived.Test.YtdlphgknplomkaaDoorSymY
import Derived.Test.YtdlphgknplomkaaDoorLogP
import Derived.Test.YtdlphgknplomkaaDoorCopyN
import Derived.StillTailTactics
namespace Go.Proofs.YtdlphgknplomkaaDoor
open Go.RowKit Go.Sort Go.Shelf

section
variable {P : Program} {α : Type} [Inhabited α]
theorem symAll {k : Nat} (L : SymP P k) (enc : α → List Value) (cf : α → α → Int) (hO : SWO (ltOf cf)) (g : Nat) (cb : Array Value) (blk off cap : Nat) (d0 : Array α) (w0 : World)
    (eg : ∀ args w, (callFunc g args).run P w = .ok (.enter g args) w) (hcmp : CmpLays P g cb enc k cf blk off d0.size w0) (R : RowK enc k w0 blk off d0) (hsz : d0.size < 2305843009213693952) :
    ∀ (N a m b : Nat) (x y z : Int) (sz : Nat) (d : Array α) (w : World), b - a ≤ N → x = a → y = m → z = b → sz = d.size → d0.size = d.size → SWK enc k w0 blk off d w → a < m → m < b → b ≤ d.size → SortedIn (ltOf cf) a m d → SortedIn (ltOf cf) m b d →
      Calls P 74 #[.slice (some ⟨blk, off, none⟩) sz cap, .int .i64 x, .int .i64 y, .int .i64 z, .func (.func g) #[] cb] w (SymR (ltOf cf) enc k w0 blk off a b d)
  | 0, a, m, b, _, _, _, _, _, _, hN, _, _, _, _, _, _, ham, hmb, _, _, _ => absurd hN (by omega)
  | N + 1, a, m, b, x, y, z, sz, d, w, hN, hx, hy, hz, hsd, hs, S, ham, hmb, hb, h1, h2 => by
    subst hx hy hz hsd
    by_cases c1 : m ≤ a + 1
    · exact symW1 L enc cf hO g cb blk off cap a m b d0 d w0 w eg hcmp R hs S ham hmb hb (by omega) h1 h2 c1
    · by_cases c2 : b ≤ m + 1
      · exact symW2 L enc cf hO g cb blk off cap a m b d0 d w0 w eg hcmp R hs S hmb hb (by omega) h1 h2 (by omega) c2
      · exact symW3 L enc cf hO g cb blk off cap a m b d0 d w0 w eg hcmp R hs S ham hmb hb (by omega) h1 h2 (by omega) (by omega)
          (fun a' m' b' x' y' z' sz' d' w' hb' hlt hx' hy' hz' hsd' hs' S' ham' hmb' h1' h2' => symAll L enc cf hO g cb blk off cap d0 w0 eg hcmp R hsz N a' m' b' x' y' z' sz' d' w' (by omega) hx' hy' hz' hsd' hs' S' ham' hmb' (by omega) h1' h2')
end

def linE_ren : Go.Shelf.Ren := ⟨fun | 20 => 73 | n => n, fun | 24 => 25 | 22 => 23 | 3 => 3 | 25 => 61 | 4 => 4 | 0 => 0 | n => n, fun | n => n⟩
theorem linE : Go.Proofs.SlLaysF0.n20 Tryd.prog linE_ren := {
  mixed := by kernel_rfl
  f20 := ⟨Tryd.f73.name, by decide, Tryd.func73.trans (congrArg some (by kernel_rfl))⟩
  t0 := Tryd.underlying0
  a0 := Tryd.isAgg0
  z0 := Tryd.sizeOf0
  v0 := Tryd.zeroValue0
  t3 := Tryd.underlying3
  a3 := Tryd.isAgg3
  z3 := Tryd.sizeOf3
  v3 := Tryd.zeroValue3
  t4 := Tryd.underlying4
  a4 := Tryd.isAgg4
  z4 := Tryd.sizeOf4
  v4 := Tryd.zeroValue4
  t22 := Tryd.underlying23
  a22 := Tryd.isAgg23
  z22 := Tryd.sizeOf23
  v22 := Tryd.zeroValue23
  t25 := Tryd.underlying61
  a25 := Tryd.isAgg61
  z25 := Tryd.sizeOf61
  v25 := Tryd.zeroValue61 }

instance : Inhabited Entry := ⟨Entry.zero⟩
theorem swoE : SWO (ltOf cmpE) where
  irrefl x := by show decide _ = false; rw [cmpE_less]; exact less_self x
  trans x y z h h' := by
    change decide _ = true at h h'; show decide _ = true
    rw [cmpE_less] at h h' ⊢; exact less_trans h h'
  ntrans x y z h h' := by
    change decide _ = false at h h'; show decide _ = false
    rw [cmpE_less, lessB_no] at h h' ⊢; omega

set_option maxRecDepth 4000 in
set_option maxHeartbeats 1000000 in
theorem compareG (a b : Entry) (w : World) : Calls Tryd.prog 41 #[.agg a.cells.toArray, .agg b.cells.toArray] w fun e w' => e = .returned (.int .i64 (cmpE a b)) ∧ ∃ q os', w' = grow (w.drewN q) os' := by
  obtain ⟨t, u, v, x⟩ := a
  obtain ⟨t', u', v', x'⟩ := b
  unfold Entry.cells
  go_enter Tryd.func41, Tryd.ntmps41
  go_wp2_with fail
  obtain ⟨q1, q2⟩ := two_boxes w #[.int .i64 t, .int .i64 u, .int .i64 v, .int .i64 x] #[.int .i64 t', .int .i64 u', .int .i64 v', .int .i64 x'] 25 25
  have r0 := (q1 0).trans (show (#[.int .i64 t, .int .i64 u, .int .i64 v, .int .i64 x] : Array Value)[0]? = some (.int .i64 t) from rfl)
  have s0 := (q2 0).trans (show (#[.int .i64 t', .int .i64 u', .int .i64 v', .int .i64 x'] : Array Value)[0]? = some (.int .i64 t') from rfl)
  have r1 := (q1 1).trans (show (#[.int .i64 t, .int .i64 u, .int .i64 v, .int .i64 x] : Array Value)[1]? = some (.int .i64 u) from rfl)
  have s1 := (q2 1).trans (show (#[.int .i64 t', .int .i64 u', .int .i64 v', .int .i64 x'] : Array Value)[1]? = some (.int .i64 u') from rfl)
  have r2 := (q1 2).trans (show (#[.int .i64 t, .int .i64 u, .int .i64 v, .int .i64 x] : Array Value)[2]? = some (.int .i64 v) from rfl)
  have s2 := (q2 2).trans (show (#[.int .i64 t', .int .i64 u', .int .i64 v', .int .i64 x'] : Array Value)[2]? = some (.int .i64 v') from rfl)
  have HW : Hid (((w.alloc (Obj.cells #[.int .i64 t, .int .i64 u, .int .i64 v, .int .i64 x] 25)).alloc (Obj.cells #[.int .i64 t', .int .i64 u', .int .i64 v', .int .i64 x'] 25)).drew = grow (w.drewN 1) #[Obj.cells #[.int .i64 t, .int .i64 u, .int .i64 v, .int .i64 x] 25, Obj.cells #[.int .i64 t', .int .i64 u', .int .i64 v', .int .i64 x'] 25]) := by
    rw [Hid, alloc_eq_grow, alloc_eq_grow, grow_grow]; rfl
  clear q1 q2
  generalize (w.alloc (Obj.cells #[.int .i64 t, .int .i64 u, .int .i64 v, .int .i64 x] 25)).alloc (Obj.cells #[.int .i64 t', .int .i64 u', .int .i64 v', .int .i64 x'] 25) = w2 at *
  go_still_tail 15, (by kernel_rfl)
  still_call (still_of (compare_any _ _ _))
  repeat still_step
  still_call (still_of (compare_any _ _ _))
  repeat still_step
  still_call (still_of (compare_any _ _ _))
  refine wpStill_nil ?_
  change wpList _ _ _ _ _ w2.drew
  clear r0 r1 r2 s0 s1 s2
  generalize w2.drew = w3 at *
  go_wp2_with fail
  refine (or_any _ _ _ [c3 t t', c3 u u', c3 v v'] _ rfl (by simp) (rd_new w3 #[.int .i64 (c3 t t'), .int .i64 (c3 u u'), .int .i64 (c3 v v')] 3)).mono ?_
  rintro e w' ⟨rfl, rfl⟩
  go_wp2_with fail
  go_ret
  exact ⟨rfl, 1, _, by rw [HW.out, alloc_eq_grow, grow_grow]⟩
theorem cells_one4 (x : Entry) : ∀ v ∈ x.cells, v.oneCell' = true := by
  obtain ⟨t, u, v, x⟩ := x
  intro y hy
  simp [Entry.cells] at hy
  rcases hy with rfl | rfl | rfl | rfl <;> rfl

/-- what the sort leaves -/
def SrtR (blk : Nat) (d : Array Entry) (w0 : World) (e : Ending) (w' : World) : Prop :=
  e = .returned (.tuple #[]) ∧ ∃ d', PermIn 0 d.size d d' ∧ SortedIn (ltOf cmpE) 0 d.size d' ∧ SWK Entry.cells 4 w0 blk 0 d' w'
theorem cmpL (blk : Nat) (n : Nat) (w : World) : CmpLays Tryd.prog 41 #[] Entry.cells 4 cmpE blk 0 n w := fun _ _ _ _ x y => compareG x y _
theorem egE : ∀ args w, (callFunc 41 args).run Tryd.prog w = .ok (.enter 41 args) w := enters_of Tryd.func41 (by kernel_rfl) rfl
theorem insW (blk cap a b sz : Nat) (x y : Int) (d0 d : Array Entry) (w0 w : World) (hx : x = a) (hy : y = b) (hsd : sz = d.size) (R : RowK Entry.cells 4 w0 blk 0 d0) (hs : d0.size = d.size) (S : SWK Entry.cells 4 w0 blk 0 d w) (hab : a ≤ b) (hb : b ≤ d.size) (hsz : d.size < 4611686018427387904) :
    Calls Tryd.prog 73 #[.slice (some ⟨blk, 0, none⟩) sz cap, .int .i64 x, .int .i64 y, .func (.func 41) #[] #[]] w fun e w' => e = .returned (.tuple #[]) ∧ ∃ d', PermIn a b d d' ∧ SortedIn (ltOf cmpE) a b d' ∧ SWK Entry.cells 4 w0 blk 0 d' w' := by
  subst hx hy hsd
  have hh := insertionSort_holds (lt := ltOf cmpE) swoE d a b hab hb
  refine (AnyQ.insertionSortCmpFunc linE 4 Tryd.isAgg25 Tryd.sizeOf25 Entry.cells R.hk R.h1 cmpE 41 #[] blk 0 cap a b d w egE (cmpL blk d.size w) (S.holds R.hblk R.hH hs.symm) (S.lt R.hblk) hab hb hsz).mono ?_
  rintro e w' ⟨rfl, n, os, rfl⟩
  exact ⟨rfl, _, hh.1, hh.2, S.on R.hblk n _ os hh.1.1⟩
theorem insNone (p : Option Addr) (n cap a : Nat) (x y : Int) (f : Value) (w : World) (hx : x = a) (hy : y = a) (ha : a ≤ 1048576) : Calls Tryd.prog 73 #[.slice p n cap, .int .i64 x, .int .i64 y, f] w fun e w' => e = .returned (.tuple #[]) ∧ w = w' := by
  subst hx hy
  have hlt : ¬ (a : Int) + 1 < (a : Int) := by omega
  go_enter Tryd.func73, Tryd.ntmps73
  go_wp2_with fail
  refine wp_loop_rounds 1 ?_
  rw [rounds_succ]
  go_wp2_with fail
  go_end0
  exact ⟨rfl, rfl⟩

set_option maxHeartbeats 2000000 in
set_option maxRecDepth 100000 in
theorem stabW (blk cap n : Nat) (d : Array Entry) (w : World) (hn : d.size = n) (h32 : n ≤ 32) (R : RowK Entry.cells 4 w blk 0 d) :
    Calls Tryd.prog 66 #[.slice (some ⟨blk, 0, none⟩) n cap, .int .i64 n, .func (.func 41) #[] #[]] w (SrtR blk d w) := by
  have S0 : Hid (SWK Entry.cells 4 w blk 0 d w) := SWK.start R.hH
  have RR := Lib.hid R; clear R
  have HN := Lib.hid hn; clear hn
  unfold SrtR
  rw [HN.out]
  rcases Nat.lt_trichotomy n 20 with h20 | h20 | h20
  · have hz : ¬ (20 : Int) ≤ (n : Int) := by omega
    have hz2 : ¬ (20 : Int) < (n : Int) := by omega
    go_enter Tryd.func66, Tryd.ntmps66
    go_wp2_with fail
    refine wp_loop_rounds 1 ?_
    rw [rounds_succ]
    go_wp2_with fail
    refine (insW blk cap 0 n n _ _ d d w _ (by omega) (by omega) HN.out.symm RR.out rfl S0.out (by omega) (by have := HN.out; omega) (by have := HN.out; omega)).mono ?_
    rintro e w1 ⟨rfl, d1, P1, Q1, S1⟩
    have HP := Lib.hid P1; have HQ := Lib.hid Q1; have HS := Lib.hid S1; clear P1 Q1 S1
    go_wp2_with fail
    refine wp_loop_rounds 1 ?_
    rw [rounds_succ]
    go_wp2_with fail
    go_end0
    exact ⟨rfl, d1, HP.out, HQ.out, HS.out⟩
  · subst h20
    go_enter Tryd.func66, Tryd.ntmps66
    go_wp2_with fail
    refine wp_loop_rounds 2 ?_
    rw [rounds_succ]
    go_wp2_with fail
    refine (insW blk cap 0 20 20 _ _ d d w _ (by omega) (by omega) HN.out.symm RR.out rfl S0.out (by omega) (by have := HN.out; omega) (by have := HN.out; omega)).mono ?_
    rintro e w1 ⟨rfl, d1, P1, Q1, S1⟩
    have HP := Lib.hid P1; have HQ := Lib.hid Q1; have HS := Lib.hid S1; clear P1 Q1 S1
    go_wp2_with fail
    rw [rounds_succ]
    go_wp2_with fail
    refine (insNone _ 20 cap 20 _ _ _ _ (by omega) (by omega) (by omega)).mono ?_
    rintro e w1 ⟨rfl, rfl⟩
    go_wp2_with fail
    refine wp_loop_rounds 1 ?_
    rw [rounds_succ]
    go_wp2_with fail
    go_end0
    exact ⟨rfl, d1, HP.out, HQ.out, HS.out⟩
  · have hz : (20 : Int) ≤ (n : Int) := by omega
    have hz2 : (20 : Int) < (n : Int) := by omega
    have hz3 : ¬ (40 : Int) ≤ (n : Int) := by omega
    have hz4 : ¬ (40 : Int) < (n : Int) := by omega
    go_enter Tryd.func66, Tryd.ntmps66
    go_wp2_with fail
    refine wp_loop_rounds 2 ?_
    rw [rounds_succ]
    go_wp2_with fail
    refine (insW blk cap 0 20 n _ _ d d w _ (by omega) (by omega) HN.out.symm RR.out rfl S0.out (by omega) (by have := HN.out; omega) (by have := HN.out; omega)).mono ?_
    rintro e w1 ⟨rfl, d1, P1, Q1, S1⟩
    have HP := Lib.hid P1; have HQ := Lib.hid Q1; have HS := Lib.hid S1; clear P1 Q1 S1
    have HN1 : Hid (d1.size = n) := by rw [Hid, HP.out.1]; exact HN.out
    go_wp2_with fail
    rw [rounds_succ]
    go_wp2_with fail
    refine (insW blk cap 20 n n _ _ d d1 w _ (by omega) (by omega) HN1.out.symm RR.out (by rw [HN.out, HN1.out]) HS.out (by omega) (by rw [HN1.out]; omega) (by rw [HN1.out]; omega)).mono ?_
    rintro e w2 ⟨rfl, d2, P2, Q2, S2⟩
    have HN2 : Hid (d2.size = n) := by rw [Hid, P2.1]; exact HN1.out
    have HQ1 : Hid (SortedIn (ltOf cmpE) 0 20 d2) := sorted_congr HQ.out (fun i _ h => P2.2.1 i (.inl h))
    have HP2 : Hid (PermIn 0 n d d2) := permIn_trans _ _ _ _ _ (permIn_mono _ _ 0 20 0 n (by omega) (by omega) (by rw [HN.out]; omega) HP.out) (permIn_mono _ _ 20 n 0 n (by omega) (by omega) (by rw [HN1.out]; omega) P2)
    have HQ2 := Lib.hid Q2; have HS2 := Lib.hid S2; clear P2 Q2 S2 HP HQ HS
    go_wp2_with fail
    refine wp_loop_rounds 2 ?_
    rw [rounds_succ]
    go_wp2_with fail
    refine wp_loop_rounds 1 ?_
    rw [rounds_succ]
    go_wp2_with fail
    refine (symAll symP Entry.cells cmpE swoE 41 #[] blk 0 cap d w egE (cmpL blk d.size w) RR.out (by rw [HN.out]; omega) n 0 20 n _ _ _ n d2 _ (by omega) (by omega) (by omega) (by omega) HN2.out.symm (by rw [HN.out, HN2.out]) HS2.out (by omega) (by omega) (by rw [HN2.out]; omega) HQ1.out HQ2.out).mono ?_
    rintro e w3 ⟨rfl, d3, P3, Q3, S3⟩
    have HP3 := Lib.hid P3; have HQ3 := Lib.hid Q3; have HS3 := Lib.hid S3; clear P3 Q3 S3
    go_wp2_with fail
    rw [rounds_succ]
    go_wp2_with fail
    go_end0
    exact ⟨rfl, d3, permIn_trans _ _ _ _ _ HP2.out HP3.out, HQ3.out, HS3.out⟩
theorem sortW (blk cap n : Nat) (d : Array Entry) (w : World) (hn : d.size = n) (h32 : n ≤ 32) (R : RowK Entry.cells 4 w blk 0 d) :
    Calls Tryd.prog 50 #[.slice (some ⟨blk, 0, none⟩) n cap, .func (.func 41) #[] #[]] w (SrtR blk d w) := by
  have HS := Lib.hid (stabW blk cap n d w hn h32 R)
  clear R hn
  go_enter Tryd.func50, Tryd.ntmps50
  go_wp2_with fail
  refine HS.out.mono ?_
  rintro e w1 ⟨rfl, hR⟩
  have HR := Lib.hid hR; clear hR
  go_wp2_with fail
  go_end0
  exact ⟨rfl, HR.out⟩
end Go.Proofs.YtdlphgknplomkaaDoor
