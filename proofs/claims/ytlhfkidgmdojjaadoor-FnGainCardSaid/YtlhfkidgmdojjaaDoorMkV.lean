/- Small laws of trades that the walks of the laws use. No statement is proved here. -/
import Derived.Test.YtlhfkidgmdojjaaDoorMkJ
namespace Go.Proofs.YtlhfkidgmdojjaaDoor
open Go.RowKit
theorem tradeV_len (asks bids : List Order) : (tradeV asks bids).1.length ≤ 1000 ∧ (tradeV asks bids).2.length ≤ 1000 := by
  rcases trade_law asks bids with ⟨e, _⟩ | ⟨ha, hb, e1, e2, _⟩
  · rw [e]; simp
  · have := side_len ha; have := side_len hb; omega
theorem rdQ {w wr : World} {A : Option Addr} {cs : List Value} (h : Hid (Rd w A cs)) (hq : Hid (∃ q, wr = w.drewN q)) : Rd wr A cs := by
  obtain ⟨q, rfl⟩ := hq.out
  exact h.out.drewN q
end Go.Proofs.YtlhfkidgmdojjaaDoor
