/- Contracts: awake. -/
import Derived.Test.YteicdkknciljhaaDecode2
namespace Go.Proofs.Yteicdkknciljhaa
open Go.RowKit Go.Chr

theorem awake_len : (derE (leB [1, 0, 0, 0]).reverse (leB [128, 0, 0, 0]).reverse).length = 9 := by decide

set_option maxRecDepth 100000 in
set_option maxHeartbeats 1000000 in
theorem awake_any (w : World) : Calls Try.prog 6 #[] w (RetBool w true) := by
  go_enter Try.func6, Try.ntmps6
  go_wp2_with fail
  refine (encode_any 1 0 0 0 128 0 0 0 w).mono ?_
  rintro e w1 ⟨v, rfl, hv, hb⟩
  have HL := Lib.hid awake_len
  obtain ⟨l, hl⟩ : ∃ l, l = derE (leB [1, 0, 0, 0]).reverse (leB [128, 0, 0, 0]).reverse := ⟨_, rfl⟩
  rw [← hl] at hv
  have hlen : l.length = 9 := by rw [hl]; exact HL.out
  obtain ⟨g, c, rfl, -, hc⟩ := hv.form hlen (by decide)
  clear hv hl
  go_wp2
  exact ⟨rfl, .bool true, by simp [results, Try.results6], rfl, hb⟩
end Go.Proofs.Yteicdkknciljhaa
