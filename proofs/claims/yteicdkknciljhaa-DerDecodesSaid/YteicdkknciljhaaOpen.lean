/- What comes in, opened: an array of four words, a slice of bytes. -/
import Derived.Test.YteicdkknciljhaaSeat
import Derived.ProofKit
import Derived.OpenShut
import Derived.ChangeOld
import Derived.Below
import Derived.Carry
import Derived.Lib.SmallJoins
import Derived.Laws.IdiomArrays
namespace Go.Proofs.Yteicdkknciljhaa
open Go.ChangeShapes Go.WideShapes Go.ChangeAt Go.RowKit Go.Chr Go.Joins

theorem own : ownKnob Try.prog.godebug = none := by kernel_rfl
theorem laidOut : laidOutB Try.prog = true := by kernel_rfl
theorem cellsNat : Try.prog.cellsOf 26 = 4 := by kernel_rfl
theorem cells64 : Try.prog.cellsOf 24 = 1 := by kernel_rfl

theorem open_nat {H : Type} {enc : TypeId × Value → H} {w : World} {r : Reach} {b0 base : Nat} {sp : Nat → Bool} {held : Bool} {v : Value} {d : DataW H} {p : List MemPlace}
    (hv : Value.okWide Try.prog w r b0 26 v) (h : DataW.Trod enc Try.prog w base sp held 26 v d p) :
    ∃ x0 x1 x2 x3 : Int, v = .agg #[.int .u64 x0, .int .u64 x1, .int .u64 x2, .int .u64 x3] ∧ ∀ x ∈ [x0, x1, x2, x3], 0 ≤ x ∧ x < 2 ^ 64 := by
  obtain ⟨cs, rfl, hsz, _⟩ : ∃ cs, v = .agg cs ∧ cs.size = Try.prog.cellsOf 26 ∧ Row.okWide Try.prog w r b0 26 cs := by
    simpa [Value.okWide, Try.underlying26] using hv
  rw [cellsNat] at hsz
  obtain ⟨c0, c1, c2, c3, rfl⟩ := array4 hsz
  obtain ⟨fuel, hf⟩ := h
  obtain ⟨y0, y1, y2, y3, m, -, hy0, hy1, hy2, hy3⟩ := trod_array4 Try.underlying26 cells64 hf
  obtain ⟨x0, e0, -, w0⟩ := DataW.trod_int Try.underlying24 hy0
  obtain ⟨x1, e1, -, w1⟩ := DataW.trod_int Try.underlying24 hy1
  obtain ⟨x2, e2, -, w2⟩ := DataW.trod_int Try.underlying24 hy2
  obtain ⟨x3, e3, -, w3⟩ := DataW.trod_int Try.underlying24 hy3
  simp at e0 e1 e2 e3
  subst e0 e1 e2 e3
  refine ⟨x0, x1, x2, x3, rfl, fun x hx => ?_⟩
  have b0 := bounds_u64 w0
  have b1 := bounds_u64 w1
  have b2 := bounds_u64 w2
  have b3 := bounds_u64 w3
  simp only [List.mem_cons, List.not_mem_nil, or_false] at hx
  rcases hx with rfl | rfl | rfl | rfl <;> omega

theorem open_bytes {H : Type} {enc : TypeId × Value → H} {w : World} {fuel base : Nat} {sp : Nat → Bool} {held : Bool} {a : Option Addr} {len cap : Nat} {y : DataW H × List MemPlace}
    (h : DataW.trod enc Try.prog w base sp held fuel 22 [.slice a len cap] = some y) :
    ∃ l : List Int, l.length = len ∧ len ≤ cap ∧ cap ≤ maxLen ∧ RI w .u8 (.slice a len cap) l ∧ ∀ x ∈ l, 0 ≤ x ∧ x < 256 := by
  rcases open_ints Try.underlying22 Try.underlying5 (by kernel_rfl) h with ⟨hcs, _⟩ | ⟨x, l, c, zs, hcs, _, hl, hm, hz, _, hcell, hwz⟩
  · simp at hcs
    obtain ⟨rfl, rfl, rfl⟩ := hcs
    exact ⟨[], rfl, Nat.le_refl _, by simp [maxLen], ⟨none, 0, rfl, Nat.le_refl _, Reads.none_⟩, by simp⟩
  · simp at hcs
    obtain ⟨rfl, rfl, rfl⟩ := hcs
    have hzl : len ≤ zs.length := by rw [hz]; split <;> omega
    have hlen : (zs.take len).length = len := by rw [List.length_take]; omega
    refine ⟨zs.take len, hlen, hl, hm, ⟨some x, cap, by rw [hlen], by rw [hlen]; exact hl, by rw [hlen, List.length_map, hlen, Nat.mul_one], fun h0 => ?_⟩, fun n hn => ?_⟩
    · have hx := hcell 0 (by rw [hlen] at h0; omega)
      have hb : (x.add 0).block < w.heap.size := by
        rcases Nat.lt_or_ge (x.add 0).block w.heap.size with h | h
        · exact h
        · simp [World.cell?, Array.getElem?_eq_none h] at hx
      refine ⟨x, rfl, hb, fun j u hu => ?_⟩
      rw [List.getElem?_map] at hu
      cases hj : (zs.take len)[j]? with
      | none => rw [hj] at hu; cases hu
      | some n =>
        rw [hj] at hu
        injection hu with hu
        subst hu
        have hlt := (List.getElem?_eq_some_iff.1 hj).1
        rw [hlen] at hlt
        rw [hcell j (by omega)]
        rw [List.getElem?_take, if_pos hlt] at hj
        rw [List.getD, hj]; rfl
    · have := bounds_u8 (hwz n (List.mem_of_mem_take hn)); omega
end Go.Proofs.Yteicdkknciljhaa
