/- The plain law of the layer der: cuts and tails are refused. -/
import Derived.Test.YteicdkknciljhaaAwake
namespace Go.Proofs.Yteicdkknciljhaa
open Go.RowKit Go.Chr

theorem derE_len (A B : List Int) (hA : A ≠ []) (hB : B ≠ []) (lA : A.length = 32) (lB : B.length = 32) : 8 ≤ (derE A B).length ∧ (derE A B).length ≤ 72 := by
  have a := pBody_length A hA
  have b := pBody_length B hB
  simp only [derE, derI, List.length_cons, List.length_append]
  omega

theorem pBody_mem : ∀ (B : List Int), ∀ x ∈ pBody B, x = 0 ∨ x ∈ B
  | [] => by intro x hx; simp [pBody] at hx
  | [y] => by
      intro x hx
      rw [pBody] at hx
      split at hx <;> simp at hx ⊢ <;> omega
  | y :: z :: r => by
      intro x hx
      rw [pBody] at hx
      split at hx
      · rcases pBody_mem (z :: r) x hx with h | h
        · exact .inl h
        · exact .inr (List.mem_cons_of_mem _ h)
      · split at hx
        · rcases List.mem_cons.1 hx with h | h
          · exact .inl h
          · exact .inr h
        · exact .inr hx
theorem leB_bd (L : List Int) : ∀ x ∈ leB L, 0 ≤ x ∧ x < 256 := by
  intro x hx
  simp only [leB, List.mem_map] at hx
  obtain ⟨i, -, rfl⟩ := hx
  omega
theorem derE_bd (A B : List Int) (hA : A ≠ []) (hB : B ≠ []) (lA : A.length = 32) (lB : B.length = 32) (bA : ∀ x ∈ A, 0 ≤ x ∧ x < 256) (bB : ∀ x ∈ B, 0 ≤ x ∧ x < 256) : ∀ x ∈ derE A B, 0 ≤ x ∧ x < 256 := by
  have a := pBody_length A hA
  have b := pBody_length B hB
  intro x hx
  simp only [derE, derI, List.length_cons, List.length_append, List.mem_cons, List.mem_append] at hx
  rcases hx with rfl | rfl | (rfl | rfl | h) | (rfl | rfl | h)
  · omega
  · omega
  · omega
  · omega
  · rcases pBody_mem A x h with rfl | h
    · omega
    · exact bA x h
  · omega
  · omega
  · rcases pBody_mem B x h with rfl | h
    · omega
    · exact bB x h

theorem decB_take (A B : List Int) (k : Nat) (hk : k < (derE A B).length) : decB ((derE A B).take k) = none := by
  obtain ⟨body, hb⟩ : ∃ body, body = derI A ++ derI B := ⟨_, rfl⟩
  have e : derE A B = 48 :: (body.length : Int) :: body := by rw [hb]; rfl
  rw [e] at hk ⊢
  rcases k with _ | _ | k
  · rfl
  · rfl
  · rw [List.take_succ_cons, List.take_succ_cons, decB_cons, if_neg]
    rintro ⟨-, h⟩
    simp only [List.length_cons] at hk
    rw [List.length_take] at h
    omega

theorem decB_app (A B : List Int) (t : List Int) (ht : t ≠ []) : decB (derE A B ++ t) = none := by
  obtain ⟨body, hb⟩ : ∃ body, body = derI A ++ derI B := ⟨_, rfl⟩
  have e : derE A B = 48 :: (body.length : Int) :: body := by rw [hb]; rfl
  have := List.length_pos_iff.2 ht
  rw [e, List.cons_append, List.cons_append, decB_cons, if_neg]
  rintro ⟨-, h⟩
  rw [List.length_append] at h
  omega
end Go.Proofs.Yteicdkknciljhaa
