/- The plain law of the layer der: what is encoded is decoded, and what is decoded is encoded so. -/
import Derived.Test.YteicdkknciljhaaLaw10
namespace Go.Proofs.Yteicdkknciljhaa
open Go.RowKit Go.Chr

theorem pad_pBody : ∀ A : List Int, A ≠ [] → List.replicate (A.length + 1 - (pBody A).length) 0 ++ pBody A = 0 :: A
  | [x], _ => by rw [pBody]; split <;> simp
  | x :: y :: r, _ => by
    have ih := pad_pBody (y :: r) (by simp)
    have hl := pBody_length (y :: r) (by simp)
    rw [pBody]
    split
    · rename_i h
      obtain ⟨rfl, -⟩ := h
      rw [show ((0 : Int) :: y :: r).length + 1 - (pBody (y :: r)).length = ((y :: r).length + 1 - (pBody (y :: r)).length) + 1 by simp only [List.length_cons] at *; omega, List.replicate_succ, List.cons_append, ih]
    · split
      · simp
      · rw [show (x :: y :: r).length + 1 - (x :: y :: r).length = 1 by omega]; rfl

theorem pBody_good : ∀ A : List Int, A ≠ [] → (∀ x ∈ A, 0 ≤ x ∧ x < 256) → (pBody A).getD 0 0 < 128 ∧ ¬ (1 < (pBody A).length ∧ (pBody A).getD 0 0 = 0 ∧ (pBody A).getD 1 0 < 128) ∧ ((pBody A).length = A.length + 1 → (pBody A).getD 0 0 = 0)
  | [x], _, hb => by
    rw [pBody]
    split
    · simp; omega
    · simp; omega
  | x :: y :: r, _, hb => by
    have ih := pBody_good (y :: r) (by simp) (fun q hq => hb q (List.mem_cons_of_mem _ hq))
    have hl := pBody_length (y :: r) (by simp)
    rw [pBody]
    split
    · refine ⟨ih.1, ih.2.1, fun h => ?_⟩
      simp only [List.length_cons] at *
      omega
    · rename_i h
      split
      · simp; omega
      · simp only [List.getD_cons_zero, List.getD_cons_succ, List.length_cons]
        omega

theorem pBody_pad (k : Nat) (b : List Int) (hb : b ≠ []) : pBody (List.replicate k 0 ++ b) = pBody b := by
  induction k with
  | zero => rfl
  | succ k ih =>
    rw [List.replicate_succ, List.cons_append]
    obtain ⟨y, r, e⟩ : ∃ y r, List.replicate k 0 ++ b = y :: r := by
      cases h : List.replicate k 0 ++ b with
      | nil => simp at h; exact absurd h.2 hb
      | cons y r => exact ⟨y, r, rfl⟩
    rw [e, pBody_zero, ← e, ih]

theorem pBody_id (b : List Int) (h1 : ¬ 128 ≤ b.getD 0 0) (h2 : ¬ (1 < b.length ∧ b.getD 0 0 = 0 ∧ b.getD 1 0 < 128)) : pBody b = b := by
  rcases b with _ | ⟨x, _ | ⟨y, r⟩⟩
  · rfl
  · rw [pBody, if_neg (by simpa using h1)]
  · rw [pBody, if_neg (by simpa using h2), if_neg (by simpa using h1)]

theorem lt8_digits (x : Int) (n : Nat) : lt8 (fun i => x / 2 ^ (8 * i) % 256) n = x % 256 ^ n := by
  induction n with
  | zero => simp [lt8]
  | succ n ih =>
    rw [lt8, ih, show (2 : Int) ^ (8 * n) = 256 ^ n by rw [Int.pow_mul]; rfl]
    have hp : (0 : Int) < 256 ^ n := Int.pow_pos (by decide)
    have e1 := Int.mul_ediv_add_emod x (256 ^ n)
    have e2 := Int.mul_ediv_add_emod (x / 256 ^ n) 256
    have b1 := Int.emod_nonneg x (show (256 : Int) ^ n ≠ 0 by omega)
    have b2 := Int.emod_lt_of_pos x hp
    have b3 := Int.emod_nonneg (x / 256 ^ n) (show (256 : Int) ≠ 0 by omega)
    have b4 := Int.emod_lt_of_pos (x / 256 ^ n) (show (0 : Int) < 256 by omega)
    generalize x / 256 ^ n = q at *
    generalize q / 256 = q2 at *
    generalize q % 256 = r2 at *
    generalize x % 256 ^ n = r at *
    rw [Int.pow_succ]
    generalize (256 : Int) ^ n = P at *
    have e3 : x = (r + r2 * P) + (P * 256) * q2 := by rw [← e1, ← e2]; grind
    have m1 : 0 ≤ r2 * P := Int.mul_nonneg b3 (by omega)
    have m2 : r2 * P ≤ 255 * P := Int.mul_le_mul_of_nonneg_right (by omega) (by omega)
    rw [e3, Int.add_mul_emod_self_left, Int.emod_eq_of_lt (by omega) (by omega)]

theorem leB_getD (L : List Int) {i : Nat} (h : i < 32) : (leB L).getD i 0 = L.getD (i / 8) 0 / 2 ^ (8 * (i % 8)) % 256 := by
  simp [leB, List.getD, h]

theorem limb_leB (L : List Int) {j : Nat} (hj : j < 4) (h0 : 0 ≤ L.getD j 0) (h1 : L.getD j 0 < 2 ^ 64) : limbTo (leB L) j 32 = L.getD j 0 := by
  unfold limbTo
  rw [show min 8 (32 - 8 * j) = 8 by omega]
  rw [lt8_congr (g := fun i => L.getD j 0 / 2 ^ (8 * i) % 256) (fun q hq => ?_), lt8_digits, show (256 : Int) ^ 8 = 2 ^ 64 by decide, Int.emod_eq_of_lt h0 h1]
  rw [leB_getD L (by omega), show (8 * j + q) / 8 = j by omega, show (8 * j + q) % 8 = q by omega]

theorem leN_leB (a0 a1 a2 a3 : Int) (h : ∀ x ∈ [a0, a1, a2, a3], 0 ≤ x ∧ x < 2 ^ 64) : leN (leB [a0, a1, a2, a3]) = [a0, a1, a2, a3] := by
  have g0 := h a0 (by simp)
  have g1 := h a1 (by simp)
  have g2 := h a2 (by simp)
  have g3 := h a3 (by simp)
  unfold leN leTo
  rw [limb_leB [a0, a1, a2, a3] (j := 0) (by omega) g0.1 g0.2, limb_leB [a0, a1, a2, a3] (j := 1) (by omega) g1.1 g1.2, limb_leB [a0, a1, a2, a3] (j := 2) (by omega) g2.1 g2.2, limb_leB [a0, a1, a2, a3] (j := 3) (by omega) g3.1 g3.2]
  rfl

theorem lt8_digit {f : Nat → Int} (h : ∀ i, 0 ≤ f i ∧ f i < 256) {k : Nat} : ∀ {n : Nat}, k < n → lt8 f n / 256 ^ k % 256 = f k := by
  intro n
  induction n with
  | zero => omega
  | succ n ih =>
    intro hk
    have hp : (0 : Int) < 256 ^ k := Int.pow_pos (by decide)
    rw [lt8]
    by_cases e : k = n
    · subst e
      obtain ⟨b1, b2⟩ := lt8_bd h k
      rw [Int.add_mul_ediv_right _ _ (by omega), Int.ediv_eq_zero_of_lt b1 b2, Int.zero_add]
      exact Int.emod_eq_of_lt (h k).1 (h k).2
    · obtain ⟨d, rfl⟩ : ∃ d, n = k + (d + 1) := ⟨n - k - 1, by omega⟩
      rw [show f (k + (d + 1)) * 256 ^ (k + (d + 1)) = (f (k + (d + 1)) * 256 ^ d * 256) * 256 ^ k by rw [Int.pow_add, Int.pow_succ]; grind]
      rw [Int.add_mul_ediv_right _ _ (by omega), Int.add_mul_emod_self_right]
      exact ih (by omega)

theorem leN_getD (L : List Int) {j : Nat} (hj : j < 4) : (leN L).getD j 0 = lt8 (fun i => L.getD (8 * j + i) 0) 8 := by
  have : limbTo L j 32 = lt8 (fun i => L.getD (8 * j + i) 0) 8 := by
    unfold limbTo; rw [show min 8 (32 - 8 * j) = 8 by omega]
  rw [← this]
  rcases j with _ | _ | _ | _ | j <;> first | rfl | omega

theorem leB_leN (L : List Int) (hb : ∀ x ∈ L, 0 ≤ x ∧ x < 256) (hl : 32 ≤ L.length) : leB (leN L) = L.take 32 := by
  refine List.ext_getElem (by rw [leB_length, List.length_take]; omega) fun i h1 h2 => ?_
  rw [leB_length] at h1
  have e := leB_getD (leN L) h1
  rw [leN_getD L (by omega), show (2 : Int) ^ (8 * (i % 8)) = 256 ^ (i % 8) by rw [Int.pow_mul]; rfl, lt8_digit (fun q => getD_bd hb _) (by omega), show 8 * (i / 8) + i % 8 = i by omega] at e
  rw [List.getElem_take]
  rw [List.getD_eq_getElem?_getD, List.getD_eq_getElem?_getD, List.getElem?_eq_getElem (by rw [leB_length]; exact h1), List.getElem?_eq_getElem (by omega)] at e
  exact e

theorem leN_congr {l m : List Int} (h : ∀ i, i < 32 → l.getD i 0 = m.getD i 0) : leN l = leN m := by
  have : ∀ j, j < 4 → limbTo l j 32 = limbTo m j 32 := by
    intro j hj
    unfold limbTo
    exact lt8_congr fun q hq => h _ (by omega)
  simp only [leN, leTo]
  rw [this 0 (by omega), this 1 (by omega), this 2 (by omega), this 3 (by omega)]

theorem leN_snoc (l : List Int) (x : Int) (hl : 32 ≤ l.length) : leN (l ++ [x]) = leN l := by
  refine leN_congr fun i hi => ?_
  simp only [List.getD_eq_getElem?_getD]
  rw [List.getElem?_append_left (by omega)]

theorem natB_pBody (A : List Int) (hl : A.length = 32) : natB (pBody A) = leN A.reverse := by
  have hne : A ≠ [] := by rintro rfl; cases hl
  have hp := pad_pBody A hne
  have hln := pBody_length A hne
  rw [hl] at hp hln
  unfold natB
  by_cases h : (pBody A).length = 33
  · rw [h] at hp ⊢
    simp only [Nat.reduceAdd, Nat.reduceSub, List.replicate_zero, List.nil_append] at *
    rw [hp, List.reverse_cons, leN_snoc _ _ (by simp [hl])]
  · rw [show 32 + 1 - (pBody A).length = (32 - (pBody A).length) + 1 by omega, List.replicate_succ, List.cons_append] at hp
    injection hp with _ hp
    rw [hp]

theorem leN_bd (l : List Int) (hb : ∀ x ∈ l, 0 ≤ x ∧ x < 256) : ∀ x ∈ leN l, 0 ≤ x ∧ x < 2 ^ 64 := by
  have : ∀ j, j < 4 → 0 ≤ limbTo l j 32 ∧ limbTo l j 32 < 2 ^ 64 := by
    intro j hj
    unfold limbTo
    rw [show min 8 (32 - 8 * j) = 8 by omega]
    exact lt8_bd (fun i => getD_bd hb _) 8
  intro x hx
  simp only [leN, leTo, List.mem_cons, List.not_mem_nil, or_false] at hx
  rcases hx with rfl | rfl | rfl | rfl
  · exact this 0 (by omega)
  · exact this 1 (by omega)
  · exact this 2 (by omega)
  · exact this 3 (by omega)

theorem rdI_derI (A t : List Int) (hl : A.length = 32) (hb : ∀ x ∈ A, 0 ≤ x ∧ x < 256) : rdI (derI A ++ t) = some (leN A.reverse, t) := by
  have hne : A ≠ [] := by rintro rfl; cases hl
  have hln := pBody_length A hne
  obtain ⟨g1, g2, g3⟩ := pBody_good A hne hb
  rw [hl] at hln g3
  rw [derI, List.cons_append, List.cons_append, rdI_cons, Int.toNat_natCast, List.take_left, List.drop_left, if_pos, natB_pBody A hl]
  refine ⟨rfl, by omega, by omega, by simp; omega, ?_⟩
  rintro (h | h | h)
  · omega
  · exact g2 h
  · exact h.2 (g3 h.1)

/-- what is encoded is decoded -/
theorem decB_derE (A B : List Int) (lA : A.length = 32) (lB : B.length = 32) (bA : ∀ x ∈ A, 0 ≤ x ∧ x < 256) (bB : ∀ x ∈ B, 0 ≤ x ∧ x < 256) : decB (derE A B) = some (leN A.reverse, leN B.reverse) := by
  rw [derE, decB_cons, if_pos ⟨rfl, rfl⟩, rdI_derI A _ lA bA, Option.bind_some]
  dsimp only
  have := rdI_derI B [] lB bB
  rw [List.append_nil] at this
  rw [this, Option.bind_some]
  dsimp only
  rw [if_pos rfl]

theorem pBody_natB (b : List Int) (h1 : 1 ≤ b.length) (h2 : b.length ≤ 33) (hb : ∀ x ∈ b, 0 ≤ x ∧ x < 256) (hg : ¬ badI b) : pBody (leB (natB b)).reverse = b := by
  unfold badI at hg
  have k1 : ¬ 128 ≤ b.getD 0 0 := fun h => hg (.inl h)
  have k2 : ¬ (1 < b.length ∧ b.getD 0 0 = 0 ∧ b.getD 1 0 < 128) := fun h => hg (.inr (.inl h))
  have k3 : b.length = 33 → b.getD 0 0 = 0 := fun h => Classical.byContradiction fun h' => hg (.inr (.inr ⟨h, h'⟩))
  unfold natB
  rw [leB_leN _ (fun x hx => ?_) (by simp; omega)]
  · by_cases h : b.length = 33
    · have z := k3 h
      rcases b with _ | ⟨x, _ | ⟨y, r⟩⟩
      · cases h
      · cases h
      · simp only [List.getD_cons_zero] at z
        subst z
        rw [show ((0 : Int) :: y :: r).getD 1 0 = y from rfl] at k2
        have hy : 128 ≤ y := Classical.byContradiction fun h' => k2 ⟨by simp, rfl, by omega⟩
        simp only [List.length_cons] at h
        rw [show 32 - ((0 : Int) :: y :: r).length = 0 by simp only [List.length_cons]; omega, List.replicate_zero, List.nil_append, List.reverse_cons, List.take_left' (by simp; omega), List.reverse_reverse, pBody_stop _ _ (.inr (by omega)), if_pos hy]
    · rw [List.take_of_length_le (by simp; omega), List.reverse_reverse, pBody_pad _ _ (by rintro rfl; simp at h1), pBody_id b k1 k2]
  · rw [List.mem_reverse, List.mem_append] at hx
    rcases hx with hx | hx
    · have := List.eq_of_mem_replicate hx; omega
    · exact hb x hx

theorem rdI_canon {r r1 a : List Int} (hb : ∀ x ∈ r, 0 ≤ x ∧ x < 256) (h : rdI r = some (a, r1)) : r = derI (leB a).reverse ++ r1 := by
  rcases r with _ | ⟨x, _ | ⟨n, r⟩⟩
  · cases h
  · cases h
  · rw [rdI_cons] at h
    split at h
    · rename_i hc
      obtain ⟨rfl, c1, c2, c3, c4⟩ := hc
      injection h with h
      injection h with e1 e2
      subst e1 e2
      obtain ⟨m, rfl⟩ : ∃ m : Nat, n = m := ⟨n.toNat, by omega⟩
      rw [Int.toNat_natCast] at *
      have hlen : (r.take m).length = m := by rw [List.length_take]; omega
      rw [derI, pBody_natB (r.take m) (by omega) (by omega) (fun x hx => hb x (by simp [List.mem_of_mem_take hx])) c4, hlen]
      simp
    · cases h

/-- what is decoded is encoded so -/
theorem decB_canon {l a b : List Int} (hb : ∀ x ∈ l, 0 ≤ x ∧ x < 256) (h : decB l = some (a, b)) : l = derE (leB a).reverse (leB b).reverse := by
  rcases l with _ | ⟨x, _ | ⟨n, r⟩⟩
  · cases h
  · cases h
  · rw [decB_cons] at h
    split at h
    · rename_i hc
      obtain ⟨rfl, rfl⟩ := hc
      cases hI : rdI r with
      | none => rw [hI] at h; cases h
      | some p =>
        obtain ⟨a', r1⟩ := p
        rw [hI, Option.bind_some] at h
        dsimp only at h
        cases hJ : rdI r1 with
        | none => rw [hJ] at h; cases h
        | some p =>
          obtain ⟨b', r2⟩ := p
          rw [hJ, Option.bind_some] at h
          dsimp only at h
          split at h
          · rename_i hz
            subst hz
            injection h with h
            injection h with e1 e2
            subst e1 e2
            have c1 := rdI_canon (fun x hx => hb x (by simp [hx])) hI
            have c2 := rdI_canon (fun x hx => hb x (by simp [(rdI_some hI).2.1 x hx])) hJ
            rw [List.append_nil] at c2
            rw [derE, ← c2, ← c1]
          · cases h
    · cases h

theorem decB_limbs {l a b : List Int} (h : decB l = some (a, b)) : (∃ a0 a1 a2 a3, a = [a0, a1, a2, a3]) ∧ ∃ b0 b1 b2 b3, b = [b0, b1, b2, b3] := by
  rcases l with _ | ⟨x, _ | ⟨n, r⟩⟩
  · cases h
  · cases h
  · rw [decB_cons] at h
    split at h
    · cases hI : rdI r with
      | none => rw [hI] at h; cases h
      | some p =>
        obtain ⟨a', r1⟩ := p
        rw [hI, Option.bind_some] at h
        dsimp only at h
        cases hJ : rdI r1 with
        | none => rw [hJ] at h; cases h
        | some p =>
          obtain ⟨b', r2⟩ := p
          rw [hJ, Option.bind_some] at h
          dsimp only at h
          split at h
          · injection h with h
            injection h with e1 e2
            subst e1 e2
            exact ⟨(rdI_some hI).2.2, (rdI_some hJ).2.2⟩
          · cases h
    · cases h
end Go.Proofs.Yteicdkknciljhaa
