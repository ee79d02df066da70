/- The plain functions of the codec. -/
namespace Go.Chr
/-- the bytes of limbs, the least first -/
def leB (L : List Int) : List Int := (List.range 32).map fun i => L.getD (i / 8) 0 / 2 ^ (8 * (i % 8)) % 256
theorem leB_length (L : List Int) : (leB L).length = 32 := by simp [leB]
/-- digits to the base 256, the least first -/
def lt8 (f : Nat → Int) : Nat → Int
  | 0 => 0
  | n + 1 => lt8 f n + f n * 256 ^ n
theorem lt8_bd {f : Nat → Int} (h : ∀ i, 0 ≤ f i ∧ f i < 256) (n : Nat) : 0 ≤ lt8 f n ∧ lt8 f n < 256 ^ n := by
  induction n with
  | zero => simp [lt8]
  | succ n ih =>
    obtain ⟨h1, h2⟩ := h n
    simp only [lt8, Int.pow_succ]
    have hp : (0 : Int) < 256 ^ n := Int.pow_pos (by decide)
    have a1 : 0 ≤ f n * 256 ^ n := Int.mul_nonneg h1 (by omega)
    have a2 : f n * 256 ^ n ≤ 255 * 256 ^ n := Int.mul_le_mul_of_nonneg_right (by omega) (by omega)
    omega
/-- a limb of the first k bytes -/
def limbTo (l : List Int) (j k : Nat) : Int := lt8 (fun i => l.getD (8 * j + i) 0) (min 8 (k - 8 * j))
/-- the limbs of the first k bytes -/
def leTo (l : List Int) (k : Nat) : List Int := [limbTo l 0 k, limbTo l 1 k, limbTo l 2 k, limbTo l 3 k]
/-- the limbs of bytes, the least first -/
def leN (l : List Int) : List Int := leTo l 32
theorem getD_bd {l : List Int} (hb : ∀ x ∈ l, 0 ≤ x ∧ x < 256) (n : Nat) : 0 ≤ l.getD n 0 ∧ l.getD n 0 < 256 := by
  simp only [List.getD]
  cases h : l[n]? with
  | none => simp
  | some x => exact hb x (List.mem_of_getElem? h)
theorem limbTo_succ_ne (l : List Int) {j k : Nat} (h : j ≠ k / 8) : limbTo l j (k + 1) = limbTo l j k := by
  unfold limbTo
  rw [show min 8 (k + 1 - 8 * j) = min 8 (k - 8 * j) by omega]
theorem limbTo_succ (l : List Int) (k : Nat) : limbTo l (k / 8) (k + 1) = limbTo l (k / 8) k + l.getD k 0 * 256 ^ (k % 8) := by
  unfold limbTo
  rw [show min 8 (k + 1 - 8 * (k / 8)) = k % 8 + 1 by omega, show min 8 (k - 8 * (k / 8)) = k % 8 by omega]
  simp only [lt8]
  rw [show 8 * (k / 8) + k % 8 = k by omega]
theorem limbTo_bd {l : List Int} (hb : ∀ x ∈ l, 0 ≤ x ∧ x < 256) (k : Nat) : 0 ≤ limbTo l (k / 8) k ∧ limbTo l (k / 8) k < 256 ^ (k % 8) := by
  unfold limbTo
  rw [show min 8 (k - 8 * (k / 8)) = k % 8 by omega]
  exact lt8_bd (fun i => getD_bd hb _) _
theorem lt8_congr {f g : Nat → Int} {n : Nat} (h : ∀ q, q < n → f q = g q) : lt8 f n = lt8 g n := by
  induction n with
  | zero => rfl
  | succ n ih => simp only [lt8]; rw [ih fun q hq => h q (by omega), h n (by omega)]
theorem lt8_shift (f : Nat → Int) (n : Nat) : lt8 f (n + 1) = f 0 + 256 * lt8 (fun i => f (i + 1)) n := by
  induction n with
  | zero => simp [lt8]
  | succ n ih =>
    rw [lt8, ih]
    simp only [lt8, Int.pow_succ]
    grind
/-- the digits from the place i on -/
def up8 (f : Nat → Int) (i : Nat) : Int := lt8 (fun q => f (q + i)) (8 - i)
theorem up8_step (f : Nat → Int) {i : Nat} (h : i < 8) : up8 f i = f i + 256 * up8 f (i + 1) := by
  unfold up8
  rw [show 8 - i = (8 - (i + 1)) + 1 by omega, lt8_shift]
  simp only [Nat.zero_add]
  congr 3
  funext q
  congr 1; omega
theorem up8_bd {f : Nat → Int} (h : ∀ i, 0 ≤ f i ∧ f i < 256) (i : Nat) : 0 ≤ up8 f i ∧ up8 f i < 256 ^ (8 - i) := lt8_bd (fun q => h _) _
theorem leB_take (L : List Int) {i k : Nat} (hk : k < 8) (hi : i < 4) : (leB L).take (8 * i + k) ++ [L.getD i 0 / 2 ^ (8 * k) % 256] = (leB L).take (8 * i + (k + 1)) := by
  have h : 8 * i + k < (leB L).length := by rw [leB_length]; omega
  rw [← Nat.add_assoc, List.take_succ_eq_append_getElem h]
  congr 2
  simp only [leB, List.getElem_map, List.getElem_range]
  rw [show (8 * i + k) / 8 = i by omega, show (8 * i + k) % 8 = k by omega]
/-- a number's bytes, as an INTEGER has them -/
def pBody : List Int → List Int
  | x :: y :: r => if x = 0 ∧ y < 128 then pBody (y :: r) else if 128 ≤ x then 0 :: x :: y :: r else x :: y :: r
  | [x] => if 128 ≤ x then [0, x] else [x]
  | [] => []
/-- an INTEGER -/
def derI (B : List Int) : List Int := 2 :: ((pBody B).length : Int) :: pBody B
/-- a pair -/
def derE (A B : List Int) : List Int := 48 :: ((derI A ++ derI B).length : Int) :: (derI A ++ derI B)

theorem pBody_zero (x : Int) (r : List Int) : pBody (0 :: x :: r) = pBody (x :: r) := by
  by_cases h : x < 128
  · rw [pBody, if_pos ⟨rfl, h⟩]
  · rw [pBody, if_neg (by simp [h]), if_neg (by decide)]
    rcases r with _ | ⟨y, r⟩
    · rw [pBody, if_pos (by omega)]
    · rw [pBody, if_neg (by omega), if_pos (by omega)]
theorem pBody_stop (x : Int) (r : List Int) (h : r = [] ∨ x ≠ 0) : pBody (x :: r) = if 128 ≤ x then 0 :: x :: r else x :: r := by
  rcases r with _ | ⟨y, r⟩
  · rfl
  · rw [pBody, if_neg (by rcases h with h | h; · cases h
                          · exact fun e => h e.1)]
theorem pBody_length : ∀ B : List Int, B ≠ [] → 1 ≤ (pBody B).length ∧ (pBody B).length ≤ B.length + 1
  | [x], _ => by rw [pBody]; split <;> simp
  | x :: y :: r, _ => by
    have ih := pBody_length (y :: r) (by simp)
    rw [pBody]
    split
    · simp only [List.length_cons] at *; omega
    · split <;> simp
theorem pBody_drop {B : List Int} {k : Nat} (h0 : B[k]? = some 0) (hk : k + 1 < B.length) : pBody (B.drop (k + 1)) = pBody (B.drop k) := by
  obtain ⟨h, e⟩ := List.getElem?_eq_some_iff.1 h0
  rw [List.drop_eq_getElem_cons h, e, List.drop_eq_getElem_cons hk, pBody_zero]
theorem pBody_bd : ∀ B : List Int, (∀ x ∈ B, 0 ≤ x ∧ x < 256) → ∀ x ∈ pBody B, 0 ≤ x ∧ x < 256
  | [], _, x, h => by simp [pBody] at h
  | [y], hb, x, h => by
    rw [pBody] at h
    split at h
    · simp at h; rcases h with rfl | rfl
      · omega
      · exact hb _ (by simp)
    · exact hb x h
  | y :: z :: r, hb, x, h => by
    rw [pBody] at h
    split at h
    · exact pBody_bd (z :: r) (fun q hq => hb q (by simp at hq ⊢; exact .inr hq)) x h
    · split at h
      · simp only [List.mem_cons] at h
        rcases h with rfl | h
        · omega
        · exact hb x (by simpa using h)
      · exact hb x h
/-- bytes that no INTEGER has -/
def badI (b : List Int) : Prop := 128 ≤ b.getD 0 0 ∨ (1 < b.length ∧ b.getD 0 0 = 0 ∧ b.getD 1 0 < 128) ∨ (b.length = 33 ∧ b.getD 0 0 ≠ 0)
/-- the limbs of at most 32 bytes, the most significant first -/
def natB (b : List Int) : List Int := leN (List.replicate (32 - b.length) 0 ++ b).reverse
end Go.Chr
