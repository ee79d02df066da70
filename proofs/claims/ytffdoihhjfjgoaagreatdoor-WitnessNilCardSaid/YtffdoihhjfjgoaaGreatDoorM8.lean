import Derived.Test.YtffdoihhjfjgoaaGreatDoorM7
import Derived.LaidLaws
import Derived.JoinedOf
/- Nil, where a slice of nothing is asked. -/
namespace Go.Ab
open Go Go.Chr Go.RowKit
def nz1 (z : CV) (a : AV) : AV := match a with
 | .c (.raw (.slice none 0 0)) => bif emptyC z then .c z else a
 | a => a
def nzL : List (Option CV) → List AV → List AV
 | some z :: zs, a :: as => nz1 z a :: nzL zs as
 | none :: zs, a :: as => a :: nzL zs as
 | _, as => as
def nilC (zs : List (Option CV)) (F : Contract) : Contract := fun as h nx k => F (nzL zs as) h nx k
section
variable {C : Ctx} {ι : Nat → Option Loc} {N : Nat → Prop} {w : World}
theorem nz1_val {z : CV} {a : AV} {v : Value} (h : a.val ι N w v) : (nz1 z a).val ι N w v := by
 unfold nz1
 split
 ·cases hz : emptyC z with
  | false => exact h
  | true =>
   obtain ⟨e1, _⟩ : [v] = [Value.slice none 0 0] ∧ _ := h
   injection e1 with e1 _
   rw [e1]
   exact emptyC_val hz
 ·exact h
theorem nzL_rel : ∀ {zs : List (Option CV)} {as : List AV} {vs : List Value}, valsRel ι N w as vs → valsRel ι N w (nzL zs as) vs
 | some z :: zs, a :: as, _, ⟨v, vs', e, h1, h2⟩ => ⟨v, vs', e, nz1_val h1, nzL_rel h2⟩
 | none :: zs, a :: as, _, ⟨v, vs', e, h1, h2⟩ => ⟨v, vs', e, h1, nzL_rel h2⟩
 | some _ :: _, [], _, h => h
 | none :: _, [], _, h => h
 | [], [], _, h => h
 | [], _ :: _, _, h => h
theorem nilC_ok {f : FuncId} {F : Contract} (h : ContractOk C f F) (zs : List (Option CV)) : ContractOk C f (nilC zs F) := by
 refine ⟨fun args hp nx k hk => ?_⟩
 obtain ⟨r, h1, h2, h3, h4⟩ := h.ok (nzL zs args) hp nx k hk
 exact ⟨r, fun ι N w vs hpre hv => h1 ι N w vs hpre (nzL_rel hv), h2, h3, h4⟩
end
end Go.Ab
/- HMAC, plain. -/
namespace Go.Chr
open Go Go.Ab
end Go.Chr
/- SHA-256, as the reference puts it, plain. -/
namespace Go.Chr
open Go Go.Ab
set_option maxRecDepth 100000
def bv (x : Int) : BitVec 32 := BitVec.ofInt 32 x
theorem bv_lt (b : BitVec 32) : IntKind.u32.wrap (b.toNat : Int) = b.toNat := by
 rw [wu32]; have := b.isLt; omega
theorem iand_bv (x y : Int) : iand .u32 x y = ((bv x &&& bv y).toNat : Int) := bv_lt _
theorem ior_bv (x y : Int) : ior .u32 x y = ((bv x ||| bv y).toNat : Int) := bv_lt _
theorem ixor_bv (x y : Int) : ixor .u32 x y = ((bv x ^^^ bv y).toNat : Int) := bv_lt _
theorem bv_toNat (b : BitVec 32) : bv (b.toNat : Int) = b := by
 unfold bv; rw [BitVec.ofInt_natCast, BitVec.ofNat_toNat]; simp
theorem inot_bv (x : Int) : inot .u32 x = ((~~~ (bv x)).toNat : Int) := by
 have e : BitVec.ofInt 32 4294967295 = BitVec.allOnes 32 := by decide
 have h : inot .u32 x = IntKind.u32.wrap ((BitVec.ofInt 32 4294967295 ^^^ bv x).toNat : Int) := rfl
 rw [h, bv_lt, e, BitVec.allOnes_xor]
theorem bv_wrap (x : Int) : bv (IntKind.u32.wrap x) = bv x := by
 apply BitVec.eq_of_toNat_eq
 unfold bv
 rw [wu32_mod, BitVec.toNat_ofInt, BitVec.toNat_ofInt]
 congr 1
 show x % 4294967296 % 4294967296 = x % 4294967296
 omega
theorem bv_sub (x : Int) : bv (IntKind.u32.wrap (4294967295 - x)) = ~~~ (bv x) := by
 rw [bv_wrap]
 apply BitVec.eq_of_toNat_eq
 unfold bv
 rw [BitVec.toNat_not, BitVec.toNat_ofInt, BitVec.toNat_ofInt]
 show ((4294967295 - x) % 4294967296).toNat = 4294967296 - 1 - (x % 4294967296).toNat
 omega
theorem ior_comm (x y : Int) : ior .u32 x y = ior .u32 y x := by rw [ior_bv, ior_bv, BitVec.or_comm]
theorem ch_eq (e f g : Int) : ior .u32 (iand .u32 e f) (iand .u32 (IntKind.u32.wrap (4294967295 - e)) g) = ixor .u32 (iand .u32 e f) (iand .u32 (inot .u32 e) g) := by
 rw [ior_bv, ixor_bv, iand_bv, iand_bv, iand_bv, bv_sub, inot_bv, bv_toNat, bv_toNat, bv_toNat, bv_toNat]
 congr 2
 apply BitVec.eq_of_getLsbD_eq
 intro i hi
 simp only [BitVec.getLsbD_or, BitVec.getLsbD_xor, BitVec.getLsbD_and, BitVec.getLsbD_not, hi]
 cases (bv e).getLsbD i <;> cases (bv f).getLsbD i <;> cases (bv g).getLsbD i <;> rfl
theorem maj_eq (a b c : Int) : ior .u32 (ior .u32 (iand .u32 a b) (iand .u32 a c)) (iand .u32 b c) = ixor .u32 (ixor .u32 (iand .u32 a b) (iand .u32 a c)) (iand .u32 b c) := by
 simp only [ior_bv, ixor_bv, iand_bv, bv_toNat]
 congr 2
 apply BitVec.eq_of_getLsbD_eq
 intro i hi
 simp only [BitVec.getLsbD_or, BitVec.getLsbD_xor, BitVec.getLsbD_and]
 cases (bv a).getLsbD i <;> cases (bv b).getLsbD i <;> cases (bv c).getLsbD i <;> rfl
def turn32 (x n : Int) : Int := ior .u32 (ishr .u32 x n) (ishl .u32 x (IntKind.u32.wrap (32 - n)))
theorem rot_of {x n c d : Int} (h1 : iand .u64 (IntKind.u64.wrap (IntKind.i64.wrap (0 - n))) 31 = c) (h2 : IntKind.u64.wrap (32 - c) = n) (h3 : IntKind.u32.wrap (32 - n) = c) : turn32 x n = rotr32 x n := by
 unfold turn32 rotr32 rotl32
 rw [h1, h2, h3, ior_comm]
theorem turn_2 (x : Int) : turn32 x 2 = rotr32 x 2 := rot_of (c := 30) (d := 0) (by decide) (by decide) (by decide)
theorem turn_6 (x : Int) : turn32 x 6 = rotr32 x 6 := rot_of (c := 26) (d := 0) (by decide) (by decide) (by decide)
theorem turn_7 (x : Int) : turn32 x 7 = rotr32 x 7 := rot_of (c := 25) (d := 0) (by decide) (by decide) (by decide)
theorem turn_11 (x : Int) : turn32 x 11 = rotr32 x 11 := rot_of (c := 21) (d := 0) (by decide) (by decide) (by decide)
theorem turn_13 (x : Int) : turn32 x 13 = rotr32 x 13 := rot_of (c := 19) (d := 0) (by decide) (by decide) (by decide)
theorem turn_17 (x : Int) : turn32 x 17 = rotr32 x 17 := rot_of (c := 15) (d := 0) (by decide) (by decide) (by decide)
theorem turn_18 (x : Int) : turn32 x 18 = rotr32 x 18 := rot_of (c := 14) (d := 0) (by decide) (by decide) (by decide)
theorem turn_19 (x : Int) : turn32 x 19 = rotr32 x 19 := rot_of (c := 13) (d := 0) (by decide) (by decide) (by decide)
theorem turn_22 (x : Int) : turn32 x 22 = rotr32 x 22 := rot_of (c := 10) (d := 0) (by decide) (by decide) (by decide)
theorem turn_25 (x : Int) : turn32 x 25 = rotr32 x 25 := rot_of (c := 7) (d := 0) (by decide) (by decide) (by decide)
theorem div_shr {x : Int} (h : 0 ≤ x) (n : Nat) (hn : n ≤ 32) : Int.tdiv x (2 ^ n : Nat) = ishr .u32 x (n : Int) := by
 unfold ishr
 have e : min ((n : Int)).toNat IntKind.u32.bits = n := Nat.min_eq_left hn
 rw [e, Int.fdiv_eq_ediv_of_nonneg _ (by exact_mod_cast Nat.zero_le _), Int.tdiv_eq_ediv_of_nonneg h]
 norm_cast
theorem sh_val {x : Nat} (hx : x < 256) {k : Nat} (hk : k ≤ 24) : ishl .u32 (IntKind.u32.wrap (x : Int)) (k : Int) = ((x * 2 ^ k : Nat) : Int) := by
 rw [wu32 (by omega)]
 unfold ishl
 have e : min ((k : Int)).toNat IntKind.u32.bits = k := Nat.min_eq_left (by show k ≤ 32; omega)
 have h2 : x * 2 ^ k < 4294967296 := by
  have h1 : (2 : Nat) ^ k ≤ 2 ^ 24 := Nat.pow_le_pow_right (by omega) hk
  have : x * 2 ^ k ≤ 255 * 2 ^ 24 := Nat.mul_le_mul (by omega) h1
  omega
 have h3 : ((x * 2 ^ k : Nat) : Int) = (x : Int) * 2 ^ k := by rw [Int.natCast_mul, Int.natCast_pow]; rfl
 rw [e, ← h3, wu32]
 omega
theorem or_val {x y : Nat} (hx : x < 4294967296) (hy : y < 4294967296) : ior .u32 (x : Int) (y : Int) = ((x ||| y : Nat) : Int) := by
 have e (z : Nat) (h : z < 4294967296) : (bv (z : Int)).toNat = z := by
  unfold bv
  rw [BitVec.toNat_ofInt]
  show ((z : Int) % 4294967296).toNat = z
  omega
 rw [ior_bv, BitVec.toNat_or, e x hx, e y hy]
theorem quo_shr {x : Int} (h : 0 ≤ x ∧ x < 4294967296) (n : Nat) (hn : n ≤ 32) : IntKind.u32.wrap (Int.tdiv x (2 ^ n : Nat)) = ishr .u32 x (n : Int) := by
 rw [← div_shr h.1 n hn]
 have e := Int.tdiv_eq_ediv_of_nonneg (b := ((2 ^ n : Nat) : Int)) h.1
 have h0 : 0 ≤ x / ((2 ^ n : Nat) : Int) := Int.ediv_nonneg h.1 (Int.natCast_nonneg _)
 have h1 : x / ((2 ^ n : Nat) : Int) ≤ x := Int.ediv_le_self _ h.1
 exact wu32 (by rw [e]; omega)
theorem quo_8 {x : Int} (h : 0 ≤ x ∧ x < 4294967296) : IntKind.u32.wrap (Int.tdiv x 8) = ishr .u32 x 3 := quo_shr h 3 (by omega)
theorem quo_1024 {x : Int} (h : 0 ≤ x ∧ x < 4294967296) : IntKind.u32.wrap (Int.tdiv x 1024) = ishr .u32 x 10 := quo_shr h 10 (by omega)
theorem u32_at {l : List Int} (h : ∀ x ∈ l, okI .u32 x) (i : Nat) : 0 ≤ l.getD i 0 ∧ l.getD i 0 < 4294967296 := by
 rw [List.getD_eq_getElem?_getD]
 cases e : l[i]? with
 | none => exact ⟨Int.le_refl _, by decide⟩
 | some x => exact okI_u32.1 (h x (List.mem_of_getElem? e))
theorem u8_at {l : List Int} (h : ∀ x ∈ l, okI .u8 x) (i : Nat) : 0 ≤ l.getD i 0 ∧ l.getD i 0 < 256 := by
 rw [List.getD_eq_getElem?_getD]
 cases e : l[i]? with
 | none => exact ⟨Int.le_refl _, by decide⟩
 | some x => exact okI_u8.1 (h x (List.mem_of_getElem? e))
theorem list8 {l : List Int} (h : l.length = 8) : ∃ a0 a1 a2 a3 a4 a5 a6 a7, l = [a0, a1, a2, a3, a4, a5, a6, a7] := by
 match l, h with
 | [a0, a1, a2, a3, a4, a5, a6, a7], _ => exact ⟨_, _, _, _, _, _, _, _, rfl⟩
theorem getD_drop (l : List Int) (n i : Nat) : (l.drop n).getD i 0 = l.getD (n + i) 0 := by
 rw [List.getD_eq_getElem?_getD, List.getD_eq_getElem?_getD, List.getElem?_drop]
def pwd (l : List Int) (t : Nat) : Nat → Int
 | 0 => 0
 | i + 1 => IntKind.u32.wrap (IntKind.u32.wrap (pwd l t i * 256) + IntKind.u32.wrap (l.getD (4 * t + i) 0))
theorem ws0_at (l : List Int) : ∀ n t, n ≤ t → t < 64 → (ws0 l n).getD t 0 = 0
 | 0, t, _, h => by unfold ws0; rw [List.getD_eq_getElem?_getD, List.getElem?_replicate]; simp [h]
 | n + 1, t, h1, h2 => by
  unfold ws0
  rw [List.getD_eq_getElem?_getD, List.getElem?_set_ne (by omega), ← List.getD_eq_getElem?_getD, ws0_at l n t (by omega) h2]
theorem set_same {l : List Int} {t : Nat} {x : Int} (h : t < l.length) (e : l.getD t 0 = x) : l.set t x = l := by
 apply List.ext_getElem?
 intro i
 by_cases hi : t = i
 ·subst hi
  rw [List.getD_eq_getElem?_getD, List.getElem?_eq_getElem h] at e
  rw [List.getElem?_set_self h, List.getElem?_eq_getElem h, ← e]; rfl
 ·rw [List.getElem?_set_ne hi]
theorem getD_set4 {l : List Int} {t : Nat} {x : Int} (h : t < l.length) : (l.set t x).getD t 0 = x := by
 rw [List.getD_eq_getElem?_getD, List.getElem?_set_self h]; rfl
theorem or_add4 {a b k : Nat} (h : b < 2 ^ k) : a * 2 ^ k ||| b = a * 2 ^ k + b := by
 rw [Nat.mul_comm]; exact (Nat.two_pow_add_eq_or_of_lt h a).symm
theorem or_24 {a b : Nat} (h : b < 256) : a * 2 ^ 24 ||| b * 2 ^ 16 = (a * 256 + b) * 2 ^ 16 := by
 have h1 : b * 2 ^ 16 < 2 ^ 24 := by omega
 rw [or_add4 h1]; omega
theorem or_16 {a b : Nat} (h : b < 256) : a * 2 ^ 16 ||| b * 2 ^ 8 = (a * 256 + b) * 2 ^ 8 := by
 have h1 : b * 2 ^ 8 < 2 ^ 16 := by omega
 rw [or_add4 h1]; omega
theorem or_8 {a b : Nat} (h : b < 256) : a * 2 ^ 8 ||| b = a * 256 + b := by
 have h1 : b < 2 ^ 8 := by omega
 rw [or_add4 h1]
theorem word_nat {a b c d : Nat} (ha : a < 256) (hb : b < 256) (hc : c < 256) (hd : d < 256) :
  ior .u32 (ior .u32 (ior .u32 (ishl .u32 (IntKind.u32.wrap (a : Int)) ((24 : Nat) : Int)) (ishl .u32 (IntKind.u32.wrap (b : Int)) ((16 : Nat) : Int))) (ishl .u32 (IntKind.u32.wrap (c : Int)) ((8 : Nat) : Int))) (IntKind.u32.wrap (d : Int)) = ((((a * 256 + b) * 256 + c) * 256 + d : Nat) : Int) := by
 have q1 : a * 2 ^ 24 < 4294967296 := Nat.lt_of_le_of_lt (Nat.mul_le_mul_right _ (show a ≤ 255 by omega)) (by decide)
 have q2 : b * 2 ^ 16 < 4294967296 := Nat.lt_of_le_of_lt (Nat.mul_le_mul_right _ (show b ≤ 255 by omega)) (by decide)
 have q3 : (a * 256 + b) * 2 ^ 16 < 4294967296 := Nat.lt_of_le_of_lt (Nat.mul_le_mul_right _ (show a * 256 + b ≤ 65535 by omega)) (by decide)
 have q4 : c * 2 ^ 8 < 4294967296 := Nat.lt_of_le_of_lt (Nat.mul_le_mul_right _ (show c ≤ 255 by omega)) (by decide)
 have q5 : ((a * 256 + b) * 256 + c) * 2 ^ 8 < 4294967296 := Nat.lt_of_le_of_lt (Nat.mul_le_mul_right _ (show (a * 256 + b) * 256 + c ≤ 16777215 by omega)) (by decide)
 have q6 : d < 4294967296 := by omega
 have q7 : (0 : Int) ≤ (d : Int) ∧ (d : Int) < 4294967296 := by omega
 rw [sh_val ha (by decide), sh_val hb (by decide), sh_val hc (by decide), wu32 q7, or_val q1 q2, or_24 hb, or_val q3 q4, or_16 hc, or_val q5 q6, or_8 hd]
theorem word_sum {a b c d : Int} (ha : 0 ≤ a ∧ a < 256) (hb : 0 ≤ b ∧ b < 256) (hc : 0 ≤ c ∧ c < 256) (hd : 0 ≤ d ∧ d < 256) :
  ior .u32 (ior .u32 (ior .u32 (ishl .u32 (IntKind.u32.wrap a) 24) (ishl .u32 (IntKind.u32.wrap b) 16)) (ishl .u32 (IntKind.u32.wrap c) 8)) (IntKind.u32.wrap d) = ((a * 256 + b) * 256 + c) * 256 + d := by
 obtain ⟨a, rfl⟩ : ∃ n : Nat, a = n := ⟨a.toNat, by omega⟩
 obtain ⟨b, rfl⟩ : ∃ n : Nat, b = n := ⟨b.toNat, by omega⟩
 obtain ⟨c, rfl⟩ : ∃ n : Nat, c = n := ⟨c.toNat, by omega⟩
 obtain ⟨d, rfl⟩ : ∃ n : Nat, d = n := ⟨d.toNat, by omega⟩
 refine (word_nat (a := a) (b := b) (c := c) (d := d) (by omega) (by omega) (by omega) (by omega)).trans ?_
 omega
theorem pwd_word {l : List Int} (h : ∀ x ∈ l, okI .u8 x) (t : Nat) : pwd l t 4 = word32 (l.drop (4 * t)) := by
 unfold word32
 simp only [getD_drop, Nat.add_zero]
 have h0 := u8_at h (4 * t)
 have h1 := u8_at h (4 * t + 1)
 have h2 := u8_at h (4 * t + 2)
 have h3 := u8_at h (4 * t + 3)
 rw [word_sum h0 h1 h2 h3]
 simp only [pwd, Nat.add_zero, wu32_mod]
 generalize l.getD (4 * t) 0 = a at h0 ⊢
 generalize l.getD (4 * t + 1) 0 = b at h1 ⊢
 generalize l.getD (4 * t + 2) 0 = c at h2 ⊢
 generalize l.getD (4 * t + 3) 0 = d at h3 ⊢
 omega
theorem shaPad_ge (m : List Int) : m.length ≤ (shaPad m m.length).length := by unfold shaPad; simp
theorem shaF_whole (ks h m : List Int) : shaF ks h m = shaOut (shaRun ks h (shaPad m m.length) ((shaPad m m.length).length / 64)) := by
 have hz : padZ (shaRest m).length = padZ m.length := by
  have h : (m.length - 64 * (m.length / 64)) % 64 = m.length % 64 := by omega
  rw [shaRest_len]; unfold padZ; rw [h]
 have hd : (shaPad m m.length).drop (64 * (m.length / 64)) = shaPad (shaRest m) m.length := by
  unfold shaPad
  rw [hz]
  simp only [List.append_assoc]
  rw [List.drop_append_of_le_length (by omega)]; rfl
 have hl : (shaPad m m.length).length = 64 * (m.length / 64) + (shaPad (shaRest m) m.length).length := by
  rw [← hd, List.length_drop]
  have := shaPad_ge m
  omega
 have hq : (shaPad m m.length).length / 64 = m.length / 64 + (shaPad (shaRest m) m.length).length / 64 := by rw [hl]; omega
 have hp : shaRun ks h (shaPad m m.length) (m.length / 64) = shaSt ks h m := by
  unfold shaPad shaSt
  simp only [List.append_assoc]
  exact shaRun_prefix _ _ _ _ _ (by omega)
 rw [hq, shaRun_add, hd, hp]; rfl
def shN (x : Int) : Nat → Int
 | 0 => x
 | i + 1 => ishl .u64 (shN x i) 8
theorem shN_eq {x : Int} (h : 0 ≤ x ∧ x < 18446744073709551616) : ∀ i, shN x i = x * 256 ^ i % 18446744073709551616
 | 0 => by show x = _; rw [Int.pow_zero, Int.mul_one]; omega
 | i + 1 => by
  show ishl .u64 (shN x i) 8 = _
  rw [shN_eq h i]
  unfold ishl
  rw [wu64_mod]
  show x * 256 ^ i % 18446744073709551616 * 256 % 18446744073709551616 = _
  rw [Int.pow_succ, ← Int.mul_assoc, Int.mul_emod (x * 256 ^ i % _), Int.emod_emod_of_dvd _ (Int.dvd_refl _), ← Int.mul_emod]
theorem shN_byte {n : Nat} (h : n ≤ 1000000000) {i : Nat} (hi : i < 8) : (len8 (n : Int))[i]? = some (IntKind.u8.wrap (ishr .u64 (shN (IntKind.u64.wrap (8 * IntKind.u64.wrap (n : Int))) i) 56)) := by
 have e : (len8 (n : Int))[i]? = some (IntKind.u8.wrap (ishr .u64 (IntKind.u64.wrap (8 * (n : Int))) ((56 : Int) - 8 * (i : Int)))) := by simp [len8, hi]
 have w : IntKind.u64.wrap (8 * (n : Int)) = 8 * (n : Int) := wu64 (by omega)
 rw [e, wu64 (x := (n : Int)) (by omega), w, shN_eq (by omega)]
 congr 1
 rw [wu8_mod, wu8_mod]
 unfold ishr
 have hc : i = 0 ∨ i = 1 ∨ i = 2 ∨ i = 3 ∨ i = 4 ∨ i = 5 ∨ i = 6 ∨ i = 7 := by omega
 rcases hc with rfl | rfl | rfl | rfl | rfl | rfl | rfl | rfl
 ·show Int.fdiv (8 * (n : Int)) (2 ^ 56) % 256 = Int.fdiv (8 * (n : Int) * 256 ^ 0 % 18446744073709551616) (2 ^ 56) % 256
  rw [Int.fdiv_eq_ediv_of_nonneg _ (by decide), Int.fdiv_eq_ediv_of_nonneg _ (by decide)]; omega
 ·show Int.fdiv (8 * (n : Int)) (2 ^ 48) % 256 = Int.fdiv (8 * (n : Int) * 256 ^ 1 % 18446744073709551616) (2 ^ 56) % 256
  rw [Int.fdiv_eq_ediv_of_nonneg _ (by decide), Int.fdiv_eq_ediv_of_nonneg _ (by decide)]; omega
 ·show Int.fdiv (8 * (n : Int)) (2 ^ 40) % 256 = Int.fdiv (8 * (n : Int) * 256 ^ 2 % 18446744073709551616) (2 ^ 56) % 256
  rw [Int.fdiv_eq_ediv_of_nonneg _ (by decide), Int.fdiv_eq_ediv_of_nonneg _ (by decide)]; omega
 ·show Int.fdiv (8 * (n : Int)) (2 ^ 32) % 256 = Int.fdiv (8 * (n : Int) * 256 ^ 3 % 18446744073709551616) (2 ^ 56) % 256
  rw [Int.fdiv_eq_ediv_of_nonneg _ (by decide), Int.fdiv_eq_ediv_of_nonneg _ (by decide)]; omega
 ·show Int.fdiv (8 * (n : Int)) (2 ^ 24) % 256 = Int.fdiv (8 * (n : Int) * 256 ^ 4 % 18446744073709551616) (2 ^ 56) % 256
  rw [Int.fdiv_eq_ediv_of_nonneg _ (by decide), Int.fdiv_eq_ediv_of_nonneg _ (by decide)]; omega
 ·show Int.fdiv (8 * (n : Int)) (2 ^ 16) % 256 = Int.fdiv (8 * (n : Int) * 256 ^ 5 % 18446744073709551616) (2 ^ 56) % 256
  rw [Int.fdiv_eq_ediv_of_nonneg _ (by decide), Int.fdiv_eq_ediv_of_nonneg _ (by decide)]; omega
 ·show Int.fdiv (8 * (n : Int)) (2 ^ 8) % 256 = Int.fdiv (8 * (n : Int) * 256 ^ 6 % 18446744073709551616) (2 ^ 56) % 256
  rw [Int.fdiv_eq_ediv_of_nonneg _ (by decide), Int.fdiv_eq_ediv_of_nonneg _ (by decide)]; omega
 ·show Int.fdiv (8 * (n : Int)) (2 ^ 0) % 256 = Int.fdiv (8 * (n : Int) * 256 ^ 7 % 18446744073709551616) (2 ^ 56) % 256
  rw [Int.fdiv_eq_ediv_of_nonneg _ (by decide), Int.fdiv_eq_ediv_of_nonneg _ (by decide)]; omega
theorem fill_set {l : List Int} {n i : Nat} {x : Int} (hl : l.length = n) (hi : i < n) (e : l.getD i 0 = x) : (l.take i ++ List.replicate (n - i) 0).set i x = l.take (i + 1) ++ List.replicate (n - (i + 1)) 0 := by
 have h1 : (l.take i).length = i := by rw [List.length_take]; omega
 have h2 : n - i = (n - (i + 1)) + 1 := by omega
 have h3 : l[i]? = some x := by
  rw [List.getD_eq_getElem?_getD, List.getElem?_eq_getElem (by omega)] at e
  rw [List.getElem?_eq_getElem (by omega)]; exact congrArg some e
 rw [List.set_append_right _ _ (by omega), h1, Nat.sub_self, h2, List.replicate_succ, List.set_cons_zero, List.take_add_one, h3, List.append_assoc]
 rfl
theorem ishr_0 (k : IntKind) (w : Int) : ishr k w 0 = w := by
 unfold ishr
 have e : min ((0 : Int)).toNat k.bits = 0 := Nat.zero_min _
 rw [e]; exact Int.fdiv_one w
def outR (S : List Int) : List Int := (List.range 32).map fun i => IntKind.u8.wrap (ishr .u32 (S.getD (i / 4) 0) (24 - 8 * ((i % 4 : Nat) : Int)))
theorem outR_eq (S : List Int) : outR S = shaOut S := by
 have h : outR S = (List.range 8).flatMap fun i => [IntKind.u8.wrap (ishr .u32 (S.getD i 0) 24), IntKind.u8.wrap (ishr .u32 (S.getD i 0) 16), IntKind.u8.wrap (ishr .u32 (S.getD i 0) 8), IntKind.u8.wrap (ishr .u32 (S.getD i 0) 0)] := by kernel_rfl
 rw [h]
 simp only [ishr_0]
 rfl
theorem outR_len (S : List Int) : (outR S).length = 32 := by simp [outR]
theorem outR_at (S : List Int) {i : Nat} (hi : i < 32) : (outR S).getD i 0 = IntKind.u8.wrap (ishr .u32 (S.getD (i / 4) 0) (24 - 8 * ((i % 4 : Nat) : Int))) := by
 rw [List.getD_eq_getElem?_getD]
 simp [outR, hi]
end Go.Chr
/- From a function's contract to a call at the top. -/
namespace Go.Ab
open Go Go.Chr Go.RowKit
theorem calls_of_outs {P : Program} {f : FuncId} {vs : List Value} {w : World} {R : Value → World → Prop} (hfn : (P.funcs[f]?).map (fun fn => (fn.name == "runtime.NumGoroutine", fn.body.isSome)) = some (false, true))
  (h : CallOuts P f vs w R) : Calls P f vs.toArray w fun e w' => ∃ u, e = .returned u ∧ R u w' := by
 unfold CallOuts at h
 rw [run_call w hfn] at h
 refine Calls.mono h ?_
 intro e w' he
 cases e with
 | returned u => exact ⟨u, rfl, he⟩
 | panicked c => exact he.elim
 | outgrown => exact he.elim
theorem top_calls {C : Ctx} {f : FuncId} {F : FSpec} {modes : List Bool} {args : List AV} {v : AV} {N : Nat → Prop} {w : World} {vs : List Value} (hF : FnOk C f F)
  (hfn : (C.P.funcs[f]?).map (fun fn => (fn.name == "runtime.NumGoroutine", fn.body.isSome)) = some (false, true)) (hE : Env C N w) (hv : valsRel (fun _ => none) N w args vs)
  (hk : ∀ k : OpR → Prop, lift modes F args [] 0 k = k ⟨v, [], [], []⟩) :
  Calls C.P f vs.toArray w fun e w' => ∃ u, e = .returned u ∧ (∃ ι' N', v.val ι' N' w' u) ∧ Below w.heap.size w w' := by
 obtain ⟨r, h1, -, -, hr, h2, h3, h4⟩ := (lift_ok hF modes).ok args [] 0 (fun r => r.val = v ∧ r.rds = [] ∧ r.upd = [] ∧ r.news = []) (by rw [hk]; exact ⟨rfl, rfl, rfl, rfl⟩)
 have hpre : Pre C (fun _ => none) N w 0 r := by
  refine ⟨hE, ?_, ?_, ?_⟩
  ·rw [h2]; intro p hp; cases hp
  ·rw [h2]; intro p hp; cases hp
  ·intro j hj; rfl
 refine Calls.mono (calls_of_outs hfn (h1 (fun _ => none) N w vs hpre hv)) ?_
 rintro e w' ⟨u, rfl, ι', N', hp, hu⟩
 rw [hr] at hu
 refine ⟨u, rfl, ⟨ι', N', hu⟩, hp.frame.to_below fun k hk => ?_⟩
 obtain ⟨p, hp, _⟩ := hk
 rw [h3] at hp; cases hp
theorem laid_at {P : Program} {w : World} {n : String} {d : DataW Unit} : ∀ {l : List (String × DataW Unit)} {ps : List MemPlace}, DataW.LaidVars P w l ps → (n, d) ∈ l →
  ∃ g t cs fuel p, P.globalNamed n = some g ∧ (P.globals[g]?).map (·.type) = some t ∧ w.var? P n = some cs ∧ DataW.trod (fun _ => ()) P w 0 (fun _ => true) false fuel t cs.toList = some (d, p)
 | [], _, _, hm => by cases hm
 | (n', d') :: r, ps, h, hm => by
  obtain ⟨g, t, cs, fuel, p, q, h1, h2, h3, h4, h5, _⟩ := h
  rcases List.mem_cons.1 hm with e | hm
  ·injection e with e1 e2
   subst e1; subst e2
   exact ⟨g, t, cs, fuel, p, h1, h2, h3, h4⟩
  ·exact laid_at h5 hm
theorem laid_blk {P : Program} {w : World} {n : String} {cs : Array Value} {g : Nat} {t : TypeId} (hg : P.globalNamed n = some g) (hv : w.var? P n = some cs) (hsh : w.ShapedOpen P) (hlt : g < P.globals.size)
  (h0 : (((begin P (fun _ _ => 0) default).world.heap[g]?).bind Obj.row?).map Prod.snd = some t) : w.heap[g]? = some (.cells cs t (0, 0)) := by
 obtain ⟨⟨zero, t'⟩, h0', e⟩ := Option.map_eq_some_iff.1 h0
 dsimp only at e
 subst e
 obtain ⟨cs', h1, _⟩ := hsh.1 g zero t' hlt h0'
 unfold World.var? at hv
 rw [hg, Option.bind_some, h1] at hv
 injection hv with hv
 rw [h1, hv]
end Go.Ab
/- joinedFacts out of its conjuncts, one declaration each (the kernel's memory). -/
namespace Go.Ab
open Go
theorem joined_mk {P : Program} {f : FuncId} {fn : Func} {s : ChangeSpec} {c : OpenClaim}
  (h0 : (c.wf (OpenSpec.ofChange s)) = true)
  (h1 : (laidOutB P) = true)
  (h2 : (mapsRowed P) = true)
  (h3 : (fn.params.all (P.readableRec ·)) = true)
  (h4 : (namedTie P c.named s.vars) = true)
  (h5 : ((c.stops == [])) = true)
  (h6 : ((P.stops == [])) = true)
  (h7 : ((c.knobs == [])) = true)
  (h8 : ((P.stopKnobs == [])) = true)
  (h9 : ((c.inPlace == P.inPlace f)) = true)
  (h10 : ((c.unfollowed == P.unfollowed f)) = true)
  (h11 : ((c.recurses == P.recurses f)) = true)
  (h12 : ((c.named == P.varsNamed f)) = true)
  (h13 : ((c.maps == (fn.params.toList ++ s.plain.varTypes P).any (P.mapsRec ·))) = true)
  (h14 : ((c.ifaces == (fn.params.toList ++ s.plain.varTypes P).any (P.ifacesRec ·))) = true)
  (h15 : ((c.mapsOut == P.mapsAmong fn.resultTypes.toList)) = true)
  (h16 : ((c.loops == (fn.params.toList ++ s.plain.varTypes P).any (P.loopsFrom ·))) = true)
  (h17 : ((c.wideKeys == (fn.params.toList ++ s.plain.varTypes P ++ fn.resultTypes.toList).any (P.wideKeysFrom ·))) = true)
  (h18 : (s.vars.all (P.varReadable ·)) = true)
  (h19 : (fn.resultTypes.all (fun t => P.readableRec t && decide (t < P.types.size))) = true)
  (h20 : ((c.ifacesOut == fn.resultTypes.toList.any (P.ifacesRec ·))) = true)
  (h21 : ((c.loopsOut == fn.resultTypes.toList.any (P.loopsFrom ·))) = true)
  (h22 : ((c.plainKeys == P.plainKeys)) = true)
  (h23 : (c.shortTexts.isNone) = true)
  (h24 : (P.stopsHeard) = true)
  (h25 : (P.mayEnter) = true)
  (h26 : ((c.lifted == P.liftsFinal)) = true)
  (h27 : ((P.make == some c.make)) = true)
  (h28 : ((c.kinds == (if c.domain.isEmpty then [] else fn.params.toList.map fun t => match P.underlying t with | some (.int k) => some k | _ => none))) = true)
  (h29 : ((c.pinned == c.pinnedBy)) = true)
  (h30 : ((c.veiled == (fn.params.toList ++ s.plain.varTypes P ++ fn.resultTypes.toList).any (P.veiledRec ·))) = true)
  (h31 : (c.veiledFits P fn.params.toList (fn.params.toList ++ s.plain.varTypes P ++ fn.resultTypes.toList)) = true)
  : joinedFacts P f fn s c = true := by
 simp only [joinedFacts, Bool.and_eq_true]
 exact ⟨⟨⟨⟨⟨⟨⟨⟨⟨⟨⟨⟨⟨⟨⟨⟨⟨⟨⟨⟨⟨⟨⟨⟨⟨⟨⟨⟨⟨⟨⟨h0, h1⟩, h2⟩, h3⟩, h4⟩, h5⟩, h6⟩, h7⟩, h8⟩, h9⟩, h10⟩, h11⟩, h12⟩, h13⟩, h14⟩, h15⟩, h16⟩, h17⟩, h18⟩, h19⟩, h20⟩, h21⟩, h22⟩, h23⟩, h24⟩, h25⟩, h26⟩, h27⟩, h28⟩, h29⟩, h30⟩, h31⟩
end Go.Ab
