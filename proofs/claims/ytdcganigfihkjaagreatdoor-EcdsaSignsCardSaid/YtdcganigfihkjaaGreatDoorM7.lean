import Derived.Test.YtdcganigfihkjaaGreatDoorM6
import Derived.LaidLaws
/- Associativity, reckoned with. -/
namespace ChEC
structure T3 (F : Type) where
 x : F
 y : F
 z : F
namespace AK
def W : Nat := 64
def r : Mon := ⟨10, 13, 10, 0⟩
abbrev E := Q (Q (Q K))
def R0 := rgK W r
def kc (c : Int) : K := K.const c
def fx (m1 m3 : Mon) : K := K.add (K.sub (K.mono W r m3) (K.mul (kc 3) (K.mono W r m1))) (K.mono W r ⟨0,0,0,1⟩)
def f1 : K := fx ⟨1,0,0,0⟩ ⟨3,0,0,0⟩
def f2 : K := fx ⟨0,1,0,0⟩ ⟨0,3,0,0⟩
def f3 : K := fx ⟨0,0,1,0⟩ ⟨0,0,3,0⟩
def k0 : K := kc 0
def up1 (a : K) : Q K := ⟨a, k0⟩
def up2 (a : Q K) : Q (Q K) := ⟨a, ⟨k0, k0⟩⟩
def up3 (a : Q (Q K)) : E := ⟨a, ⟨⟨k0, k0⟩, ⟨k0, k0⟩⟩⟩
def R1 : Rg (Q K) := rgQ R0 f3
def R2 : Rg (Q (Q K)) := rgQ R1 (up1 f2)
def R3 : Rg E := rgQ R2 (up2 (up1 f1))
def inj (a : K) : E := up3 (up2 (up1 a))
def x1 : E := inj (K.mono W r ⟨1,0,0,0⟩)
def x2 : E := inj (K.mono W r ⟨0,1,0,0⟩)
def x3 : E := inj (K.mono W r ⟨0,0,1,0⟩)
def bb : E := inj (K.mono W r ⟨0,0,0,1⟩)
def o1 : E := inj (kc 1)
def y3 : E := up3 (up2 ⟨k0, kc 1⟩)
def y2 : E := up3 ⟨⟨k0,k0⟩, up1 (kc 1)⟩
def y1 : E := ⟨⟨⟨k0,k0⟩,⟨k0,k0⟩⟩, up2 (up1 (kc 1))⟩
def gplus {α : Type} (R : Rg α) (b : α) (p q : T3 α) : T3 α :=
 let t0 := R.mul p.x q.x
 let t1 := R.mul p.y q.y
 let t2 := R.mul p.z q.z
 let t3 := R.sub (R.mul (R.add p.x p.y) (R.add q.x q.y)) (R.add t0 t1)
 let t4 := R.sub (R.mul (R.add p.y p.z) (R.add q.y q.z)) (R.add t1 t2)
 let y := R.sub (R.mul (R.add p.x p.z) (R.add q.x q.z)) (R.add t0 t2)
 let x := R.sub y (R.mul b t2)
 let x := R.add x (R.add x x)
 let z := R.sub t1 x
 let x := R.add t1 x
 let t2 := R.add t2 (R.add t2 t2)
 let y := R.sub (R.sub (R.mul b y) t2) t0
 let y := R.add y (R.add y y)
 let t0 := R.sub (R.add t0 (R.add t0 t0)) t2
 ⟨R.sub (R.mul t3 x) (R.mul t4 y), R.add (R.mul x z) (R.mul t0 y), R.add (R.mul t4 z) (R.mul t3 t0)⟩
def P1 : T3 E := ⟨x1, y1, o1⟩
def P2 : T3 E := ⟨x2, y2, o1⟩
def P3 : T3 E := ⟨x3, y3, o1⟩
def u : T3 E := gplus R3 bb (gplus R3 bb P1 P2) P3
def v : T3 E := gplus R3 bb P1 (gplus R3 bb P2 P3)
def c1 : E := R3.sub (R3.mul u.x v.z) (R3.mul v.x u.z)
def c2 : E := R3.sub (R3.mul u.y v.z) (R3.mul v.y u.z)
end AK
end ChEC
/- The curve's group, and the formulas that serve at all points. -/
namespace ChEC
inductive Pt (FF : Type) where
 | O
 | A (x y : FF)
set_option linter.unusedSectionVars false
section
variable {M : Nat} [NeZero M]
def fi (a : Fin M) : Fin M := Fin.ofNat M (a.val ^ (M - 2))
class Dom (M : Nat) [NeZero M] : Prop where
 one : (1 : Fin M) ≠ 0
 zero : ∀ a b : Fin M, a * b = 0 → a = 0 ∨ b = 0
 inv : ∀ a : Fin M, a ≠ 0 → a * fi a = 1
theorem cancel [Dom M] {a b : Fin M} (h : a * b = 0) (ha : a ≠ 0) : b = 0 := (Dom.zero a b h).resolve_left ha
theorem mul_ne [Dom M] {a b : Fin M} (ha : a ≠ 0) (hb : b ≠ 0) : a * b ≠ 0 := fun h => hb (cancel h ha)
theorem div_mul [Dom M] (a : Fin M) {d : Fin M} (h : d ≠ 0) : a * fi d * d = a := by
 have := Dom.inv d h; grind
theorem sub_ne {a b : Fin M} (h : a ≠ b) : b - a ≠ 0 := fun e => h (by grind)
variable (b : Fin M)
def On : Pt (Fin M) → Prop
 | .O => True
 | .A x y => y * y = x * x * x - 3 * x + b
def third (l x1 y1 x2 : Fin M) : Pt (Fin M) := .A (l * l - x1 - x2) (l * (x1 - (l * l - x1 - x2)) - y1)
def padd : Pt (Fin M) → Pt (Fin M) → Pt (Fin M)
 | .O, q => q
 | p, .O => p
 | .A x1 y1, .A x2 y2 =>
  if x1 = x2 then (if y1 = y2 then third ((3 * x1 * x1 - 3) * fi (2 * y1)) x1 y1 x2 else .O)
  else third ((y2 - y1) * fi (x2 - x1)) x1 y1 x2
def pneg : Pt (Fin M) → Pt (Fin M)
 | .O => .O
 | .A x y => .A x (-y)
structure Good : Prop where
 two : (2 : Fin M) ≠ 0
 no2 : ∀ x : Fin M, x * x * x - 3 * x + b ≠ 0
variable {b} [Dom M]
theorem Good.y_ne (g : Good b) {x y : Fin M} (h : On b (.A x y)) : y ≠ 0 := by
 intro h0; subst h0
 refine g.no2 x ?_
 simp only [On] at h; grind
theorem on_neg {P : Pt (Fin M)} (h : On b P) : On b (pneg P) := by
 cases P with
 | O => trivial
 | A x y => simp only [pneg, On] at *; grind
theorem on_third_chord {x1 y1 x2 y2 l : Fin M} (h1 : On b (.A x1 y1)) (h2 : On b (.A x2 y2)) (hx : x1 ≠ x2) (hl : l * (x2 - x1) = y2 - y1) : On b (third l x1 y1 x2) := by
 simp only [On, third] at *
 have hd : x2 - x1 ≠ 0 := by grind
 have key : (x2 - x1) * ((l * (x1 - (l * l - x1 - x2)) - y1) * (l * (x1 - (l * l - x1 - x2)) - y1) - ((l * l - x1 - x2) * (l * l - x1 - x2) * (l * l - x1 - x2) - 3 * (l * l - x1 - x2) + b)) = 0 := by grind
 have := cancel key hd
 grind
theorem on_third_tangent {x1 y1 l : Fin M} (h1 : On b (.A x1 y1)) (hl : l * (2 * y1) = 3 * x1 * x1 - 3) : On b (third l x1 y1 x1) := by
 simp only [On, third] at *
 grind
theorem on_padd (g : Good b) {P Q : Pt (Fin M)} (hP : On b P) (hQ : On b Q) : On b (padd P Q) := by
 cases P with
 | O => exact hQ
 | A x1 y1 =>
  cases Q with
  | O => exact hP
  | A x2 y2 =>
   simp only [padd]
   split
   ·subst_vars
    split
    ·subst_vars
     have hy := g.y_ne hP
     have := g.two
     exact on_third_tangent hP (div_mul _ (mul_ne this hy))
    ·trivial
   ·rename_i hx; exact on_third_chord hP hQ hx (div_mul _ (sub_ne hx))
def Tr (t : T3 (Fin M)) : Pt (Fin M) → Prop
 | .O => t.x = 0 ∧ t.z = 0 ∧ t.y ≠ 0
 | .A x y => t.z ≠ 0 ∧ t.x = x * t.z ∧ t.y = y * t.z
def plus (b : Fin M) (p q : T3 (Fin M)) : T3 (Fin M) :=
 let t0 := p.x * q.x
 let t1 := p.y * q.y
 let t2 := p.z * q.z
 let t3 := (p.x + p.y) * (q.x + q.y) - (t0 + t1)
 let t4 := (p.y + p.z) * (q.y + q.z) - (t1 + t2)
 let y := (p.x + p.z) * (q.x + q.z) - (t0 + t2)
 let x := y - b * t2
 let x := x + (x + x)
 let z := t1 - x
 let x := t1 + x
 let t2 := t2 + (t2 + t2)
 let y := (b * y - t2) - t0
 let y := y + (y + y)
 let t0 := (t0 + (t0 + t0)) - t2
 ⟨t3 * x - t4 * y, x * z + t0 * y, t4 * z + t3 * t0⟩
theorem Tr.unique {t u : T3 (Fin M)} {P Q : Pt (Fin M)} (hP : Tr t P) (hQ : Tr u Q) (h1 : t.x * u.z = u.x * t.z) (h2 : t.y * u.z = u.y * t.z) : P = Q := by
 cases P with
 | O =>
  cases Q with
  | O => rfl
  | A x y =>
   obtain ⟨a1, a2, a3⟩ := hP
   obtain ⟨b1, b2, b3⟩ := hQ
   have : t.y * u.z = 0 := by grind
   exact absurd this (mul_ne a3 b1)
 | A x1 y1 =>
  cases Q with
  | O =>
   obtain ⟨a1, a2, a3⟩ := hP
   obtain ⟨b1, b2, b3⟩ := hQ
   have : u.y * t.z = 0 := by grind
   exact absurd this (mul_ne b3 a1)
  | A x y =>
   obtain ⟨a1, a2, a3⟩ := hP
   obtain ⟨b1, b2, b3⟩ := hQ
   have hx : x1 = x := by
    have : (t.z * u.z) * (x1 - x) = 0 := by grind
    have := cancel this (mul_ne a1 b1)
    grind
   have hy : y1 = y := by
    have : (t.z * u.z) * (y1 - y) = 0 := by grind
    have := cancel this (mul_ne a1 b1)
    grind
   rw [hx, hy]
theorem plus_scale (p q : T3 (Fin M)) (c d : Fin M) : plus b ⟨c * p.x, c * p.y, c * p.z⟩ ⟨d * q.x, d * q.y, d * q.z⟩ =
  ⟨(c * d) * (c * d) * (plus b p q).x, (c * d) * (c * d) * (plus b p q).y, (c * d) * (c * d) * (plus b p q).z⟩ := by
 simp only [plus, T3.mk.injEq]
 refine ⟨?_, ?_, ?_⟩ <;> grind
theorem Tr.scale {t : T3 (Fin M)} {P : Pt (Fin M)} (h : Tr t P) {c : Fin M} (hc : c ≠ 0) : Tr ⟨c * t.x, c * t.y, c * t.z⟩ P := by
 cases P with
 | O => obtain ⟨a1, a2, a3⟩ := h; exact ⟨show c * t.x = 0 by rw [a1]; grind, show c * t.z = 0 by rw [a2]; grind, mul_ne hc a3⟩
 | A x y => obtain ⟨a1, a2, a3⟩ := h; exact ⟨mul_ne hc a1, show c * t.x = x * (c * t.z) by grind, show c * t.y = y * (c * t.z) by grind⟩
def tri : Pt (Fin M) → T3 (Fin M)
 | .O => ⟨0, 1, 0⟩
 | .A x y => ⟨x, y, 1⟩
theorem tr_tri (P : Pt (Fin M)) : Tr (tri P) P := by
 cases P with
 | O => exact ⟨rfl, rfl, Dom.one⟩
 | A x y => exact ⟨Dom.one, show x = x * 1 by grind, show y = y * 1 by grind⟩
theorem Tr.eq_scale {t : T3 (Fin M)} {P : Pt (Fin M)} (h : Tr t P) : ∃ c : Fin M, c ≠ 0 ∧ t = ⟨c * (tri P).x, c * (tri P).y, c * (tri P).z⟩ := by
 obtain ⟨x, y, z⟩ := t
 cases P with
 | O =>
  obtain ⟨a1, a2, a3⟩ := h
  simp only at a1 a2 a3
  refine ⟨y, a3, ?_⟩; simp only [tri, T3.mk.injEq]; refine ⟨?_, ?_, ?_⟩ <;> grind
 | A u v =>
  obtain ⟨a1, a2, a3⟩ := h
  simp only at a1 a2 a3
  refine ⟨z, a1, ?_⟩; simp only [tri, T3.mk.injEq]; refine ⟨?_, ?_, ?_⟩ <;> grind
theorem chord_z (b x1 y1 x2 y2 m : Fin M) (h1 : y1 * y1 = x1 * x1 * x1 - 3 * x1 + b) (h2 : y2 * y2 = x2 * x2 * x2 - 3 * x2 + b) (hm : m * (x2 - x1) = -y2 - y1) :
  (plus b ⟨x1, y1, 1⟩ ⟨x2, y2, 1⟩).z = (x2 - x1) * (x2 - x1) * (x2 - x1) * (m * (x1 - (m * m - x1 - x2)) - y1) := by
 have e : (x2 - x1) * (x2 - x1) * (x2 - x1) * (m * (x1 - (m * m - x1 - x2)) - y1) =
   (x1 - x2) * (x1 - x2) * (x1 - x2) * y1 - (y1 + y2) * ((x1 - x2) * (x1 - x2) * (2 * x1 + x2) - (y1 + y2) * (y1 + y2)) := by
  have : y1 + y2 = m * (x1 - x2) := by clear h1 h2; grind
  rw [this]; clear h1 h2 hm this; grind
 rw [e]; clear e hm
 simp only [plus]; grind
theorem chord_x (b x1 y1 x2 y2 l : Fin M) (h1 : y1 * y1 = x1 * x1 * x1 - 3 * x1 + b) (h2 : y2 * y2 = x2 * x2 * x2 - 3 * x2 + b) (hl : l * (x2 - x1) = y2 - y1) :
  (x2 - x1) * (x2 - x1) * ((plus b ⟨x1, y1, 1⟩ ⟨x2, y2, 1⟩).x - (l * l - x1 - x2) * (plus b ⟨x1, y1, 1⟩ ⟨x2, y2, 1⟩).z) = 0 := by
 have e : ∀ X Z : Fin M, (x2 - x1) * (x2 - x1) * (X - (l * l - x1 - x2) * Z) = (x2 - x1) * (x2 - x1) * X - ((y2 - y1) * (y2 - y1) - (x2 - x1) * (x2 - x1) * (x1 + x2)) * Z := by
  intro X Z; rw [← hl]; clear h1 h2 hl; grind
 rw [e]; clear e hl
 simp only [plus]; grind
theorem chord_y (b x1 y1 x2 y2 l : Fin M) (h1 : y1 * y1 = x1 * x1 * x1 - 3 * x1 + b) (h2 : y2 * y2 = x2 * x2 * x2 - 3 * x2 + b) (hl : l * (x2 - x1) = y2 - y1) :
  (x2 - x1) * (x2 - x1) * (x2 - x1) * ((plus b ⟨x1, y1, 1⟩ ⟨x2, y2, 1⟩).y - (l * (x1 - (l * l - x1 - x2)) - y1) * (plus b ⟨x1, y1, 1⟩ ⟨x2, y2, 1⟩).z) = 0 := by
 have e : ∀ Y Z : Fin M, (x2 - x1) * (x2 - x1) * (x2 - x1) * (Y - (l * (x1 - (l * l - x1 - x2)) - y1) * Z) =
   (x2 - x1) * (x2 - x1) * (x2 - x1) * Y - ((y2 - y1) * ((x2 - x1) * (x2 - x1) * (2 * x1 + x2) - (y2 - y1) * (y2 - y1)) - (x2 - x1) * (x2 - x1) * (x2 - x1) * y1) * Z := by
  intro Y Z; rw [← hl]; clear h1 h2 hl; grind
 rw [e]; clear e hl
 simp only [plus]; grind
theorem tr_chord (g : Good b) {x1 y1 x2 y2 : Fin M} (h1 : On b (.A x1 y1)) (h2 : On b (.A x2 y2)) (hx : x1 ≠ x2) {l : Fin M} (hl : l * (x2 - x1) = y2 - y1) :
  Tr (plus b ⟨x1, y1, 1⟩ ⟨x2, y2, 1⟩) (third l x1 y1 x2) := by
 have hd : x2 - x1 ≠ 0 := by grind
 obtain ⟨m, hm⟩ : ∃ m : Fin M, m * (x2 - x1) = -y2 - y1 := ⟨(-y2 - y1) * fi (x2 - x1), div_mul _ hd⟩
 have hon := on_third_chord (b := b) (x1 := x1) (y1 := y1) (x2 := x2) (y2 := -y2) (l := m) h1 (on_neg (P := .A x2 y2) h2) hx hm
 have hv := g.y_ne hon
 have hz := chord_z b x1 y1 x2 y2 m h1 h2 hm
 have hX := chord_x b x1 y1 x2 y2 l h1 h2 hl
 have hY := chord_y b x1 y1 x2 y2 l h1 h2 hl
 simp only [third, Tr]
 generalize plus b ⟨x1, y1, 1⟩ ⟨x2, y2, 1⟩ = t at *
 generalize m * (x1 - (m * m - x1 - x2)) - y1 = v at *
 generalize l * l - x1 - x2 = X at *
 generalize hXX : l * (x1 - X) - y1 = Y at *
 generalize x2 - x1 = d at *
 clear hm hl hXX hon h1 h2
 refine ⟨?_, ?_, ?_⟩
 ·rw [hz]; exact mul_ne (mul_ne (mul_ne hd hd) hd) hv
 ·show t.x = X * t.z
  have := cancel hX (mul_ne hd hd); clear hY hX; grind
 ·show t.y = Y * t.z
  have := cancel hY (mul_ne (mul_ne hd hd) hd); clear hX hY; grind
theorem tr_tangent (g : Good b) {x y : Fin M} (h1 : On b (.A x y)) {l : Fin M} (hl : l * (2 * y) = 3 * x * x - 3) :
  Tr (plus b ⟨x, y, 1⟩ ⟨x, y, 1⟩) (third l x y x) := by
 have hy := g.y_ne h1
 have h2 := g.two
 simp only [On] at h1
 have hz : (plus b ⟨x, y, 1⟩ ⟨x, y, 1⟩).z = (2 * y) * (2 * y) * (2 * y) := by clear hl hy; simp only [plus]; grind
 have hX : (2 * y) * (2 * y) * ((plus b ⟨x, y, 1⟩ ⟨x, y, 1⟩).x - (l * l - x - x) * (plus b ⟨x, y, 1⟩ ⟨x, y, 1⟩).z) = 0 := by
  have e : ∀ X Z : Fin M, (2 * y) * (2 * y) * (X - (l * l - x - x) * Z) = (2 * y) * (2 * y) * X - ((3 * x * x - 3) * (3 * x * x - 3) - (2 * y) * (2 * y) * (x + x)) * Z := by
   intro X Z; rw [← hl]; clear h1 h2 hl; grind
  rw [e]; clear e hl hz hy
  simp only [plus]; grind
 have hY : (2 * y) * (2 * y) * (2 * y) * ((plus b ⟨x, y, 1⟩ ⟨x, y, 1⟩).y - (l * (x - (l * l - x - x)) - y) * (plus b ⟨x, y, 1⟩ ⟨x, y, 1⟩).z) = 0 := by
  have e : ∀ Y Z : Fin M, (2 * y) * (2 * y) * (2 * y) * (Y - (l * (x - (l * l - x - x)) - y) * Z) =
    (2 * y) * (2 * y) * (2 * y) * Y - ((3 * x * x - 3) * ((2 * y) * (2 * y) * (2 * x + x) - (3 * x * x - 3) * (3 * x * x - 3)) - (2 * y) * (2 * y) * (2 * y) * y) * Z := by
   intro Y Z; rw [← hl]; clear h1 h2 hl; grind
  rw [e]; clear e hl hz hy hX
  simp only [plus]; grind
 have hd : 2 * y ≠ 0 := mul_ne h2 hy
 simp only [third, Tr]
 generalize plus b ⟨x, y, 1⟩ ⟨x, y, 1⟩ = t at *
 generalize l * l - x - x = X at *
 generalize hXX : l * (x - X) - y = Y at *
 generalize 2 * y = d at *
 clear hl h1 h2 hy
 refine ⟨?_, ?_, ?_⟩
 ·rw [hz]; exact mul_ne (mul_ne hd hd) hd
 ·show t.x = X * t.z
  have := cancel hX (mul_ne hd hd); clear hY hX; grind
 ·show t.y = Y * t.z
  have := cancel hY (mul_ne (mul_ne hd hd) hd); clear hX hY; grind
theorem tr_opp (g : Good b) {x y : Fin M} (h1 : On b (.A x y)) : Tr (plus b ⟨x, y, 1⟩ ⟨x, -y, 1⟩) .O := by
 have hy := g.y_ne h1
 have h2 := g.two
 obtain ⟨l, hl⟩ : ∃ l : Fin M, l * (2 * y) = 3 * x * x - 3 := ⟨(3 * x * x - 3) * fi (2 * y), div_mul _ (mul_ne h2 hy)⟩
 have hon := on_third_tangent h1 hl
 have hv := g.y_ne hon
 simp only [On] at h1
 refine ⟨?_, ?_, ?_⟩
 ·clear hl hon hv hy; simp only [plus]; grind
 ·clear hl hon hv hy; simp only [plus]; grind
 ·have hY : (plus b ⟨x, y, 1⟩ ⟨x, -y, 1⟩).y = (2 * y) * (2 * y) * (2 * y) * (l * (x - (l * l - x - x)) - y) := by
   have e : (2 * y) * (2 * y) * (2 * y) * (l * (x - (l * l - x - x)) - y) =
    ((3 * x * x - 3) * ((2 * y) * (2 * y) * (2 * x + x) - (3 * x * x - 3) * (3 * x * x - 3)) - (2 * y) * (2 * y) * (2 * y) * y) := by
    rw [← hl]; clear h1 h2 hl; grind
   rw [e]; clear e hl hon hv hy
   simp only [plus]; grind
  rw [hY]
  generalize l * (x - (l * l - x - x)) - y = v at *
  have hd : 2 * y ≠ 0 := mul_ne h2 hy
  exact mul_ne (mul_ne (mul_ne hd hd) hd) hv
theorem tr_O (g : Good b) (P : Pt (Fin M)) (hP : On b P) : Tr (plus b ⟨0, 1, 0⟩ (tri P)) P := by
  have h1 : (1 : Fin M) ≠ 0 := Dom.one
  cases P with
  | O => refine ⟨by simp only [tri, plus]; grind, by simp only [tri, plus]; grind, ?_⟩
         have e : (plus b ⟨0, 1, 0⟩ (tri .O)).y = 1 := by simp only [tri, plus]; grind
         rw [e]; exact h1
  | A x y =>
    have hy := g.y_ne hP
    have e : (plus b ⟨0, 1, 0⟩ (tri (.A x y))).z = y := by simp only [tri, plus]; grind
    refine ⟨by rw [e]; exact hy, ?_, ?_⟩ <;> simp only [tri, plus] <;> grind
theorem plus_comm (p q : T3 (Fin M)) : plus b p q = plus b q p := by
 simp only [plus, T3.mk.injEq]
 refine ⟨?_, ?_, ?_⟩ <;> grind
theorem tr_plus (g : Good b) {p q : T3 (Fin M)} {P Q : Pt (Fin M)} (hp : Tr p P) (hq : Tr q Q) (hP : On b P) (hQ : On b Q) : Tr (plus b p q) (padd P Q) := by
 obtain ⟨c, hc, rfl⟩ := hp.eq_scale
 obtain ⟨d, hd, rfl⟩ := hq.eq_scale
 rw [plus_scale]
 have hcd : (c * d) * (c * d) ≠ 0 := mul_ne (mul_ne hc hd) (mul_ne hc hd)
 refine Tr.scale ?_ hcd
 clear hp hq hc hd hcd c d
 cases P with
 | O => simp only [padd]; exact tr_O g Q hQ
 | A x1 y1 =>
  cases Q with
  | O => simp only [padd]; rw [plus_comm]; exact tr_O g _ hP
  | A x2 y2 =>
   simp only [padd, tri]
   split
   ·subst_vars
    split
    ·subst_vars
     have hy := g.y_ne hP
     have := g.two
     exact tr_tangent g hP (div_mul _ (mul_ne this hy))
    ·rename_i hne
     have : y2 = -y1 := by
      simp only [On] at hP hQ
      have : (y2 - y1) * (y2 + y1) = 0 := by grind
      have := cancel this (fun e => hne (by grind))
      grind
     subst this
     exact tr_opp g hP
   ·rename_i hx; exact tr_chord g hP hQ hx (div_mul _ (sub_ne hx))
end
end ChEC
/- It is associative. -/
namespace ChEC
set_option linter.unusedSectionVars false
section
variable {M : Nat} [NeZero M] [Dom M] {b : Fin M}
theorem fits_plus {α : Type} {R : Rg α} {rep : α → Fin M → Prop} (h : Fits R rep) {bb : α} {p q : T3 α} {f g : T3 (Fin M)} (hb : rep bb b)
  (hp : rep p.x f.x ∧ rep p.y f.y ∧ rep p.z f.z) (hq : rep q.x g.x ∧ rep q.y g.y ∧ rep q.z g.z) :
  rep (AK.gplus R bb p q).x (plus b f g).x ∧ rep (AK.gplus R bb p q).y (plus b f g).y ∧ rep (AK.gplus R bb p q).z (plus b f g).z := by
 obtain ⟨p1, p2, p3⟩ := hp
 obtain ⟨q1, q2, q3⟩ := hq
 have t0 := h.mul p1 q1
 have t1 := h.mul p2 q2
 have t2 := h.mul p3 q3
 have t3 := h.sub (h.mul (h.add p1 p2) (h.add q1 q2)) (h.add t0 t1)
 have t4 := h.sub (h.mul (h.add p2 p3) (h.add q2 q3)) (h.add t1 t2)
 have y := h.sub (h.mul (h.add p1 p3) (h.add q1 q3)) (h.add t0 t2)
 have x := h.sub y (h.mul hb t2)
 have x := h.add x (h.add x x)
 have z := h.sub t1 x
 have x := h.add t1 x
 have t2 := h.add t2 (h.add t2 t2)
 have y := h.sub (h.sub (h.mul hb y) t2) t0
 have y := h.add y (h.add y y)
 have t0 := h.sub (h.add t0 (h.add t0 t0)) t2
 exact ⟨h.sub (h.mul t3 x) (h.mul t4 y), h.add (h.mul x z) (h.mul t0 y), h.add (h.mul t4 z) (h.mul t3 t0)⟩
def mev (x1 x2 x3 b : Fin M) (m : Mon) : Fin M := fpw x1 m.a * fpw x2 m.b * fpw x3 m.c * fpw b m.d
theorem mev_mul (x1 x2 x3 b : Fin M) (m n : Mon) : mev x1 x2 x3 b (m.mul n) = mev x1 x2 x3 b m * mev x1 x2 x3 b n := by
 simp only [mev, Mon.mul, fpw_add]; grind
theorem assoc_id (b x1 y1 x2 y2 x3 y3 : Fin M) (h1 : y1 * y1 = x1 * x1 * x1 - 3 * x1 + b) (h2 : y2 * y2 = x2 * x2 * x2 - 3 * x2 + b) (h3 : y3 * y3 = x3 * x3 * x3 - 3 * x3 + b) :
  let u := plus b (plus b ⟨x1, y1, 1⟩ ⟨x2, y2, 1⟩) ⟨x3, y3, 1⟩
  let v := plus b ⟨x1, y1, 1⟩ (plus b ⟨x2, y2, 1⟩ ⟨x3, y3, 1⟩)
  u.x * v.z - v.x * u.z = 0 ∧ u.y * v.z - v.y * u.z = 0 := by
 intro u v
 have he := mev_mul x1 x2 x3 b
 have F0 := fitsK AK.W AK.r (mev x1 x2 x3 b) he
 have h00 : mev x1 x2 x3 b ⟨0, 0, 0, 0⟩ = 1 := by simp only [mev, fpw]; grind
 have kc : ∀ c : Int, K.Rep AK.W AK.r (mev x1 x2 x3 b) (AK.kc c) (ic c) := fun c => K.rep_const _ _ _ h00 c
 have k0 : K.Rep AK.W AK.r (mev x1 x2 x3 b) AK.k0 0 := by have := kc 0; rw [ic_zero] at this; exact this
 have k1 : K.Rep AK.W AK.r (mev x1 x2 x3 b) (AK.kc 1) 1 := by have := kc 1; rw [ic_one] at this; exact this
 have k3 : K.Rep AK.W AK.r (mev x1 x2 x3 b) (AK.kc 3) 3 := by
  have := kc 3
  rw [ic_three] at this; exact this
 have m1 : K.Rep AK.W AK.r (mev x1 x2 x3 b) (K.mono AK.W AK.r ⟨1, 0, 0, 0⟩) x1 := by
  have := K.rep_mono AK.W AK.r (mev x1 x2 x3 b) ⟨1, 0, 0, 0⟩
  have e : mev x1 x2 x3 b ⟨1, 0, 0, 0⟩ = x1 := by simp only [mev, fpw]; grind
  rw [e] at this; exact this
 have m2 : K.Rep AK.W AK.r (mev x1 x2 x3 b) (K.mono AK.W AK.r ⟨0, 1, 0, 0⟩) x2 := by
  have := K.rep_mono AK.W AK.r (mev x1 x2 x3 b) ⟨0, 1, 0, 0⟩
  have e : mev x1 x2 x3 b ⟨0, 1, 0, 0⟩ = x2 := by simp only [mev, fpw]; grind
  rw [e] at this; exact this
 have m3 : K.Rep AK.W AK.r (mev x1 x2 x3 b) (K.mono AK.W AK.r ⟨0, 0, 1, 0⟩) x3 := by
  have := K.rep_mono AK.W AK.r (mev x1 x2 x3 b) ⟨0, 0, 1, 0⟩
  have e : mev x1 x2 x3 b ⟨0, 0, 1, 0⟩ = x3 := by simp only [mev, fpw]; grind
  rw [e] at this; exact this
 have mb : K.Rep AK.W AK.r (mev x1 x2 x3 b) (K.mono AK.W AK.r ⟨0, 0, 0, 1⟩) b := by
  have := K.rep_mono AK.W AK.r (mev x1 x2 x3 b) ⟨0, 0, 0, 1⟩
  have e : mev x1 x2 x3 b ⟨0, 0, 0, 1⟩ = b := by simp only [mev, fpw]; grind
  rw [e] at this; exact this
 have c1 : K.Rep AK.W AK.r (mev x1 x2 x3 b) (K.mono AK.W AK.r ⟨3, 0, 0, 0⟩) (x1 * x1 * x1) := by
  have := K.rep_mono AK.W AK.r (mev x1 x2 x3 b) ⟨3, 0, 0, 0⟩
  have e : mev x1 x2 x3 b ⟨3, 0, 0, 0⟩ = x1 * x1 * x1 := by simp only [mev, fpw]; grind
  rw [e] at this; exact this
 have c2 : K.Rep AK.W AK.r (mev x1 x2 x3 b) (K.mono AK.W AK.r ⟨0, 3, 0, 0⟩) (x2 * x2 * x2) := by
  have := K.rep_mono AK.W AK.r (mev x1 x2 x3 b) ⟨0, 3, 0, 0⟩
  have e : mev x1 x2 x3 b ⟨0, 3, 0, 0⟩ = x2 * x2 * x2 := by simp only [mev, fpw]; grind
  rw [e] at this; exact this
 have c3 : K.Rep AK.W AK.r (mev x1 x2 x3 b) (K.mono AK.W AK.r ⟨0, 0, 3, 0⟩) (x3 * x3 * x3) := by
  have := K.rep_mono AK.W AK.r (mev x1 x2 x3 b) ⟨0, 0, 3, 0⟩
  have e : mev x1 x2 x3 b ⟨0, 0, 3, 0⟩ = x3 * x3 * x3 := by simp only [mev, fpw]; grind
  rw [e] at this; exact this
 have f1 : K.Rep AK.W AK.r (mev x1 x2 x3 b) AK.f1 (x1 * x1 * x1 - 3 * x1 + b) := F0.add (F0.sub c1 (F0.mul k3 m1)) mb
 have f2 : K.Rep AK.W AK.r (mev x1 x2 x3 b) AK.f2 (x2 * x2 * x2 - 3 * x2 + b) := F0.add (F0.sub c2 (F0.mul k3 m2)) mb
 have f3 : K.Rep AK.W AK.r (mev x1 x2 x3 b) AK.f3 (x3 * x3 * x3 - 3 * x3 + b) := F0.add (F0.sub c3 (F0.mul k3 m3)) mb
 have F1 : Fits AK.R1 (repQ (K.Rep AK.W AK.r (mev x1 x2 x3 b)) y3) := fitsQ F0 f3 h3
 have up1 : ∀ {a : K} {f : Fin M}, K.Rep AK.W AK.r (mev x1 x2 x3 b) a f → repQ (K.Rep AK.W AK.r (mev x1 x2 x3 b)) y3 (AK.up1 a) f := fun h => ⟨_, 0, h, k0, by grind⟩
 have F2 : Fits AK.R2 (repQ (repQ (K.Rep AK.W AK.r (mev x1 x2 x3 b)) y3) y2) := fitsQ F1 (up1 f2) h2
 have up2 : ∀ {a : Q K} {f : Fin M}, repQ (K.Rep AK.W AK.r (mev x1 x2 x3 b)) y3 a f → repQ (repQ (K.Rep AK.W AK.r (mev x1 x2 x3 b)) y3) y2 (AK.up2 a) f := fun h => ⟨_, 0, h, up1 k0, by grind⟩
 have F3 : Fits AK.R3 (repQ (repQ (repQ (K.Rep AK.W AK.r (mev x1 x2 x3 b)) y3) y2) y1) := fitsQ F2 (up2 (up1 f1)) h1
 have up3 : ∀ {a : Q (Q K)} {f : Fin M}, repQ (repQ (K.Rep AK.W AK.r (mev x1 x2 x3 b)) y3) y2 a f → repQ (repQ (repQ (K.Rep AK.W AK.r (mev x1 x2 x3 b)) y3) y2) y1 (AK.up3 a) f := fun h => ⟨_, 0, h, up2 (up1 k0), by grind⟩
 have hone := up3 (up2 (up1 k1))
 have hy3 := up3 (up2 (a := ⟨AK.k0, AK.kc 1⟩) (f := y3) ⟨0, 1, k0, k1, by grind⟩)
 have hy2 := up3 (a := ⟨⟨AK.k0, AK.k0⟩, AK.up1 (AK.kc 1)⟩) (f := y2) ⟨0, 1, up1 k0, up1 k1, by grind⟩
 have hy1 : repQ (repQ (repQ (K.Rep AK.W AK.r (mev x1 x2 x3 b)) y3) y2) y1 AK.y1 y1 := ⟨0, 1, up2 (up1 k0), up2 (up1 k1), by grind⟩
 have P1 : _ ∧ _ ∧ _ := ⟨up3 (up2 (up1 m1)), hy1, hone⟩
 have P2 : _ ∧ _ ∧ _ := ⟨up3 (up2 (up1 m2)), hy2, hone⟩
 have P3 : _ ∧ _ ∧ _ := ⟨up3 (up2 (up1 m3)), hy3, hone⟩
 have hb := up3 (up2 (up1 mb))
 have hu := fits_plus (p := AK.gplus AK.R3 AK.bb AK.P1 AK.P2) (q := AK.P3) (f := plus b ⟨x1, y1, 1⟩ ⟨x2, y2, 1⟩) (g := ⟨x3, y3, 1⟩) F3 hb (fits_plus (p := AK.P1) (q := AK.P2) (f := ⟨x1, y1, 1⟩) (g := ⟨x2, y2, 1⟩) F3 hb P1 P2) P3
 have hv := fits_plus (p := AK.P1) (q := AK.gplus AK.R3 AK.bb AK.P2 AK.P3) (f := ⟨x1, y1, 1⟩) (g := plus b ⟨x2, y2, 1⟩ ⟨x3, y3, 1⟩) F3 hb P1 (fits_plus (p := AK.P2) (q := AK.P3) (f := ⟨x2, y2, 1⟩) (g := ⟨x3, y3, 1⟩) F3 hb P2 P3)
 exact ⟨F3.ok (F3.sub (F3.mul hu.1 hv.2.2) (F3.mul hv.1 hu.2.2)) (by decide +kernel), F3.ok (F3.sub (F3.mul hu.2.1 hv.2.2) (F3.mul hv.2.1 hu.2.2)) (by decide +kernel)⟩
theorem padd_assoc (g : Good b) {P Q R : Pt (Fin M)} (hP : On b P) (hQ : On b Q) (hR : On b R) : padd (padd P Q) R = padd P (padd Q R) := by
 have hO : ∀ P : Pt (Fin M), padd P .O = P := fun P => by cases P <;> rfl
 cases P with
 | O => rfl
 | A x1 y1 =>
  cases Q with
  | O => rw [hO]; rfl
  | A x2 y2 =>
   cases R with
   | O => rw [hO, hO]
   | A x3 y3 =>
    have hid := assoc_id b x1 y1 x2 y2 x3 y3 hP hQ hR
    have hu := tr_plus g (tr_plus g (tr_tri (.A x1 y1)) (tr_tri (.A x2 y2)) hP hQ) (tr_tri (.A x3 y3)) (on_padd g hP hQ) hR
    have hv := tr_plus g (tr_tri (.A x1 y1)) (tr_plus g (tr_tri (.A x2 y2)) (tr_tri (.A x3 y3)) hQ hR) hP (on_padd g hQ hR)
    simp only [tri] at hu hv
    refine Tr.unique hu hv ?_ ?_
    ·have := hid.1; grind
    ·have := hid.2; grind
theorem padd_comm (g : Good b) {P Q : Pt (Fin M)} (hP : On b P) (hQ : On b Q) : padd P Q = padd Q P := by
 have h1 := tr_plus g (tr_tri P) (tr_tri Q) hP hQ
 have h2 := tr_plus g (tr_tri Q) (tr_tri P) hQ hP
 rw [plus_comm] at h2
 exact Tr.unique h1 h2 rfl rfl
theorem padd_neg (g : Good b) {P : Pt (Fin M)} (hP : On b P) : padd P (pneg P) = .O := by
 cases P with
 | O => rfl
 | A x y =>
  have hy := g.y_ne hP
  simp only [padd, pneg, if_true]
  rw [if_neg]
  intro h
  have : 2 * y = 0 := by grind
  exact mul_ne g.two hy this
end
end ChEC
/- Multiples; Jacobian triples. -/
namespace ChEC
set_option linter.unusedSectionVars false
section
variable {M : Nat} [NeZero M] [Dom M] {b : Fin M}
def smul (n : Nat) (P : Pt (Fin M)) : Pt (Fin M) := match n with
 | 0 => .O
 | n + 1 => padd P (smul n P)
theorem padd_O (P : Pt (Fin M)) : padd P .O = P := by cases P <;> rfl
theorem O_padd (P : Pt (Fin M)) : padd .O P = P := by cases P <;> rfl
theorem on_smul (g : Good b) {P : Pt (Fin M)} (hP : On b P) (n : Nat) : On b (smul n P) := by
 induction n with
 | zero => trivial
 | succ n ih => exact on_padd g hP ih
theorem smul_add (g : Good b) {P : Pt (Fin M)} (hP : On b P) (m n : Nat) : smul (m + n) P = padd (smul m P) (smul n P) := by
 induction m with
 | zero => simp only [Nat.zero_add, smul, O_padd]
 | succ m ih =>
  rw [Nat.succ_add]
  simp only [smul, ih]
  exact (padd_assoc g hP (on_smul g hP m) (on_smul g hP n)).symm
theorem smul_one (P : Pt (Fin M)) : smul 1 P = P := padd_O P
theorem smul_mul (g : Good b) {P : Pt (Fin M)} (hP : On b P) (m n : Nat) : smul (m * n) P = smul m (smul n P) := by
 induction m with
 | zero => simp only [Nat.zero_mul, smul]
 | succ m ih =>
  rw [Nat.succ_mul, Nat.add_comm, smul_add g hP, ih]
  rfl
theorem smul_O (n : Nat) : smul n (.O : Pt (Fin M)) = .O := by
 induction n with
 | zero => rfl
 | succ n ih => simp only [smul, ih, O_padd]
theorem padd_swap (g : Good b) {A B C D : Pt (Fin M)} (hA : On b A) (hB : On b B) (hC : On b C) (hD : On b D) :
  padd (padd A B) (padd C D) = padd (padd A C) (padd B D) := by
 rw [padd_assoc g hA hB (on_padd g hC hD), padd_assoc g hA hC (on_padd g hB hD), ← padd_assoc g hB hC hD, padd_comm g hB hC, padd_assoc g hC hB hD]
theorem smul_mod (g : Good b) {P : Pt (Fin M)} (hP : On b P) {n : Nat} (hn : smul n P = .O) (m : Nat) : smul (m % n) P = smul m P := by
 have h := Nat.div_add_mod m n
 have h2 : smul (n * (m / n) + m % n) P = smul m P := by rw [h]
 rw [smul_add g hP, Nat.mul_comm, smul_mul g hP, hn, smul_O, O_padd] at h2
 exact h2
theorem both_step (g : Good b) {P Q : Pt (Fin M)} (hP : On b P) (hQ : On b Q) (u v s t : Nat) :
  padd (padd (padd (smul u P) (smul v Q)) (padd (smul u P) (smul v Q))) (padd (smul s P) (smul t Q)) = padd (smul (2 * u + s) P) (smul (2 * v + t) Q) := by
 have a := on_smul g hP u
 have c := on_smul g hQ v
 rw [padd_swap g a c a c, ← smul_add g hP, ← smul_add g hQ, padd_swap g (on_smul g hP _) (on_smul g hQ _) (on_smul g hP _) (on_smul g hQ _), ← smul_add g hP, ← smul_add g hQ]
 rw [show u + u = 2 * u by omega, show v + v = 2 * v by omega]
def Jr (t : T3 (Fin M)) : Pt (Fin M) → Prop
 | .O => t.z = 0
 | .A x y => t.z ≠ 0 ∧ t.x = x * (t.z * t.z) ∧ t.y = y * (t.z * (t.z * t.z))
def jdouble (p : T3 (Fin M)) : T3 (Fin M) :=
 if p.z = 0 ∨ p.y = 0 then ⟨0, 0, 0⟩ else
 let zz := p.z * p.z
 let yy := p.y * p.y
 let s := 4 * (p.x * yy)
 let m := 3 * ((p.x - zz) * (p.x + zz))
 let x := m * m - 2 * s
 let y := m * (s - x) - 8 * (yy * yy)
 ⟨x, y, 2 * (p.y * p.z)⟩
def jplus (p q : T3 (Fin M)) : T3 (Fin M) :=
 if p.z = 0 then q else
 if q.z = 0 then p else
 let pz := p.z * p.z
 let qz := q.z * q.z
 let u := p.x * qz
 let v := q.x * pz
 let s := p.y * (q.z * qz)
 let t := q.y * (p.z * pz)
 if u = v then (if s = t then jdouble p else ⟨0, 0, 0⟩) else
 let h := v - u
 let r := t - s
 let hh := h * h
 let hhh := h * hh
 let w := u * hh
 let x := (r * r - hhh) - 2 * w
 let y := r * (w - x) - s * hhh
 ⟨x, y, h * (p.z * q.z)⟩
theorem jr_double (g : Good b) {p : T3 (Fin M)} {P : Pt (Fin M)} (h : Jr p P) (hP : On b P) : Jr (jdouble p) (padd P P) := by
 cases P with
 | O =>
  simp only [Jr] at h
  simp only [jdouble, h, true_or, if_true, padd, Jr]
 | A x y =>
  obtain ⟨hz, hx, hy⟩ := h
  have hy0 := g.y_ne hP
  have h2 := g.two
  obtain ⟨px, py, z⟩ := p
  simp only at hz hx hy
  have hpy : py ≠ 0 := by rw [hy]; exact mul_ne hy0 (mul_ne hz (mul_ne hz hz))
  simp only [jdouble, hz, hpy, or_self, if_false, padd, if_true]
  obtain ⟨l, hl⟩ : ∃ l : Fin M, l = (3 * x * x - 3) * fi (2 * y) := ⟨_, rfl⟩
  have hl2 : l * (2 * y) = 3 * x * x - 3 := by rw [hl]; exact div_mul _ (mul_ne h2 hy0)
  rw [← hl]
  clear hl
  subst hx hy
  simp only [third, Jr]
  refine ⟨mul_ne h2 (mul_ne hpy hz), ?_, ?_⟩
  ·have e : 3 * ((x * (z * z) - z * z) * (x * (z * z) + z * z)) = (z * z) * (z * z) * (l * (2 * y)) := by rw [hl2]; clear hl2 hP hz hpy; grind
   rw [e]; clear e hl2 hP hz hpy hy0 h2; grind
  ·have e : 3 * ((x * (z * z) - z * z) * (x * (z * z) + z * z)) = (z * z) * (z * z) * (l * (2 * y)) := by rw [hl2]; clear hl2 hP hz hpy; grind
   rw [e]; clear e hl2 hP hz hpy hy0 h2; grind
theorem jr_plus (g : Good b) {p q : T3 (Fin M)} {P Q : Pt (Fin M)} (h : Jr p P) (k : Jr q Q) (hP : On b P) (hQ : On b Q) : Jr (jplus p q) (padd P Q) := by
 cases P with
 | O =>
  simp only [Jr] at h
  simp only [jplus, h, if_true, O_padd]; exact k
 | A x1 y1 =>
  cases Q with
  | O =>
   have hz := h.1
   simp only [Jr] at k
   simp only [jplus, hz, k, if_true, if_false, padd]; exact h
  | A x2 y2 =>
   have hd := jr_double g h hP
   obtain ⟨hz, hx, hy⟩ := h
   obtain ⟨kz, kx, ky⟩ := k
   simp only [jplus, hz, kz, if_false, padd]
   obtain ⟨px, py, z⟩ := p
   obtain ⟨qx, qy, w⟩ := q
   simp only at hz hx hy kz kx ky
   subst hx hy kx ky
   have eu : x1 * (z * z) * (w * w) = x2 * (w * w) * (z * z) ↔ x1 = x2 := by
    constructor
    ·intro h
     have : ((z * z) * (w * w)) * (x1 - x2) = 0 := by clear hd hP hQ; grind
     have := cancel this (mul_ne (mul_ne hz hz) (mul_ne kz kz))
     clear h hd hP hQ; grind
    ·rintro rfl; grind
   have es : y1 * (z * (z * z)) * (w * (w * w)) = y2 * (w * (w * w)) * (z * (z * z)) ↔ y1 = y2 := by
    constructor
    ·intro h
     have : ((z * (z * z)) * (w * (w * w))) * (y1 - y2) = 0 := by clear hd hP hQ eu; grind
     have := cancel this (mul_ne (mul_ne hz (mul_ne hz hz)) (mul_ne kz (mul_ne kz kz)))
     clear h hd hP hQ eu; grind
    ·rintro rfl; grind
   simp only [eu, es]
   split
   ·subst_vars
    split
    ·subst_vars
     simp only [padd, if_true] at hd
     exact hd
    ·rfl
   ·have hne : x1 ≠ x2 := by assumption
    clear hd eu es
    obtain ⟨l, hl⟩ : ∃ l : Fin M, l = (y2 - y1) * fi (x2 - x1) := ⟨_, rfl⟩
    have hl2 : l * (x2 - x1) = y2 - y1 := by rw [hl]; exact div_mul _ (sub_ne hne)
    rw [← hl]; clear hl hP hQ
    have er : y2 * (w * (w * w)) * (z * (z * z)) - y1 * (z * (z * z)) * (w * (w * w)) = (l * (x2 - x1)) * ((z * (z * z)) * (w * (w * w))) := by rw [hl2]; clear hl2; grind
    have eh : x2 * (w * w) * (z * z) - x1 * (z * z) * (w * w) = (x2 - x1) * ((z * z) * (w * w)) := by clear hl2; grind
    simp only [er, eh, third, Jr]
    clear er eh
    have hy2 : y2 = y1 + l * (x2 - x1) := by clear hne hz kz; grind
    subst hy2
    have hd0 : x2 - x1 ≠ 0 := sub_ne hne
    refine ⟨mul_ne (mul_ne hd0 (mul_ne (mul_ne hz hz) (mul_ne kz kz))) (mul_ne hz kz), ?_, ?_⟩
    ·clear hl2 hne hd0 hz kz; grind
    ·clear hl2 hne hd0 hz kz; grind
end
end ChEC
/- The primes of P-256, by certificates; the field. -/
namespace ChPr
theorem hl_nil : ∀ x ∈ ([] : List (Nat × Nat)), Pr x.1 := fun _ h => by cases h
theorem hl_cons {q e : Nat} {l : List (Nat × Nat)} (h : Pr q) (t : ∀ x ∈ l, Pr x.1) : ∀ x ∈ (q, e) :: l, Pr x.1 := fun x hx => by
 rcases List.mem_cons.1 hx with rfl | hx
 ·exact h
 ·exact t x hx
theorem pr2 : Pr 2 := pr_tried 1500 (by decide) (by decide +kernel)
theorem pr3 : Pr 3 := pr_tried 1500 (by decide) (by decide +kernel)
theorem pr5 : Pr 5 := pr_tried 1500 (by decide) (by decide +kernel)
theorem pr17 : Pr 17 := pr_tried 1500 (by decide) (by decide +kernel)
theorem pr257 : Pr 257 := pr_tried 1500 (by decide) (by decide +kernel)
theorem pr641 : Pr 641 := pr_tried 1500 (by decide) (by decide +kernel)
theorem pr1531 : Pr 1531 := pr_tried 1500 (by decide) (by decide +kernel)
theorem pr65537 : Pr 65537 := pr_tried 1500 (by decide) (by decide +kernel)
theorem pr490463 : Pr 490463 := pr_tried 1500 (by decide) (by decide +kernel)
theorem pr17449 : Pr 17449 := pr_tried 1500 (by decide) (by decide +kernel)
theorem good6700417 : good 6700417 5 [(2, 7), (3, 1), (17449, 1)] = true := by decide +kernel
theorem all6700417 : ∀ x ∈ ([(2, 7), (3, 1), (17449, 1)] : List (Nat × Nat)), Pr x.1 := (hl_cons pr2 (hl_cons pr3 (hl_cons pr17449 hl_nil)))
theorem pr6700417 : Pr 6700417 := pr_of good6700417 all6700417
theorem pr2411 : Pr 2411 := pr_tried 1500 (by decide) (by decide +kernel)
theorem pr53 : Pr 53 := pr_tried 1500 (by decide) (by decide +kernel)
theorem pr173 : Pr 173 := pr_tried 1500 (by decide) (by decide +kernel)
theorem pr197 : Pr 197 := pr_tried 1500 (by decide) (by decide +kernel)
theorem pr3677 : Pr 3677 := pr_tried 1500 (by decide) (by decide +kernel)
theorem good66417393611 : good 66417393611 6 [(2, 1), (5, 1), (53, 1), (173, 1), (197, 1), (3677, 1)] = true := by decide +kernel
theorem all66417393611 : ∀ x ∈ ([(2, 1), (5, 1), (53, 1), (173, 1), (197, 1), (3677, 1)] : List (Nat × Nat)), Pr x.1 := (hl_cons pr2 (hl_cons pr5 (hl_cons pr53 (hl_cons pr173 (hl_cons pr197 (hl_cons pr3677 hl_nil))))))
theorem pr66417393611 : Pr 66417393611 := pr_of good66417393611 all66417393611
theorem good11290956913871 : good 11290956913871 13 [(2, 1), (5, 1), (17, 1), (66417393611, 1)] = true := by decide +kernel
theorem all11290956913871 : ∀ x ∈ ([(2, 1), (5, 1), (17, 1), (66417393611, 1)] : List (Nat × Nat)), Pr x.1 := (hl_cons pr2 (hl_cons pr5 (hl_cons pr17 (hl_cons pr66417393611 hl_nil))))
theorem pr11290956913871 : Pr 11290956913871 := pr_of good11290956913871 all11290956913871
theorem pr7 : Pr 7 := pr_tried 1500 (by decide) (by decide +kernel)
theorem pr11 : Pr 11 := pr_tried 1500 (by decide) (by decide +kernel)
theorem pr23 : Pr 23 := pr_tried 1500 (by decide) (by decide +kernel)
theorem pr107 : Pr 107 := pr_tried 1500 (by decide) (by decide +kernel)
theorem pr3769 : Pr 3769 := pr_tried 1500 (by decide) (by decide +kernel)
theorem good204061199 : good 204061199 11 [(2, 1), (11, 1), (23, 1), (107, 1), (3769, 1)] = true := by decide +kernel
theorem all204061199 : ∀ x ∈ ([(2, 1), (11, 1), (23, 1), (107, 1), (3769, 1)] : List (Nat × Nat)), Pr x.1 := (hl_cons pr2 (hl_cons pr11 (hl_cons pr23 (hl_cons pr107 (hl_cons pr3769 hl_nil)))))
theorem pr204061199 : Pr 204061199 := pr_of good204061199 all204061199
theorem good34282281433 : good 34282281433 17 [(2, 3), (3, 1), (7, 1), (204061199, 1)] = true := by decide +kernel
theorem all34282281433 : ∀ x ∈ ([(2, 3), (3, 1), (7, 1), (204061199, 1)] : List (Nat × Nat)), Pr x.1 := (hl_cons pr2 (hl_cons pr3 (hl_cons pr7 (hl_cons pr204061199 hl_nil))))
theorem pr34282281433 : Pr 34282281433 := pr_of good34282281433 all34282281433
theorem pr18169 : Pr 18169 := pr_tried 1500 (by decide) (by decide +kernel)
theorem pr704251 : Pr 704251 := pr_tried 1500 (by decide) (by decide +kernel)
theorem pr78283 : Pr 78283 := pr_tried 1500 (by decide) (by decide +kernel)
theorem good46076956964474543 : good 46076956964474543 5 [(2, 1), (23, 1), (18169, 1), (704251, 1), (78283, 1)] = true := by decide +kernel
theorem all46076956964474543 : ∀ x ∈ ([(2, 1), (23, 1), (18169, 1), (704251, 1), (78283, 1)] : List (Nat × Nat)), Pr x.1 := (hl_cons pr2 (hl_cons pr23 (hl_cons pr18169 (hl_cons pr704251 (hl_cons pr78283 hl_nil)))))
theorem pr46076956964474543 : Pr 46076956964474543 := pr_of good46076956964474543 all46076956964474543
theorem good774023187263532362759620327192479577272145303 : good 774023187263532362759620327192479577272145303 3 [(2, 1), (3, 2), (2411, 1), (11290956913871, 1), (34282281433, 1), (46076956964474543, 1)] = true := by decide +kernel
theorem all774023187263532362759620327192479577272145303 : ∀ x ∈ ([(2, 1), (3, 2), (2411, 1), (11290956913871, 1), (34282281433, 1), (46076956964474543, 1)] : List (Nat × Nat)), Pr x.1 := (hl_cons pr2 (hl_cons pr3 (hl_cons pr2411 (hl_cons pr11290956913871 (hl_cons pr34282281433 (hl_cons pr46076956964474543 hl_nil))))))
theorem pr774023187263532362759620327192479577272145303 : Pr 774023187263532362759620327192479577272145303 := pr_of good774023187263532362759620327192479577272145303 all774023187263532362759620327192479577272145303
theorem good835945042244614951780389953367877943453916927241 : good 835945042244614951780389953367877943453916927241 11 [(2, 3), (3, 3), (5, 1), (774023187263532362759620327192479577272145303, 1)] = true := by decide +kernel
theorem all835945042244614951780389953367877943453916927241 : ∀ x ∈ ([(2, 3), (3, 3), (5, 1), (774023187263532362759620327192479577272145303, 1)] : List (Nat × Nat)), Pr x.1 := (hl_cons pr2 (hl_cons pr3 (hl_cons pr5 (hl_cons pr774023187263532362759620327192479577272145303 hl_nil))))
theorem pr835945042244614951780389953367877943453916927241 : Pr 835945042244614951780389953367877943453916927241 := pr_of good835945042244614951780389953367877943453916927241 all835945042244614951780389953367877943453916927241
theorem good115792089210356248762697446949407573530086143415290314195533631308867097853951 : good 115792089210356248762697446949407573530086143415290314195533631308867097853951 6 [(2, 1), (3, 1), (5, 2), (17, 1), (257, 1), (641, 1), (1531, 1), (65537, 1), (490463, 1), (6700417, 1), (835945042244614951780389953367877943453916927241, 1)] = true := by decide +kernel
theorem all115792089210356248762697446949407573530086143415290314195533631308867097853951 : ∀ x ∈ ([(2, 1), (3, 1), (5, 2), (17, 1), (257, 1), (641, 1), (1531, 1), (65537, 1), (490463, 1), (6700417, 1), (835945042244614951780389953367877943453916927241, 1)] : List (Nat × Nat)), Pr x.1 := (hl_cons pr2 (hl_cons pr3 (hl_cons pr5 (hl_cons pr17 (hl_cons pr257 (hl_cons pr641 (hl_cons pr1531 (hl_cons pr65537 (hl_cons pr490463 (hl_cons pr6700417 (hl_cons pr835945042244614951780389953367877943453916927241 hl_nil)))))))))))
theorem pr71 : Pr 71 := pr_tried 1500 (by decide) (by decide +kernel)
theorem pr131 : Pr 131 := pr_tried 1500 (by decide) (by decide +kernel)
theorem pr373 : Pr 373 := pr_tried 1500 (by decide) (by decide +kernel)
theorem pr3407 : Pr 3407 := pr_tried 1500 (by decide) (by decide +kernel)
theorem pr38189 : Pr 38189 := pr_tried 1500 (by decide) (by decide +kernel)
theorem pr229 : Pr 229 := pr_tried 1500 (by decide) (by decide +kernel)
theorem pr1201 : Pr 1201 := pr_tried 1500 (by decide) (by decide +kernel)
theorem good9350987 : good 9350987 2 [(2, 1), (17, 1), (229, 1), (1201, 1)] = true := by decide +kernel
theorem all9350987 : ∀ x ∈ ([(2, 1), (17, 1), (229, 1), (1201, 1)] : List (Nat × Nat)), Pr x.1 := (hl_cons pr2 (hl_cons pr17 (hl_cons pr229 (hl_cons pr1201 hl_nil))))
theorem pr9350987 : Pr 9350987 := pr_of good9350987 all9350987
theorem good187019741 : good 187019741 2 [(2, 2), (5, 1), (9350987, 1)] = true := by decide +kernel
theorem all187019741 : ∀ x ∈ ([(2, 2), (5, 1), (9350987, 1)] : List (Nat × Nat)), Pr x.1 := (hl_cons pr2 (hl_cons pr5 (hl_cons pr9350987 hl_nil)))
theorem pr187019741 : Pr 187019741 := pr_of good187019741 all187019741
theorem pr29 : Pr 29 := pr_tried 1500 (by decide) (by decide +kernel)
theorem pr311 : Pr 311 := pr_tried 1500 (by decide) (by decide +kernel)
theorem good311245691 : good 311245691 2 [(2, 1), (5, 1), (7, 1), (17, 1), (29, 2), (311, 1)] = true := by decide +kernel
theorem all311245691 : ∀ x ∈ ([(2, 1), (5, 1), (7, 1), (17, 1), (29, 2), (311, 1)] : List (Nat × Nat)), Pr x.1 := (hl_cons pr2 (hl_cons pr5 (hl_cons pr7 (hl_cons pr17 (hl_cons pr29 (hl_cons pr311 hl_nil))))))
theorem pr311245691 : Pr 311245691 := pr_of good311245691 all311245691
theorem good622491383 : good 622491383 5 [(2, 1), (311245691, 1)] = true := by decide +kernel
theorem all622491383 : ∀ x ∈ ([(2, 1), (311245691, 1)] : List (Nat × Nat)), Pr x.1 := (hl_cons pr2 (hl_cons pr311245691 hl_nil))
theorem pr622491383 : Pr 622491383 := pr_of good622491383 all622491383
theorem pr126241 : Pr 126241 := pr_tried 1500 (by decide) (by decide +kernel)
theorem pr19 : Pr 19 := pr_tried 1500 (by decide) (by decide +kernel)
theorem pr104471 : Pr 104471 := pr_tried 1500 (by decide) (by decide +kernel)
theorem good3969899 : good 3969899 2 [(2, 1), (19, 1), (104471, 1)] = true := by decide +kernel
theorem all3969899 : ∀ x ∈ ([(2, 1), (19, 1), (104471, 1)] : List (Nat × Nat)), Pr x.1 := (hl_cons pr2 (hl_cons pr19 (hl_cons pr104471 hl_nil)))
theorem pr3969899 : Pr 3969899 := pr_of good3969899 all3969899
theorem good1002328039319 : good 1002328039319 19 [(2, 1), (126241, 1), (3969899, 1)] = true := by decide +kernel
theorem all1002328039319 : ∀ x ∈ ([(2, 1), (126241, 1), (3969899, 1)] : List (Nat × Nat)), Pr x.1 := (hl_cons pr2 (hl_cons pr126241 (hl_cons pr3969899 hl_nil)))
theorem pr1002328039319 : Pr 1002328039319 := pr_of good1002328039319 all1002328039319
theorem pr1297 : Pr 1297 := pr_tried 1500 (by decide) (by decide +kernel)
theorem pr16879 : Pr 16879 := pr_tried 1500 (by decide) (by decide +kernel)
theorem pr43 : Pr 43 := pr_tried 1500 (by decide) (by decide +kernel)
theorem pr127 : Pr 127 := pr_tried 1500 (by decide) (by decide +kernel)
theorem pr3023 : Pr 3023 := pr_tried 1500 (by decide) (by decide +kernel)
theorem pr41 : Pr 41 := pr_tried 1500 (by decide) (by decide +kernel)
theorem pr155317 : Pr 155317 := pr_tried 1500 (by decide) (by decide +kernel)
theorem good191039911 : good 191039911 3 [(2, 1), (3, 1), (5, 1), (41, 1), (155317, 1)] = true := by decide +kernel
theorem all191039911 : ∀ x ∈ ([(2, 1), (3, 1), (5, 1), (41, 1), (155317, 1)] : List (Nat × Nat)), Pr x.1 := (hl_cons pr2 (hl_cons pr3 (hl_cons pr5 (hl_cons pr41 (hl_cons pr155317 hl_nil)))))
theorem pr191039911 : Pr 191039911 := pr_of good191039911 all191039911
theorem good208150935158385979 : good 208150935158385979 2 [(2, 1), (3, 1), (11, 1), (43, 1), (127, 1), (3023, 1), (191039911, 1)] = true := by decide +kernel
theorem all208150935158385979 : ∀ x ∈ ([(2, 1), (3, 1), (11, 1), (43, 1), (127, 1), (3023, 1), (191039911, 1)] : List (Nat × Nat)), Pr x.1 := (hl_cons pr2 (hl_cons pr3 (hl_cons pr11 (hl_cons pr43 (hl_cons pr127 (hl_cons pr3023 (hl_cons pr191039911 hl_nil)))))))
theorem pr208150935158385979 : Pr 208150935158385979 := pr_of good208150935158385979 all208150935158385979
theorem good2624747550333869278416773953 : good 2624747550333869278416773953 7 [(2, 6), (3, 2), (1297, 1), (16879, 1), (208150935158385979, 1)] = true := by decide +kernel
theorem all2624747550333869278416773953 : ∀ x ∈ ([(2, 6), (3, 2), (1297, 1), (16879, 1), (208150935158385979, 1)] : List (Nat × Nat)), Pr x.1 := (hl_cons pr2 (hl_cons pr3 (hl_cons pr1297 (hl_cons pr16879 (hl_cons pr208150935158385979 hl_nil)))))
theorem pr2624747550333869278416773953 : Pr 2624747550333869278416773953 := pr_of good2624747550333869278416773953 all2624747550333869278416773953
theorem good115792089210356248762697446949407573529996955224135760342422259061068512044369 : good 115792089210356248762697446949407573529996955224135760342422259061068512044369 7 [(2, 4), (3, 1), (71, 1), (131, 1), (373, 1), (3407, 1), (17449, 1), (38189, 1), (187019741, 1), (622491383, 1), (1002328039319, 1), (2624747550333869278416773953, 1)] = true := by decide +kernel
theorem all115792089210356248762697446949407573529996955224135760342422259061068512044369 : ∀ x ∈ ([(2, 4), (3, 1), (71, 1), (131, 1), (373, 1), (3407, 1), (17449, 1), (38189, 1), (187019741, 1), (622491383, 1), (1002328039319, 1), (2624747550333869278416773953, 1)] : List (Nat × Nat)), Pr x.1 := (hl_cons pr2 (hl_cons pr3 (hl_cons pr71 (hl_cons pr131 (hl_cons pr373 (hl_cons pr3407 (hl_cons pr17449 (hl_cons pr38189 (hl_cons pr187019741 (hl_cons pr622491383 (hl_cons pr1002328039319 (hl_cons pr2624747550333869278416773953 hl_nil))))))))))))
end ChPr
namespace ChEC
open ChPr
theorem val_of_mul {M : Nat} [NeZero M] (a b : Fin M) : (a * b).val = a.val * b.val % M := Fin.val_mul a b
theorem dom_of {M g : Nat} [NeZero M] {l : List (Nat × Nat)} (h : good M g l = true) (hl : ∀ x ∈ l, Pr x.1) : Dom M := by
 have hp := pr_of h hl
 have h2 := hp.1
 refine ⟨fun h1 => ?_, fun a b hab => ?_, fun a ha => ?_⟩
 ·have : (1 % M : Nat) = 0 := congrArg Fin.val h1
  rw [Nat.mod_eq_of_lt (by omega)] at this; cases this
 ·have h0 : a.val * b.val % M = 0 := by rw [← val_of_mul, hab]; rfl
  rcases hp.2 _ _ (Nat.dvd_of_mod_eq_zero h0) with h | h
  ·left; apply Fin.ext; exact Nat.eq_zero_of_dvd_of_lt h a.isLt
  ·right; apply Fin.ext; exact Nat.eq_zero_of_dvd_of_lt h b.isLt
 ·have h0 : a.val % M ≠ 0 := by
   rw [Nat.mod_eq_of_lt a.isLt]; intro h; exact ha (Fin.ext h)
  have h1 := inv_pow h hl a.val h0
  apply Fin.ext
  rw [val_of_mul]
  show a.val * (a.val ^ (M - 2) % M) % M = 1 % M
  rw [Nat.mul_mod, Nat.mod_mod, ← Nat.mul_mod, h1, Nat.mod_eq_of_lt (by omega)]
def PP : Nat := 115792089210356248762697446949407573530086143415290314195533631308867097853951
instance nePP : NeZero PP := ⟨by unfold PP; decide⟩
theorem domPP : Dom PP := dom_of good115792089210356248762697446949407573530086143415290314195533631308867097853951 all115792089210356248762697446949407573530086143415290314195533631308867097853951
end ChEC
/- P-256: numbers as elements of the field; no point of order two. -/
namespace ChEC
section
variable {M : Nat} [NeZero M]
def ph (x : Nat) : Fin M := Fin.ofNat M x
theorem ph_mod (x : Nat) : (ph (x % M) : Fin M) = ph x := by
 apply Fin.ext; show x % M % M = x % M; exact Nat.mod_mod ..
theorem ph_add (x y : Nat) : (ph (x + y) : Fin M) = ph x + ph y := by
 apply Fin.ext; rw [Fin.val_add]; show (x + y) % M = (x % M + y % M) % M; rw [Nat.add_mod]
theorem ph_mul (x y : Nat) : (ph (x * y) : Fin M) = ph x * ph y := by
 apply Fin.ext; rw [Fin.val_mul]; show (x * y) % M = (x % M * (y % M)) % M; rw [Nat.mul_mod]
theorem ph_zero : (ph 0 : Fin M) = 0 := rfl
theorem ph_one : (ph 1 : Fin M) = 1 := rfl
theorem ph_self : (ph M : Fin M) = 0 := by apply Fin.ext; show M % M = 0 % M; rw [Nat.mod_self, Nat.zero_mod]
theorem ph_three : (ph 3 : Fin M) = 3 := rfl
theorem ph_neg {b : Nat} (h : b ≤ M) : (ph (M - b) : Fin M) = -ph b := by
 have e : (ph (M - b) : Fin M) + ph b = 0 := by rw [← ph_add, Nat.sub_add_cancel h, ph_self]
 grind
theorem ph_inj {x y : Nat} (hx : x < M) (hy : y < M) (h : (ph x : Fin M) = ph y) : x = y := by
 have : x % M = y % M := congrArg Fin.val h
 rw [Nat.mod_eq_of_lt hx, Nat.mod_eq_of_lt hy] at this; exact this
theorem ph_val (a : Fin M) : ph a.val = a := by apply Fin.ext; exact Nat.mod_eq_of_lt a.isLt
theorem fpw_ph (x : Nat) (n : Nat) : fpw (ph x : Fin M) n = ph (x ^ n) := by
 induction n with
 | zero => simp only [fpw, Nat.pow_zero]; exact ph_one.symm
 | succ n ih => rw [fpw, ih, ← ph_mul, Nat.pow_succ]
theorem fermat [Dom M] (h2 : 2 ≤ M) (a : Fin M) : fpw a M = a := by
 have e : fpw a M = fpw a (M - 2) * (a * a) := by
  have : fpw a M = fpw a (M - 2 + 2) := by rw [Nat.sub_add_cancel h2]
  rw [this, fpw_add]; simp only [fpw]; grind
 rw [e]
 by_cases h : a = 0
 ·rw [h]; grind
 ·have hi := Dom.inv a h
  have hf : fi a = fpw a (M - 2) := by
   conv => rhs; rw [← ph_val a, fpw_ph]
   rfl
  rw [hf] at hi; grind
abbrev N3 := Nat × Nat × Nat
def mulT (p nb : Nat) (s t : N3) : N3 :=
 let c3 := s.2.1 * t.2.2 + s.2.2 * t.2.1
 let c4 := s.2.2 * t.2.2
 ((s.1 * t.1 + nb * c3) % p, (s.1 * t.2.1 + s.2.1 * t.1 + 3 * c3 + nb * c4) % p, (s.1 * t.2.2 + s.2.1 * t.2.1 + s.2.2 * t.1 + 3 * c4) % p)
def powT (p nb : Nat) : Nat → N3 → Nat → N3
 | 0, _, _ => (1, 0, 0)
 | f + 1, s, e => bif Nat.beq (e % 2) 1 then mulT p nb s (powT p nb f (mulT p nb s s) (e / 2)) else powT p nb f (mulT p nb s s) (e / 2)
def ev (a : Fin M) (t : N3) : Fin M := ph t.1 + ph t.2.1 * a + ph t.2.2 * (a * a)
theorem ev_one (a : Fin M) : ev a (1, 0, 0) = 1 := by simp only [ev, ph_zero, ph_one]; grind
theorem ev_x (a : Fin M) : ev a (0, 1, 0) = a := by simp only [ev, ph_zero, ph_one]; grind
theorem mul_zero' (a : Fin M) : a * 0 = 0 := by grind
theorem ev_mul {a : Fin M} {nb : Nat} (h : a * a * a = 3 * a + ph nb) (s t : N3) : ev a (mulT M nb s t) = ev a s * ev a t := by
 simp only [ev, mulT, ph_mod, ph_add, ph_mul, ph_three]
 grind
theorem ev_pow {a : Fin M} {nb : Nat} (h : a * a * a = 3 * a + ph nb) : ∀ (f : Nat) (s : N3) (e : Nat), e < 2 ^ f → ev a (powT M nb f s e) = fpw (ev a s) e := by
 intro f
 induction f with
 | zero =>
  intro s e he
  have : e = 0 := by simpa using he
  subst this
  simp only [powT, ev, fpw, ph_one, ph_zero]; grind
 | succ f ih =>
  intro s e he
  have h2 : e / 2 < 2 ^ f := by rw [Nat.pow_succ] at he; omega
  have hs : fpw (ev a s * ev a s) (e / 2) = fpw (ev a s) (2 * (e / 2)) := by
   generalize ev a s = x
   generalize e / 2 = n
   induction n with
   | zero => rfl
   | succ n ihn => rw [fpw, ihn, show 2 * (n + 1) = 2 * n + 1 + 1 by omega]; simp only [fpw]; grind
  simp only [powT]
  rcases Nat.mod_two_eq_zero_or_one e with h0 | h0
  ·rw [h0]
   show ev a (powT M nb f (mulT M nb s s) (e / 2)) = _
   rw [ih _ _ h2, ev_mul h, hs]
   congr 1; omega
  ·rw [h0]
   show ev a (mulT M nb s (powT M nb f (mulT M nb s s) (e / 2))) = _
   rw [ev_mul h, ih _ _ h2, ev_mul h, hs]
   have e1 : e = 2 * (e / 2) + 1 := by omega
   conv => rhs; rw [e1, fpw]
   grind
end
def bP : Nat := 41058363725152142129326129780047268409114441015993725554835256314039467401291
def nbP : Nat := 74733725485204106633371317169360305120971702399296588640698374994827630452660
def rT : N3 := (66434390973925144466073271287821796038003695194169110494110089305650096453661, 12402202686218762177567235911775779164004716598278868847786114277539554646092, 24678849118215552148312087830792888746041224110560601850711771001608500700145)
def dT : N3 := (66434390973925144466073271287821796038003695194169110494110089305650096453661, 12402202686218762177567235911775779164004716598278868847786114277539554646091, 24678849118215552148312087830792888746041224110560601850711771001608500700145)
def vT : N3 := (76626890310466861426869089647039036757962535851890885406097439786770458211455, 74462945259064871768191128030512052509059297803194871526163573358218695456204, 34768139465301476436978405170953382516735956999154666452188405812258086013549)
def eqT (s t : N3) : Bool := Nat.beq s.1 t.1 && Nat.beq s.2.1 t.2.1 && Nat.beq s.2.2 t.2.2
theorem eqT_eq {s t : N3} (h : eqT s t = true) : s = t := by
 obtain ⟨a, b, c⟩ := s
 obtain ⟨x, y, z⟩ := t
 simp only [eqT, Bool.and_eq_true, Nat.beq_eq] at h
 obtain ⟨⟨h1, h2⟩, h3⟩ := h
 rw [h1, h2, h3]
theorem pow_rT : eqT (powT PP nbP 256 (0, 1, 0) PP) rT = true := by decide +kernel
theorem inv_dT : eqT (mulT PP nbP vT dT) (1, 0, 0) = true := by decide +kernel
theorem dT_rT : (Nat.beq dT.1 rT.1 && Nat.beq ((dT.2.1 + 1) % PP) (rT.2.1 % PP) && Nat.beq dT.2.2 rT.2.2) = true := by decide +kernel
theorem goodP : Good (ph bP : Fin PP) := by
 haveI := domPP
 have hM : 2 ≤ PP := Nat.le_of_ble_eq_true (by decide +kernel)
 refine ⟨fun h => ?_, fun a h => ?_⟩
 ·have : 2 % PP = 0 := congrArg Fin.val h
  rw [Nat.mod_eq_of_lt (Nat.le_of_ble_eq_true (by decide +kernel))] at this; cases this
 ·have hnb : (ph nbP : Fin PP) = -ph bP := by
   have : nbP = PP - bP := Nat.eq_of_beq_eq_true (by decide +kernel)
   rw [this]; exact ph_neg (Nat.le_of_ble_eq_true (by decide +kernel))
  have hc : a * a * a = 3 * a + ph nbP := by rw [hnb]; grind
  have h1 := ev_pow hc 256 (0, 1, 0) PP (Nat.le_of_ble_eq_true (by decide +kernel))
  rw [eqT_eq pow_rT] at h1
  rw [ev_x, fermat hM] at h1
  have hd : ev a dT = 0 := by
   have hr := dT_rT
   simp only [Bool.and_eq_true, Nat.beq_eq] at hr
   obtain ⟨⟨d1, d2⟩, d3⟩ := hr
   have d2' : (ph dT.2.1 : Fin PP) + 1 = ph rT.2.1 := by
    rw [← ph_one, ← ph_add, ← ph_mod, d2, ph_mod]
   simp only [ev, d1, d3] at h1 ⊢
   grind
  have h2 := ev_mul hc vT dT
  rw [eqT_eq inv_dT, hd] at h2
  rw [ev_one, mul_zero'] at h2
  exact Dom.one h2
end ChEC
/- The order's field. -/
namespace ChEC
open ChPr
def NN : Nat := 115792089210356248762697446949407573529996955224135760342422259061068512044369
instance neNN : NeZero NN := ⟨by unfold NN; decide⟩
instance domNN : Dom NN := dom_of good115792089210356248762697446949407573529996955224135760342422259061068512044369 all115792089210356248762697446949407573529996955224135760342422259061068512044369
theorem sum1 {M : Nat} [NeZero M] [Dom M] {z r d k s t : Fin M} (hk : k ≠ 0) (hs : s = (z + r * d) * fi k) (hs0 : s ≠ 0) (ht : t = -s) : z * fi t + r * fi t * d = -k := by
 have h1 := Dom.inv k hk
 have ht0 : t ≠ 0 := fun e => hs0 (by rw [e] at ht; grind)
 have h2 := Dom.inv t ht0
 have e1 : z + r * d = s * k := by rw [hs]; grind
 have e2 : z * fi t + r * fi t * d = (z + r * d) * fi t := by grind
 rw [e2, e1]
 have e3 : s = -t := by rw [ht]; grind
 rw [e3]; grind
theorem sum2 {M : Nat} [NeZero M] [Dom M] {z r d k s : Fin M} (hk : k ≠ 0) (hs : s = (z + r * d) * fi k) (hs0 : s ≠ 0) : z * fi s + r * fi s * d = k := by
 have h1 := Dom.inv k hk
 have h2 := Dom.inv s hs0
 have e1 : z + r * d = s * k := by rw [hs]; grind
 have e2 : z * fi s + r * fi s * d = (z + r * d) * fi s := by grind
 rw [e2, e1]; grind
theorem pneg_of {M : Nat} [NeZero M] [Dom M] {b : Fin M} (g : Good b) {P Q : Pt (Fin M)} (hP : On b P) (hQ : On b Q) (h : padd P Q = .O) : Q = pneg P := by
 have h2 : padd (pneg P) (padd P Q) = padd (pneg P) .O := by rw [h]
 rw [← padd_assoc g (on_neg hP) hP hQ, padd_comm g (on_neg hP) hP, padd_neg g hP, O_padd, padd_O] at h2
 exact h2
theorem fi_mul' {M : Nat} [NeZero M] [Dom M] {a : Fin M} (h : a ≠ 0) : fi a * a = 1 := by
 have := Dom.inv a h; grind
end ChEC
/- From a function's contract to a call at the top. -/
namespace Go.Ab
open Go Go.Chr Go.RowKit
theorem calls_of_outs {P : Program} {f : FuncId} {vs : List Value} {w : World} {R : Value → World → Prop} (hfn : (P.funcs[f]?).map (fun fn => (fn.name == "runtime.NumGoroutine", fn.body.isSome)) = some (false, true))
  (h : CallOuts P f vs w R) : Calls P f vs.toArray w fun e w' => ∃ u, e = .returned u ∧ R u w' := by
 unfold CallOuts at h
 rw [run_call w hfn] at h
 refine Calls.mono h ?_
 intro e w' he
 cases e with
 | returned u => exact ⟨u, rfl, he⟩
 | panicked c => exact he.elim
 | outgrown => exact he.elim
theorem top_calls {C : Ctx} {f : FuncId} {F : FSpec} {modes : List Bool} {args : List AV} {v : AV} {N : Nat → Prop} {w : World} {vs : List Value} (hF : FnOk C f F)
  (hfn : (C.P.funcs[f]?).map (fun fn => (fn.name == "runtime.NumGoroutine", fn.body.isSome)) = some (false, true)) (hE : Env C N w) (hv : valsRel (fun _ => none) N w args vs)
  (hk : ∀ k : OpR → Prop, lift modes F args [] 0 k = k ⟨v, [], [], []⟩) :
  Calls C.P f vs.toArray w fun e w' => ∃ u, e = .returned u ∧ (∃ ι' N', v.val ι' N' w' u) ∧ Below w.heap.size w w' := by
 obtain ⟨r, h1, -, -, hr, h2, h3, h4⟩ := (lift_ok hF modes).ok args [] 0 (fun r => r.val = v ∧ r.rds = [] ∧ r.upd = [] ∧ r.news = []) (by rw [hk]; exact ⟨rfl, rfl, rfl, rfl⟩)
 have hpre : Pre C (fun _ => none) N w 0 r := by
  refine ⟨hE, ?_, ?_, ?_⟩
  ·rw [h2]; intro p hp; cases hp
  ·rw [h2]; intro p hp; cases hp
  ·intro j hj; rfl
 refine Calls.mono (calls_of_outs hfn (h1 (fun _ => none) N w vs hpre hv)) ?_
 rintro e w' ⟨u, rfl, ι', N', hp, hu⟩
 rw [hr] at hu
 refine ⟨u, rfl, ⟨ι', N', hu⟩, hp.frame.to_below fun k hk => ?_⟩
 obtain ⟨p, hp, _⟩ := hk
 rw [h3] at hp; cases hp
theorem laid_at {P : Program} {w : World} {n : String} {d : DataW Unit} : ∀ {l : List (String × DataW Unit)} {ps : List MemPlace}, DataW.LaidVars P w l ps → (n, d) ∈ l →
  ∃ g t cs fuel p, P.globalNamed n = some g ∧ (P.globals[g]?).map (·.type) = some t ∧ w.var? P n = some cs ∧ DataW.trod (fun _ => ()) P w 0 (fun _ => true) false fuel t cs.toList = some (d, p)
 | [], _, _, hm => by cases hm
 | (n', d') :: r, ps, h, hm => by
  obtain ⟨g, t, cs, fuel, p, q, h1, h2, h3, h4, h5, _⟩ := h
  rcases List.mem_cons.1 hm with e | hm
  ·injection e with e1 e2
   subst e1; subst e2
   exact ⟨g, t, cs, fuel, p, h1, h2, h3, h4⟩
  ·exact laid_at h5 hm
theorem laid_blk {P : Program} {w : World} {n : String} {cs : Array Value} {g : Nat} {t : TypeId} (hg : P.globalNamed n = some g) (hv : w.var? P n = some cs) (hsh : w.ShapedOpen P) (hlt : g < P.globals.size)
  (h0 : (((begin P (fun _ _ => 0) default).world.heap[g]?).bind Obj.row?).map Prod.snd = some t) : w.heap[g]? = some (.cells cs t (0, 0)) := by
 obtain ⟨⟨zero, t'⟩, h0', e⟩ := Option.map_eq_some_iff.1 h0
 dsimp only at e
 subst e
 obtain ⟨cs', h1, _⟩ := hsh.1 g zero t' hlt h0'
 unfold World.var? at hv
 rw [hg, Option.bind_some, h1] at hv
 injection hv with hv
 rw [h1, hv]
end Go.Ab
