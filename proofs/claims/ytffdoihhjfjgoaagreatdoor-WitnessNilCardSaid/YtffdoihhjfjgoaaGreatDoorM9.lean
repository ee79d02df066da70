import Derived.Test.YtffdoihhjfjgoaaGreatDoorRows
import Derived.Test.YtffdoihhjfjgoaaGreatDoorM7
import Derived.WalkKit
import Derived.Shelf.Spec.BitsCarry
import Derived.Test.YtffdoihhjfjgoaaGreatDoorM1
import Derived.WalkSpells
import Derived.WalkLawsBesides
import Derived.Lib.Hide
import Derived.Deep.QuietTactic
import Derived.BigQuiet
import Derived.StillTailTactics
import Derived.Deep.RegionHeld3
/- The program's variables, as the walks read them; what the model has of carries. -/
namespace Go.Proofs.YtffdoihhjfjgoaaGreatDoor
open Go Go.Ab Go.RowKit Go.Chr
set_option maxRecDepth 100000
def mC (m s : Nat) (v : Int) : CV := .pr (.nat two256 m) (.pr (.nat two256 s) (.pr (.int .u64 v) .nl))
noncomputable def mK (k : Int) : CV := mC (fmod k) (fsq k) (fiv k)
noncomputable def modC : CV := .pr (mK 0) (.pr (mK 1) (.pr (mK 2) (.pr (mK 3) .nl)))
def cvB : Nat := 41058363725152142129326129780047268409114441015993725554835256314039467401291
def shaH : List Int := [0x6a09e667, 0xbb67ae85, 0x3c6ef372, 0xa54ff53a, 0x510e527f, 0x9b05688c, 0x1f83d9ab, 0x5be0cd19]
def shaK : List Int := [
 0x428a2f98, 0x71374491, 0xb5c0fbcf, 0xe9b5dba5, 0x3956c25b, 0x59f111f1, 0x923f82a4, 0xab1c5ed5,
 0xd807aa98, 0x12835b01, 0x243185be, 0x550c7dc3, 0x72be5d74, 0x80deb1fe, 0x9bdc06a7, 0xc19bf174,
 0xe49b69c1, 0xefbe4786, 0x0fc19dc6, 0x240ca1cc, 0x2de92c6f, 0x4a7484aa, 0x5cb0a9dc, 0x76f988da,
 0x983e5152, 0xa831c66d, 0xb00327c8, 0xbf597fc7, 0xc6e00bf3, 0xd5a79147, 0x06ca6351, 0x14292967,
 0x27b70a85, 0x2e1b2138, 0x4d2c6dfc, 0x53380d13, 0x650a7354, 0x766a0abb, 0x81c2c92e, 0x92722c85,
 0xa2bfe8a1, 0xa81a664b, 0xc24b8b70, 0xc76c51a3, 0xd192e819, 0xd6990624, 0xf40e3585, 0x106aa070,
 0x19a4c116, 0x1e376c08, 0x2748774c, 0x34b0bcb5, 0x391c0cb3, 0x4ed8aa4a, 0x5b9cca4f, 0x682e6ff3,
 0x748f82ee, 0x78a5636f, 0x84c87814, 0x8cc70208, 0x90befffa, 0xa4506ceb, 0xbef9a3f7, 0xc67178f2]
def sha5H : List Int := [0x6a09e667f3bcc908, 0xbb67ae8584caa73b, 0x3c6ef372fe94f82b, 0xa54ff53a5f1d36f1, 0x510e527fade682d1, 0x9b05688c2b3e6c1f, 0x1f83d9abfb41bd6b, 0x5be0cd19137e2179]
def sha5K : List Int := [0x428a2f98d728ae22, 0x7137449123ef65cd, 0xb5c0fbcfec4d3b2f, 0xe9b5dba58189dbbc, 0x3956c25bf348b538, 0x59f111f1b605d019, 0x923f82a4af194f9b, 0xab1c5ed5da6d8118, 0xd807aa98a3030242, 0x12835b0145706fbe, 0x243185be4ee4b28c, 0x550c7dc3d5ffb4e2, 0x72be5d74f27b896f, 0x80deb1fe3b1696b1, 0x9bdc06a725c71235, 0xc19bf174cf692694, 0xe49b69c19ef14ad2, 0xefbe4786384f25e3, 0x0fc19dc68b8cd5b5, 0x240ca1cc77ac9c65, 0x2de92c6f592b0275, 0x4a7484aa6ea6e483, 0x5cb0a9dcbd41fbd4, 0x76f988da831153b5, 0x983e5152ee66dfab, 0xa831c66d2db43210, 0xb00327c898fb213f, 0xbf597fc7beef0ee4, 0xc6e00bf33da88fc2, 0xd5a79147930aa725, 0x06ca6351e003826f, 0x142929670a0e6e70, 0x27b70a8546d22ffc, 0x2e1b21385c26c926, 0x4d2c6dfc5ac42aed, 0x53380d139d95b3df, 0x650a73548baf63de, 0x766a0abb3c77b2a8, 0x81c2c92e47edaee6, 0x92722c851482353b, 0xa2bfe8a14cf10364, 0xa81a664bbc423001, 0xc24b8b70d0f89791, 0xc76c51a30654be30, 0xd192e819d6ef5218, 0xd69906245565a910, 0xf40e35855771202a, 0x106aa07032bbd1b8, 0x19a4c116b8d2d0c8, 0x1e376c085141ab53, 0x2748774cdf8eeb99, 0x34b0bcb5e19b48a8, 0x391c0cb3c5c95a63, 0x4ed8aa4ae3418acb, 0x5b9cca4f7763e373, 0x682e6ff3d6b2b8a3, 0x748f82ee5defb2fc, 0x78a5636f43172f60, 0x84c87814a1f0ab72, 0x8cc702081a6439ec, 0x90befffa23631e28, 0xa4506cebde82bde9, 0xbef9a3f7b2c67915, 0xc67178f2e372532b, 0xca273eceea26619c, 0xd186b8c721c0c207, 0xeada7dd6cde0eb1e, 0xf57d4f7fee6ed178, 0x06f067aa72176fba, 0x0a637dc5a2c898a6, 0x113f9804bef90dae, 0x1b710b35131c471b, 0x28db77f523047d84, 0x32caab7b40c72493, 0x3c9ebe0a15c9bebc, 0x431d67c49c100d4c, 0x4cc5d4becb3e42b6, 0x597f299cfc657e2a, 0x5fcb6fab3ad6faec, 0x6c44198c4a475817]
def edD : Nat := 37095705934669439343138083508754565189542113879843219016388785533085940283555
def edT : Nat := 16295367250680780974490674513165176452449235426866156013048779062215315747161
def edR : Nat := 19681161376707505956807079304988542015446066515923890162744021073123829784752
def edX : Nat := 15112221349535400772501151409588531511454012693041857206046113283949847762202
def edY : Nat := 46316835694926478169428394003475163141307993866256225615783033603165251855960
def quadC (x y z t : Nat) : CV := .pr (.nat two256 x) (.pr (.nat two256 y) (.pr (.nat two256 z) (.pr (.nat two256 t) .nl)))
def gBlk (t : TypeId) (n : Nat) (v : CV) : Blk' := .cells t n (.els [.c v])
noncomputable def CX : Ctx := ⟨Tryz.prog, [
 (5, gBlk 331 36 modC),
 (3, gBlk 45 4 (.nat two256 1)),
 (4, gBlk 45 4 (.nat two256 cvB)),
 (7, gBlk 255 8 (.arr .u32 8 shaH)),
 (11, gBlk 292 64 (.arr .u32 64 shaK)),
 (6, gBlk 335 8 (.arr .u64 8 sha5H)),
 (10, gBlk 353 80 (.arr .u64 80 sha5K)),
 (0, gBlk 45 4 (.nat two256 1)),
 (1, gBlk 45 4 (.nat two256 edD)),
 (9, gBlk 45 4 (.nat two256 edT)),
 (8, gBlk 45 4 (.nat two256 edR)),
 (2, gBlk 308 16 (quadC 0 1 1 0))]⟩
theorem hmo : CX.P.follows .mixedOrders = true := by kernel_rfl
theorem CX_P : CX.P = Tryz.prog := by kernel_rfl
theorem cs3i {N : Nat → Prop} {w : World} {k : IntKind} {a b c : Int} {vs : List Value} (h : cvsRel N w [.int k a, .int k b, .int k c] vs) : vs = [.int k a, .int k b, .int k c] ∧ okI k a ∧ okI k b ∧ okI k c := by
 obtain ⟨u1, v1, rfl, ⟨h1, g1⟩, u2, v2, rfl, ⟨h2, g2⟩, u3, v3, rfl, ⟨h3, g3⟩, rfl⟩ := h
 injection h1 with h1; injection h2 with h2; injection h3 with h3
 subst h1; subst h2; subst h3
 exact ⟨rfl, g1, g2, g3⟩
noncomputable def a64S : CSpec := fun cs => match cs with
 | [.int .u64 x, .int .u64 y, .int .u64 c] => some (some (0 ≤ c ∧ c ≤ 1), .t2 (.c (.int .u64 (a64 x y c))) (.c (.int .u64 (k64 x y c))))
 | _ => none
noncomputable def s64S : CSpec := fun cs => match cs with
 | [.int .u64 x, .int .u64 y, .int .u64 c] => some (some (0 ≤ c ∧ c ≤ 1), .t2 (.c (.int .u64 (s64 x y c))) (.c (.int .u64 (b64 x y c))))
 | _ => none
theorem t2_ints {N : Nat → Prop} {w : World} {a b : Int} (ha : 0 ≤ a ∧ a < 18446744073709551616) (hb : 0 ≤ b ∧ b < 18446744073709551616) : (AV.t2 (.c (.int .u64 a)) (.c (.int .u64 b))).val (fun _ => none) N w (.tuple #[.int .u64 a, .int .u64 b]) :=
 ⟨_, _, rfl, ⟨rfl, okI_u64.2 ha⟩, ⟨rfl, okI_u64.2 hb⟩⟩
theorem run_a64 (x y c : Nat) (h1 : x < 18446744073709551616) (h2 : y < 18446744073709551616) (h3 : c ≤ 1) (w : World) :
  (callFunc 321 #[.int .u64 x, .int .u64 y, .int .u64 c]).run Tryz.prog w = .ok (.value (.tuple #[.int .u64 (a64 x y c), .int .u64 (k64 x y c)])) w := by
 rw [run_callFunc_extern Tryz.func321 (by kernel_rfl) (by kernel_rfl) (by kernel_rfl) (e := add64Entry) (by kernel_rfl), run_add64 x y c (by omega) (by omega) (by omega) (by omega)]
 rfl
theorem run_s64 (x y b : Nat) (h1 : x < 18446744073709551616) (h2 : y < 18446744073709551616) (h3 : b ≤ 1) (w : World) :
  (callFunc 294 #[.int .u64 x, .int .u64 y, .int .u64 b]).run Tryz.prog w = .ok (.value (.tuple #[.int .u64 (s64 x y b), .int .u64 (b64 x y b)])) w := by
 have e1 : (((x + 18446744073709551616 - y - b) % 18446744073709551616 : Nat) : Int) = s64 x y b := by unfold s64; omega
 have e2 : ((if x < y + b then 1 else 0 : Nat) : Int) = b64 x y b := by unfold b64 bor; split <;> split <;> omega
 rw [← e1, ← e2]
 rw [run_callFunc_extern Tryz.func294 (by kernel_rfl) (by kernel_rfl) (by kernel_rfl) (e := sub64Entry) (by kernel_rfl), run_sub64 x y b (by omega)]
 rfl
theorem carry_c {C : Ctx} {f : FuncId} {g h : Int → Int → Int → Int} (hr : ∀ (x y c : Nat), x < 18446744073709551616 → y < 18446744073709551616 → c ≤ 1 → ∀ w, (callFunc f #[.int .u64 x, .int .u64 y, .int .u64 c]).run C.P w = .ok (.value (.tuple #[.int .u64 (g x y c), .int .u64 (h x y c)])) w)
  (hg : ∀ x y c : Nat, x < 18446744073709551616 → y < 18446744073709551616 → c ≤ 1 → (0 ≤ g x y c ∧ g x y c < 18446744073709551616) ∧ (0 ≤ h x y c ∧ h x y c < 18446744073709551616)) {F : CSpec}
  (hF : ∀ cs p v, F cs = some (p, v) → ∃ x y c : Int, cs = [.int .u64 x, .int .u64 y, .int .u64 c] ∧ p = some (0 ≤ c ∧ c ≤ 1) ∧ v = .t2 (.c (.int .u64 (g x y c))) (.c (.int .u64 (h x y c)))) : CallOk C f F := by
 refine callOk_value fun cs p v hv hp N w vs hvs => ?_
 obtain ⟨x, y, c, rfl, rfl, rfl⟩ := hF cs p v hv
 obtain ⟨rfl, hx, hy, _⟩ := cs3i hvs
 obtain ⟨h0, h1⟩ : 0 ≤ c ∧ c ≤ 1 := hp
 obtain ⟨x0, x1⟩ := okI_u64.1 hx
 obtain ⟨y0, y1⟩ := okI_u64.1 hy
 obtain ⟨x, rfl⟩ := Int.eq_ofNat_of_zero_le x0
 obtain ⟨y, rfl⟩ := Int.eq_ofNat_of_zero_le y0
 obtain ⟨c, rfl⟩ := Int.eq_ofNat_of_zero_le h0
 obtain ⟨g1, g2⟩ := hg x y c (by omega) (by omega) (by omega)
 exact ⟨_, hr x y c (by omega) (by omega) (by omega) w, t2_ints g1 g2⟩
theorem a64_at (cs : List CV) (p : Option Prop) (v : AV) (hF : a64S cs = some (p, v)) : ∃ x y c : Int, cs = [.int .u64 x, .int .u64 y, .int .u64 c] ∧ p = some (0 ≤ c ∧ c ≤ 1) ∧ v = .t2 (.c (.int .u64 (a64 x y c))) (.c (.int .u64 (k64 x y c))) := by
 unfold a64S at hF
 split at hF
 ·injection hF with hF; injection hF with e1 e2; subst e1; subst e2
  exact ⟨_, _, _, rfl, rfl, rfl⟩
 ·cases hF
theorem s64_at (cs : List CV) (p : Option Prop) (v : AV) (hF : s64S cs = some (p, v)) : ∃ x y c : Int, cs = [.int .u64 x, .int .u64 y, .int .u64 c] ∧ p = some (0 ≤ c ∧ c ≤ 1) ∧ v = .t2 (.c (.int .u64 (s64 x y c))) (.c (.int .u64 (b64 x y c))) := by
 unfold s64S at hF
 split at hF
 ·injection hF with hF; injection hF with e1 e2; subst e1; subst e2
  exact ⟨_, _, _, rfl, rfl, rfl⟩
 ·cases hF
theorem a64_bd (x y c : Nat) (_ : x < 18446744073709551616) (_ : y < 18446744073709551616) (_ : c ≤ 1) : (0 ≤ a64 x y c ∧ a64 x y c < 18446744073709551616) ∧ (0 ≤ k64 x y c ∧ k64 x y c < 18446744073709551616) := by unfold a64 k64; omega
theorem s64_bd (x y c : Nat) (_ : x < 18446744073709551616) (_ : y < 18446744073709551616) (_ : c ≤ 1) : (0 ≤ s64 x y c ∧ s64 x y c < 18446744073709551616) ∧ (0 ≤ b64 x y c ∧ b64 x y c < 18446744073709551616) :=
 ⟨by unfold s64; omega, by unfold b64 bor; split <;> omega⟩
theorem a64_c : CallOk CX 321 a64S := by
 refine @carry_c CX 321 a64 k64 ?_ ?_ a64S ?_
 ·rw [CX_P]; exact @run_a64
 ·exact @a64_bd
 ·exact @a64_at
theorem s64_c : CallOk CX 294 s64S := by
 refine @carry_c CX 294 s64 b64 ?_ ?_ s64S ?_
 ·rw [CX_P]; exact @run_s64
 ·exact @s64_bd
 ·exact @s64_at
def GE : Tab := []
theorem GE_ok : TabOk CX GE := .nil
noncomputable def GX : Tab := [(321, flatC a64S), (294, flatC s64S)]
theorem GX_ok : TabOk CX GX := .cons (flatC_ok a64_c) <| .cons (flatC_ok s64_c) .nil
end Go.Proofs.YtffdoihhjfjgoaaGreatDoor
/- The layer limb. -/
namespace Go.Proofs.YtffdoihhjfjgoaaGreatDoor
open Go Go.Ab Go.RowKit Go.Chr
set_option maxRecDepth 100000
def oN (r : List Int) (c : Int) : Option Out := some ⟨.t2 (.c (.nat two256 (natOf r))) (.c (.bool (c != 0))), [], []⟩
def oP (a b : Int) : Option Out := some ⟨.t2 (.c (.int .u64 a)) (.c (.int .u64 b)), [], []⟩
def oZ (z : Nat) (b : Bool) : Option Out := some ⟨.t2 (.c (.nat two256 z)) (.c (.bool b)), [], []⟩
noncomputable def lAddS : FSpec := fun xs bl => match xs, bl with
 | [.c (.nat mm1 x), .c (.nat mm2 y)], [] => bif Nat.beq mm1 two256 && Nat.beq mm2 two256 then some (none, ⟨.t2 (.c (.nat two256 (ladd x y))) (.c (.bool (lover x y))), [], []⟩) else none
 | _, _ => none
theorem lAdd_ok : FnOk CX 292 lAddS := by
 refine fnOkF hmo GX_ok (fn := Tryz.f292) (c := bodyOf' Tryz.f292) (by kernel_rfl) (by kernel_rfl) (by kernel_rfl) ?_
 intro xs bl p o hF hp
 unfold lAddS at hF
 split at hF
 ·rename_i mm1 x mm2 y
  obtain ⟨hg, hF⟩ := guard_some hF
  simp only [Bool.and_eq_true] at hg
  have hg0 := beqN hg.1
  have hg1 := beqN hg.2
  subst hg0; subst hg1
  injection hF with hF; injection hF with e1 e2; subst e1; subst e2
  refine ⟨Nat.le_of_ble_eq_true (by kernel_rfl), fun X hX hfa => ⟨[], 999, ?_⟩⟩
  refine ⟨cO 0 ∧ cO (kA x y 1) ∧ cO (kA x y 2) ∧ cO (kA x y 3) ∧ oN (aL x y) (kA x y 4) = oZ (ladd x y) (lover x y), by kernel_rfl, ?_⟩
  obtain ⟨e1, e2⟩ := add_limbs (hfa.sl 0 _ rfl).1.1 (hfa.sl 1 _ rfl).1.1
  rw [← e1, ← e2]
  exact ⟨kA_bd x y 0, kA_bd _ _ _, kA_bd _ _ _, kA_bd _ _ _, rfl⟩
 ·cases hF
noncomputable def lSubS : FSpec := fun xs bl => match xs, bl with
 | [.c (.nat mm1 x), .c (.nat mm2 y)], [] => bif Nat.beq mm1 two256 && Nat.beq mm2 two256 then some (none, ⟨.t2 (.c (.nat two256 (lsub x y))) (.c (.bool (lless x y))), [], []⟩) else none
 | _, _ => none
theorem lSub_ok : FnOk CX 199 lSubS := by
 refine fnOkF hmo GX_ok (fn := Tryz.f199) (c := bodyOf' Tryz.f199) (by kernel_rfl) (by kernel_rfl) (by kernel_rfl) ?_
 intro xs bl p o hF hp
 unfold lSubS at hF
 split at hF
 ·rename_i mm1 x mm2 y
  obtain ⟨hg, hF⟩ := guard_some hF
  simp only [Bool.and_eq_true] at hg
  have hg0 := beqN hg.1
  have hg1 := beqN hg.2
  subst hg0; subst hg1
  injection hF with hF; injection hF with e1 e2; subst e1; subst e2
  refine ⟨Nat.le_of_ble_eq_true (by kernel_rfl), fun X hX hfa => ⟨[], 999, ?_⟩⟩
  refine ⟨cO 0 ∧ cO (kS x y 1) ∧ cO (kS x y 2) ∧ cO (kS x y 3) ∧ oN (sL x y) (kS x y 4) = oZ (lsub x y) (lless x y), by kernel_rfl, ?_⟩
  obtain ⟨e1, e2⟩ := sub_limbs (hfa.sl 0 _ rfl).1.1 (hfa.sl 1 _ rfl).1.1
  rw [← e1, ← e2]
  exact ⟨kS_bd x y 0, kS_bd _ _ _, kS_bd _ _ _, kS_bd _ _ _, rfl⟩
 ·cases hF
noncomputable def nanUS : FSpec := fun xs bl => match xs, bl with
 | [.c (.int .u64 x)], [] => some (none, ⟨.c (.bool false), [], []⟩)
 | _, _ => none
theorem nanU_ok : FnOk CX 352 nanUS := by
 refine fnOkF hmo GX_ok (fn := Tryz.f352) (c := bodyOf' Tryz.f352) (by kernel_rfl) (by kernel_rfl) (by kernel_rfl) ?_
 intro xs bl p o hF hp
 unfold nanUS at hF
 split at hF
 ·rename_i x
  injection hF with hF; injection hF with e1 e2; subst e1; subst e2
  refine ⟨Nat.le_of_ble_eq_true (by kernel_rfl), fun X hX hfa => ⟨[], 999, ?_⟩⟩
  refine ⟨some (Out.mk (AV.c (CV.bool (x != x))) [] []) = some (Out.mk (AV.c (CV.bool false)) [] []), by kernel_rfl, ?_⟩
  simp
 ·cases hF
noncomputable def GN : Tab := (352, lift [true] nanUS) :: GX
theorem GN_ok : TabOk CX GN := .cons (lift_ok nanU_ok _) GX_ok
noncomputable def cmpUS : FSpec := fun xs bl => match xs, bl with
 | [.c (.int .u64 x), .c (.int .u64 y)], [] => some (none, ⟨.c (.int .i64 (cmp64 x y)), [], []⟩)
 | _, _ => none
theorem cmpU_ok : FnOk CX 325 cmpUS := by
 refine fnOkF hmo GN_ok (fn := Tryz.f325) (c := bodyOf' Tryz.f325) (by kernel_rfl) (by kernel_rfl) (by kernel_rfl) ?_
 intro xs bl p o hF hp
 unfold cmpUS at hF
 split at hF
 ·rename_i x y
  injection hF with hF; injection hF with e1 e2; subst e1; subst e2
  refine ⟨Nat.le_of_ble_eq_true (by kernel_rfl), fun X hX hfa => ⟨[], 999, ?_⟩⟩
  refine ⟨bif decide (x < y) then some (Out.mk (AV.c (CV.int IntKind.i64 (-1))) [] []) = some (Out.mk (AV.c (CV.int IntKind.i64 (cmp64 x y))) [] []) else bif decide (x > y) then some (Out.mk (AV.c (CV.int IntKind.i64 1)) [] []) = some (Out.mk (AV.c (CV.int IntKind.i64 (cmp64 x y))) [] []) else some (Out.mk (AV.c (CV.int IntKind.i64 0)) [] []) = some (Out.mk (AV.c (CV.int IntKind.i64 (cmp64 x y))) [] []), by kernel_rfl, ?_⟩
  unfold cmp64
  refine cond_intro (fun h => ?_) (fun h => cond_intro (fun h1 => ?_) (fun h1 => ?_)) <;> simp only [decide_eq_true_eq, decide_eq_false_iff_not] at *
  ·rw [if_pos h]
  ·rw [if_neg (by omega), if_pos h1]
  ·rw [if_neg (by omega), if_neg (by omega)]
 ·cases hF
noncomputable def GY : Tab := (325, lift [true, true] cmpUS) :: GX
theorem GY_ok : TabOk CX GY := .cons (lift_ok cmpU_ok _) GX_ok
noncomputable def lCmpS : FSpec := fun xs bl => match xs, bl with
 | [.c (.nat mm1 x), .c (.nat mm2 y)], [] => bif Nat.beq mm1 two256 && Nat.beq mm2 two256 then some (none, ⟨.c (.int .i64 (lcmp x y)), [], []⟩) else none
 | _, _ => none
theorem lCmp_ok : FnOk CX 272 lCmpS := by
 refine fnOkF hmo GY_ok (fn := Tryz.f272) (c := bodyOf' Tryz.f272) (by kernel_rfl) (by kernel_rfl) (by kernel_rfl) ?_
 intro xs bl p o hF hp
 unfold lCmpS at hF
 split at hF
 ·rename_i mm1 x mm2 y
  obtain ⟨hg, hF⟩ := guard_some hF
  simp only [Bool.and_eq_true] at hg
  have hg0 := beqN hg.1
  have hg1 := beqN hg.2
  subst hg0; subst hg1
  injection hF with hF; injection hF with e1 e2; subst e1; subst e2
  refine ⟨Nat.le_of_ble_eq_true (by kernel_rfl), fun X hX hfa => ⟨[], 999, ?_⟩⟩
  refine ⟨bif lb x 3 != lb y 3 then some (Out.mk (AV.c (CV.int IntKind.i64 (cmp64 (lb x 3) (lb y 3)))) [] []) = some (Out.mk (AV.c (CV.int IntKind.i64 (lcmp x y))) [] []) else bif lb x 2 != lb y 2 then some (Out.mk (AV.c (CV.int IntKind.i64 (cmp64 (lb x 2) (lb y 2)))) [] []) = some (Out.mk (AV.c (CV.int IntKind.i64 (lcmp x y))) [] []) else bif lb x 1 != lb y 1 then some (Out.mk (AV.c (CV.int IntKind.i64 (cmp64 (lb x 1) (lb y 1)))) [] []) = some (Out.mk (AV.c (CV.int IntKind.i64 (lcmp x y))) [] []) else bif lb x 0 != lb y 0 then some (Out.mk (AV.c (CV.int IntKind.i64 (cmp64 (lb x 0) (lb y 0)))) [] []) = some (Out.mk (AV.c (CV.int IntKind.i64 (lcmp x y))) [] []) else some (Out.mk (AV.c (CV.int IntKind.i64 0)) [] []) = some (Out.mk (AV.c (CV.int IntKind.i64 (lcmp x y))) [] []), by kernel_rfl, ?_⟩
  have hx : x < two256 := ((hfa.sl 0 _ rfl).1).1
  have hy : y < two256 := ((hfa.sl 1 _ rfl).1).1
  rw [← cmp_limbs hx hy]
  cases lb x 3 != lb y 3 <;> cases lb x 2 != lb y 2 <;> cases lb x 1 != lb y 1 <;> cases lb x 0 != lb y 0 <;> rfl
 ·cases hF
def pk (m x y : Int) : Int := ior .u64 (iand .u64 x m) (iandn .u64 y m)
def pkL (m : Int) (x y : Nat) : List Int := [pk m (lb x 0) (lb y 0), pk m (lb x 1) (lb y 1), pk m (lb x 2) (lb y 2), pk m (lb x 3) (lb y 3)]
theorem okB (x i : Nat) : okI .u64 (lb x i) := okI_u64.2 ⟨lb_nn x i, lb_lt x i⟩
noncomputable def lPickS : FSpec := fun xs bl => match xs, bl with
 | [.c (.bool c), .c (.nat mm1 x), .c (.nat mm2 y)], [] => bif Nat.beq mm1 two256 && Nat.beq mm2 two256 then some (none, ⟨.c (.nat two256 (lpick c x y)), [], []⟩) else none
 | _, _ => none
theorem lPick_ok : FnOk CX 293 lPickS := by
  refine fnOkF hmo GX_ok (fn := Tryz.f293) (c := bodyOf' Tryz.f293) (by kernel_rfl) (by kernel_rfl) (by kernel_rfl) ?_
  intro xs bl p o hF hp
  unfold lPickS at hF
  split at hF
  · rename_i c mm1 x mm2 y
    obtain ⟨hg, hF⟩ := guard_some hF
    simp only [Bool.and_eq_true] at hg
    have hg0 := beqN hg.1
    have hg1 := beqN hg.2
    subst hg0; subst hg1
    injection hF with hF; injection hF with e1 e2; subst e1; subst e2
    refine ⟨Nat.le_of_ble_eq_true (by kernel_rfl), fun X hX hfa => ⟨[], 999, ?_⟩⟩
    have hx : x < two256 := ((hfa.sl 1 _ rfl).1).1
    have hy : y < two256 := ((hfa.sl 2 _ rfl).1).1
    rw [lpick_eq]
    cases c with
     | true =>
      refine ⟨some (Out.mk (.c (.nat two256 (natOf (pkL 18446744073709551615 x y)))) [] []) = some (Out.mk (.c (.nat two256 (cond true x y))) [] []), by kernel_rfl, ?_⟩
      have e : pkL 18446744073709551615 x y = natL x := by unfold pkL pk; rw [pk_t _ _ (okB x 0), pk_t _ _ (okB x 1), pk_t _ _ (okB x 2), pk_t _ _ (okB x 3)]; rfl
      rw [e, natOf_natL hx]; rfl
     | false =>
      refine ⟨some (Out.mk (.c (.nat two256 (natOf (pkL 0 x y)))) [] []) = some (Out.mk (.c (.nat two256 (cond false x y))) [] []), by kernel_rfl, ?_⟩
      have e : pkL 0 x y = natL y := by unfold pkL pk; rw [pk_f _ _ (okB y 0), pk_f _ _ (okB y 1), pk_f _ _ (okB y 2), pk_f _ _ (okB y 3)]; rfl
      rw [e, natOf_natL hy]; rfl
  · cases hF
noncomputable def lBitS : FSpec := fun xs bl => match xs, bl with
 | [.c (.nat mm1 x), .c (.int .i64 n)], [] => bif Nat.beq mm1 two256 then some (some (0 ≤ n ∧ n ≤ 255), ⟨.c (.int .i64 (bitI x n)), [], []⟩) else none
 | _, _ => none
theorem lBit_ok : FnOk CX 276 lBitS := by
 refine fnOkF hmo GX_ok (fn := Tryz.f276) (c := bodyOf' Tryz.f276) (by kernel_rfl) (by kernel_rfl) (by kernel_rfl) ?_
 intro xs bl p o hF hp
 unfold lBitS at hF
 split at hF
 ·rename_i mm1 x n
  obtain ⟨hg, hF⟩ := guard_some hF
  have hg0 := beqN hg
  subst hg0
  injection hF with hF; injection hF with e1 e2; subst e1; subst e2
  have hp : 0 ≤ n ∧ n ≤ 255 := hp
  refine ⟨Nat.le_of_ble_eq_true (by kernel_rfl), fun X hX hfa => ⟨[], 999, ?_⟩⟩
  refine ⟨bif decide (n < 0) then some (Out.mk (AV.c (CV.int IntKind.i64 0)) [] []) = some (Out.mk (AV.c (CV.int IntKind.i64 (bitI x n))) [] []) else bif decide (n > 255) then some (Out.mk (AV.c (CV.int IntKind.i64 0)) [] []) = some (Out.mk (AV.c (CV.int IntKind.i64 (bitI x n))) [] []) else bif decide (0 ≤ IntKind.i64.wrap (n.tdiv 64)) && decide (IntKind.i64.wrap (n.tdiv 64) < (Nat.cast (R := Int) 4)) then bif decide (0 ≤ n.tmod 64) then some (Out.mk (AV.c (CV.int IntKind.i64 (IntKind.i64.wrap (iand IntKind.u64 (ishr IntKind.u64 (lb x (0 + (IntKind.i64.wrap (n.tdiv 64)).toNat * 1)) (n.tmod 64)) 1)))) [] []) = some (Out.mk (AV.c (CV.int IntKind.i64 (bitI x n))) [] []) else False else False, by kernel_rfl, ?_⟩
  rw [limb_bit x hp.1 hp.2, Int.tdiv_eq_ediv_of_nonneg hp.1, Int.tmod_eq_emod_of_nonneg hp.1, wi (x := n / 64) (by omega)]
  exact cond_no (by simp; omega) <| cond_no (by simp; omega) <| cond_at (by simp; omega) <| cond_at (by simp; omega) rfl
 ·cases hF
noncomputable def mul64S : FSpec := fun xs bl => match xs, bl with
 | [.c (.int .u64 x), .c (.int .u64 y)], [] => some (none, ⟨.t2 (.c (.int .u64 (hiM 0 x y 0))) (.c (.int .u64 (loM 0 x y 0))), [], []⟩)
 | _, _ => none
theorem mul64_ok : FnOk CX 351 mul64S := by
 refine fnOkF hmo GX_ok (fn := Tryz.f351) (c := bodyOf' Tryz.f351) (by kernel_rfl) (by kernel_rfl) (by kernel_rfl) ?_
 intro xs bl p o hF hp
 unfold mul64S at hF
 split at hF
 ·rename_i x y
  injection hF with hF; injection hF with e1 e2; subst e1; subst e2
  refine ⟨Nat.le_of_ble_eq_true (by kernel_rfl), fun X hX hfa => ⟨[], 999, ?_⟩⟩
  refine ⟨oP (highM x y) (IntKind.u64.wrap (x * y)) = oP (hiM 0 x y 0) (loM 0 x y 0), by kernel_rfl, ?_⟩
  rw [highM_eq (hfa.sl 0 _ rfl).1 (hfa.sl 1 _ rfl).1, lowM_eq]
 ·cases hF
noncomputable def GL : Tab := (292, lift [true, true] lAddS) :: (199, lift [true, true] lSubS) :: (272, lift [true, true] lCmpS) :: (293, lift [true, true, true] lPickS) :: (276, lift [true, true] lBitS) :: (351, lift [true, true] mul64S) :: GY
theorem GL_ok : TabOk CX GL := .cons (lift_ok lAdd_ok _) <| .cons (lift_ok lSub_ok _) <| .cons (lift_ok lCmp_ok _) <| .cons (lift_ok lPick_ok _) <| .cons (lift_ok lBit_ok _) <| .cons (lift_ok mul64_ok _) GY_ok
end Go.Proofs.YtffdoihhjfjgoaaGreatDoor
/- The layer field. -/
namespace Go.Proofs.YtffdoihhjfjgoaaGreatDoor
open Go Go.Ab Go.RowKit Go.Chr
set_option maxRecDepth 100000
noncomputable def okO (k : Int) : Option Out := some ⟨.t2 (.c (mC (fmod k) (fsq k) (fiv k))) (.c (.bool true)), [], []⟩
def oC (x : Nat) : Option Out := some ⟨.c (.nat two256 x), [], []⟩
noncomputable def of4S : FSpec := fun xs bl => match xs, bl with
 | [.c (.int .i64 0)], [] => some (none, ⟨.t2 (.c (mK 0)) (.c (.bool true)), [], []⟩)
 | [.c (.int .i64 1)], [] => some (none, ⟨.t2 (.c (mK 1)) (.c (.bool true)), [], []⟩)
 | [.c (.int .i64 2)], [] => some (none, ⟨.t2 (.c (mK 2)) (.c (.bool true)), [], []⟩)
 | [.c (.int .i64 3)], [] => some (none, ⟨.t2 (.c (mK 3)) (.c (.bool true)), [], []⟩)
 | _, _ => none
theorem of4_ok : FnOk CX 195 of4S := by
 refine fnOkF hmo GL_ok (fn := Tryz.f195) (c := bodyOf' Tryz.f195) (by kernel_rfl) (by kernel_rfl) (by kernel_rfl) ?_
 intro xs bl p o hF hp
 unfold of4S at hF
 split at hF
 ·skip
  injection hF with hF; injection hF with e1 e2; subst e1; subst e2
  refine ⟨Nat.le_of_ble_eq_true (by kernel_rfl), fun X hX hfa => ⟨[], 999, ?_⟩⟩
  exact ⟨okO 0 = okO 0, by kernel_rfl, rfl⟩
 ·skip
  injection hF with hF; injection hF with e1 e2; subst e1; subst e2
  refine ⟨Nat.le_of_ble_eq_true (by kernel_rfl), fun X hX hfa => ⟨[], 999, ?_⟩⟩
  exact ⟨okO 1 = okO 1, by kernel_rfl, rfl⟩
 ·skip
  injection hF with hF; injection hF with e1 e2; subst e1; subst e2
  refine ⟨Nat.le_of_ble_eq_true (by kernel_rfl), fun X hX hfa => ⟨[], 999, ?_⟩⟩
  exact ⟨okO 2 = okO 2, by kernel_rfl, rfl⟩
 ·skip
  injection hF with hF; injection hF with e1 e2; subst e1; subst e2
  refine ⟨Nat.le_of_ble_eq_true (by kernel_rfl), fun X hX hfa => ⟨[], 999, ?_⟩⟩
  exact ⟨okO 3 = okO 3, by kernel_rfl, rfl⟩
 ·cases hF
noncomputable def ofS : FSpec := fun xs bl => match xs, bl with
 | [.c (.int .i64 k)], [] => some (some (kB k), ⟨.t2 (.c (mK k)) (.c (.bool true)), [], []⟩)
 | _, _ => none
theorem of_ok : FnOk CX 195 ofS := by
 obtain ⟨fn, c, h1, h2, h3, h⟩ := of4_ok
 refine ⟨fn, c, h1, h2, h3, fun xs bl p o hF hp => ?_⟩
 unfold ofS at hF
 split at hF
 ·rename_i k
  injection hF with hF; injection hF with e1 e2; subst e1; subst e2
  obtain ⟨h0, h4⟩ : 0 ≤ k ∧ k < 4 := hp
  obtain rfl | rfl | rfl | rfl : k = 0 ∨ k = 1 ∨ k = 2 ∨ k = 3 := by omega
  all_goals exact h _ _ none _ rfl trivial
 ·cases hF
noncomputable def fmoreS : FSpec := fun xs bl => match xs, bl with
 | [.c (.int .u64 s), .c (.int .u64 a), .c (.int .u64 b), .c (.int .u64 c)], [] => some (none, ⟨.t2 (.c (.int .u64 (loM s a b c))) (.c (.int .u64 (hiM s a b c))), [], []⟩)
 | _, _ => none
theorem fmore_ok : FnOk CX 320 fmoreS := by
 refine fnOkF hmo GL_ok (fn := Tryz.f320) (c := bodyOf' Tryz.f320) (by kernel_rfl) (by kernel_rfl) (by kernel_rfl) ?_
 intro xs bl p o hF hp
 unfold fmoreS at hF
 split at hF
 ·rename_i s a b c
  injection hF with hF; injection hF with e1 e2; subst e1; subst e2
  refine ⟨Nat.le_of_ble_eq_true (by kernel_rfl), fun X hX hfa => ⟨[], 999, ?_⟩⟩
  refine ⟨cO 0 ∧ cO 0 ∧ oP (a64 (a64 (loM 0 a b 0) s 0) c 0) (IntKind.u64.wrap (IntKind.u64.wrap (hiM 0 a b 0 + k64 (loM 0 a b 0) s 0) + k64 (a64 (loM 0 a b 0) s 0) c 0)) = oP (loM s a b c) (hiM s a b c), by kernel_rfl, ?_⟩
  have hs := okI_u64.1 (hfa.sl 0 _ rfl).1
  have ha := okI_u64.1 (hfa.sl 1 _ rfl).1
  have hb := okI_u64.1 (hfa.sl 2 _ rfl).1
  have hc := okI_u64.1 (hfa.sl 3 _ rfl).1
  obtain ⟨p0, p1⟩ := prod_bd ha.1 ha.2 hb.1 hb.2
  have e1 : a64 (a64 (loM 0 a b 0) s 0) c 0 = loM s a b c := by
   unfold a64 loM
   generalize a * b = p at *
   omega
  have e2 : IntKind.u64.wrap (IntKind.u64.wrap (hiM 0 a b 0 + k64 (loM 0 a b 0) s 0) + k64 (a64 (loM 0 a b 0) s 0) c 0) = hiM s a b c := by
   unfold k64 a64 loM hiM
   generalize a * b = p at *
   rw [wu64 (x := (0 + p + 0) / 18446744073709551616 + _) (by omega), wu64 (by omega)]
   omega
  rw [e1, e2]
  exact ⟨by unfold cO; omega, by unfold cO; omega, rfl⟩
 ·cases hF
noncomputable def mAddS : FSpec := fun xs bl => match xs, bl with
 | [.c (.pr (.nat mm1 m) (.pr (.nat mm2 s) (.pr (.int .u64 v) .nl))), .c (.nat mm3 x), .c (.nat mm4 y)], [] => bif Nat.beq mm1 two256 && Nat.beq mm2 two256 && Nat.beq mm3 two256 && Nat.beq mm4 two256 then some (some (x < m ∧ y < m ∧ m < KK), ⟨.c (.nat two256 (madd m x y)), [], []⟩) else none
 | _, _ => none
theorem mAdd_ok : FnOk CX 198 mAddS := by
 refine fnOkF hmo GL_ok (fn := Tryz.f198) (c := bodyOf' Tryz.f198) (by kernel_rfl) (by kernel_rfl) (by kernel_rfl) ?_
 intro xs bl p o hF hp
 unfold mAddS at hF
 split at hF
 ·rename_i mm1 m mm2 s v mm3 x mm4 y
  obtain ⟨hg, hF⟩ := guard_some hF
  simp only [Bool.and_eq_true] at hg
  have hg0 := beqN hg.1.1.1
  have hg1 := beqN hg.1.1.2
  have hg2 := beqN hg.1.2
  have hg3 := beqN hg.2
  subst hg0; subst hg1; subst hg2; subst hg3
  injection hF with hF; injection hF with e1 e2; subst e1; subst e2
  obtain ⟨h1, h2, h3⟩ : x < m ∧ y < m ∧ m < KK := hp
  refine ⟨Nat.le_of_ble_eq_true (by kernel_rfl), fun X hX hfa => ⟨[], 999, ?_⟩⟩
  refine ⟨cond (lover x y) (oC (lpick true (lsub (ladd x y) m) (ladd x y)) = oC (madd m x y)) (oC (lpick (!lless (ladd x y) m) (lsub (ladd x y) m) (ladd x y)) = oC (madd m x y)), by kernel_rfl, ?_⟩
  rw [← add_pick h1 h2 h3]
  cases lover x y <;> rfl
 ·cases hF
noncomputable def mSubS : FSpec := fun xs bl => match xs, bl with
 | [.c (.pr (.nat mm1 m) (.pr (.nat mm2 s) (.pr (.int .u64 v) .nl))), .c (.nat mm3 x), .c (.nat mm4 y)], [] => bif Nat.beq mm1 two256 && Nat.beq mm2 two256 && Nat.beq mm3 two256 && Nat.beq mm4 two256 then some (some (x < m ∧ y < m ∧ m < KK), ⟨.c (.nat two256 (msub m x y)), [], []⟩) else none
 | _, _ => none
theorem mSub_ok : FnOk CX 273 mSubS := by
 refine fnOkF hmo GL_ok (fn := Tryz.f273) (c := bodyOf' Tryz.f273) (by kernel_rfl) (by kernel_rfl) (by kernel_rfl) ?_
 intro xs bl p o hF hp
 unfold mSubS at hF
 split at hF
 ·rename_i mm1 m mm2 s v mm3 x mm4 y
  obtain ⟨hg, hF⟩ := guard_some hF
  simp only [Bool.and_eq_true] at hg
  have hg0 := beqN hg.1.1.1
  have hg1 := beqN hg.1.1.2
  have hg2 := beqN hg.1.2
  have hg3 := beqN hg.2
  subst hg0; subst hg1; subst hg2; subst hg3
  injection hF with hF; injection hF with e1 e2; subst e1; subst e2
  obtain ⟨h1, h2, h3⟩ : x < m ∧ y < m ∧ m < KK := hp
  refine ⟨Nat.le_of_ble_eq_true (by kernel_rfl), fun X hX hfa => ⟨[], 999, ?_⟩⟩
  refine ⟨oC (lpick (lless x y) (ladd (lsub x y) m) (lsub x y)) = oC (msub m x y), by kernel_rfl, ?_⟩
  rw [sub_pick h1 h2 h3]
 ·cases hF
def modB (m s : Nat) (v : Int) : Blk' := .cells 249 9 (.els [.c (mC m s v)])
def natB (x : Nat) : Blk' := .cells 45 4 (.els [.c (.nat two256 x)])
def foI (m s : Nat) (v : Int) (x i : Nat) : St := ⟨[(2, .ptr (.l 0) 0 9 0), (3, .ptr (.l 1) 0 4 0), (4, .ptr (.l 2) 0 4 0)], [(0, modB m s v), (1, natB (x - i * m)), (2, natB 0)], 3, 18⟩
def foS (m s : Nat) (v : Int) (x : Nat) : St := ⟨[(2, .ptr (.l 0) 0 9 0), (3, .ptr (.l 1) 0 4 0), (4, .ptr (.l 2) 0 4 0)], [(0, modB m s v), (1, natB x), (2, natB 0)], 3, 18⟩
def foF (x : Nat) : St := ⟨[(3, .ptr (.l 0) 0 4 0), (4, .ptr (.l 1) 0 4 0)], [(0, natB x), (1, natB 0)], 2, 18⟩
theorem fold_l0 {X : Snap} (hX : ∀ b L, X.ι b = some L → b < 0) (m s : Nat) (v : Int) (x : Nat) : LOk CX X 0 (loopAt 0 Tryz.f196) (loopW 0 [] [2, 3, 4] (foS m s v x) (0 < m) false (foF (mfold m x))) := by
 refine loopW_ok hmo GL_ok (by kernel_rfl) hX [3, 4] [] (foI m s v x) (fun i => i * m ≤ x) (fun i => x - i) 0 (fun _ => by unfold foI; rw [Nat.zero_mul]; rfl) (fun _ => by rw [Nat.zero_mul]; exact Nat.zero_le _) ?_
 intro hp i hi hfa
 have hi : i * m ≤ x := hi
 have hp : 0 < m := hp
 refine ⟨[], 999, ?_⟩
 refine ⟨cond (decide (lcmp (x - i * m) m ≥ 0)) (∃ i', some (foS m s v (lsub (x - i * m) m)) = some (foI m s v x i') ∧ x - i' < x - i ∧ i' * m ≤ x) (false = false ∧ some (foF (x - i * m)) = some (foF (mfold m x))), by kernel_rfl, ?_⟩
 have hx : x - i * m < two256 := (hfa.h 1 _ rfl 0 _ rfl).1
 have hm : m < two256 := (hfa.h 0 _ rfl 0 _ rfl).1.1
 have em : x % m = (x - i * m) % m := by rw [Nat.mul_comm i m, Nat.sub_mul_mod (by rw [Nat.mul_comm]; exact hi)]
 rw [mfold_eq, em, lcmp_eq, lsub_eq]
 unfold two256 at hx hm
 unfold cmpN
 refine cond_intro (fun h => ?_) (fun h => ?_)
 ·have h : m ≤ x - i * m := by
   have h := of_decide_eq_true h
   by_cases h1 : x - i * m < m
   ·rw [if_pos h1] at h; omega
   ·omega
  have e : (i + 1) * m = i * m + m := Nat.succ_mul i m
  have hl : i ≤ i * m := Nat.le_mul_of_pos_right i hp
  refine ⟨i + 1, ?_, by omega, by omega⟩
  unfold foI foS
  rw [show (two256 + (x - i * m) - m) % two256 = x - (i + 1) * m by unfold two256; omega]
 ·have h : x - i * m < m := by
   have h := of_decide_eq_false h
   by_cases h1 : x - i * m < m
   ·exact h1
   ·rw [if_neg h1] at h; split at h <;> omega
  rw [Nat.mod_eq_of_lt h]
  exact ⟨rfl, rfl⟩
noncomputable def mFoldS : FSpec := fun xs bl => match xs, bl with
 | [.c (.pr (.nat mm1 m) (.pr (.nat mm2 s) (.pr (.int .u64 v) .nl))), .c (.nat mm3 x)], [] => bif Nat.beq mm1 two256 && Nat.beq mm2 two256 && Nat.beq mm3 two256 then some (some (0 < m), ⟨.c (.nat two256 (mfold m x)), [], []⟩) else none
 | _, _ => none
theorem mFold_ok : FnOk CX 196 mFoldS := by
 refine fnOkF hmo GL_ok (fn := Tryz.f196) (c := bodyOf' Tryz.f196) (by kernel_rfl) (by kernel_rfl) (by kernel_rfl) ?_
 intro xs bl p o hF hp
 unfold mFoldS at hF
 split at hF
 ·rename_i mm1 m mm2 s v mm3 x
  obtain ⟨hg, hF⟩ := guard_some hF
  simp only [Bool.and_eq_true] at hg
  have hg0 := beqN hg.1.1
  have hg1 := beqN hg.1.2
  have hg2 := beqN hg.2
  subst hg0; subst hg1; subst hg2
  injection hF with hF; injection hF with e1 e2; subst e1; subst e2
  have hp : 0 < m := hp
  refine ⟨Nat.le_of_ble_eq_true (by kernel_rfl), fun X hX hfa => ⟨[(0, loopW 0 [] [2, 3, 4] (foS m s v x) (0 < m) false (foF (mfold m x)))], 999, ?_⟩⟩
  refine ⟨LOk CX X 0 (loopAt 0 Tryz.f196) (loopW 0 [] [2, 3, 4] (foS m s v x) (0 < m) false (foF (mfold m x))) ∧ some (St.mk [(2, AV.ptr (Base.l 0) 0 9 0), (3, AV.ptr (Base.l 1) 0 4 0), (4, AV.ptr (Base.l 2) 0 4 0)] [(0, Blk'.cells 249 9 (Body.els [AV.c ((CV.nat two256 m).pr ((CV.nat two256 s).pr ((CV.int IntKind.u64 v).pr CV.nl)))])), (1, Blk'.cells 45 4 (Body.els [AV.c (CV.nat two256 x)])), (2, Blk'.cells 45 4 (Body.els [AV.c (CV.nat two256 0)]))] 3 18) = some (foS m s v x) ∧ 0 < m ∧ some (Out.mk (AV.c (CV.nat two256 (mfold m x))) [] []) = some (Out.mk (AV.c (CV.nat two256 (mfold m x))) [] []), by kernel_rfl, ?_⟩
  exact ⟨fold_l0 hX _ _ _ _, rfl, hp, rfl⟩
 ·cases hF
noncomputable def GF : Tab := (195, lift [true] ofS) :: (320, lift [true, true, true, true] fmoreS) :: (198, lift [true, true, true] mAddS) :: (273, lift [true, true, true] mSubS) :: (196, lift [true, true] mFoldS) :: GL
theorem GF_ok : TabOk CX GF := .cons (lift_ok of_ok _) <| .cons (lift_ok fmore_ok _) <| .cons (lift_ok mAdd_ok _) <| .cons (lift_ok mSub_ok _) <| .cons (lift_ok mFold_ok _) GL_ok
def arB (l : List Int) : Blk' := .cells 357 6 (.els [.c (.arr .u64 6 l)])
def h5 (m : Nat) (v : Int) (x y : Nat) : Nat → Int
 | 0 => 0
 | i + 1 => k64 ((hN m v x y i / KK : Nat) : Int) (mc (hN m v x y i) y (lb x i) 4) 0
def tL (T : Nat) (c : Int) : List Int := [lb T 0, lb T 1, lb T 2, lb T 3, ((T / KK : Nat) : Int), c]
def haI (m s : Nat) (v : Int) (x y : Nat) (i : Nat) : St := ⟨[(3, .ptr (.l 0) 0 9 0), (5, .ptr (.l 1) 0 4 0), (6, .ptr (.l 2) 0 4 0), (7, .ptr (.l 3) 0 6 0), (18, .c (.nat two256 x)), (19, .c (.int .i64 (i : Nat)))], [(0, modB m s v), (1, natB y), (2, natB 0), (3, arB (tL (hN m v x y i) (h5 m v x y i)))], 4, 124⟩
def haF (m s : Nat) (v : Int) (T : Nat) (c : Int) : St := ⟨[(3, .ptr (.l 0) 0 9 0), (6, .ptr (.l 1) 0 4 0), (7, .ptr (.l 2) 0 6 0)], [(0, modB m s v), (1, natB 0), (2, arB (tL T c))], 3, 124⟩
def qI (T : Nat) (v : Int) (y : Nat) (d : Int) : Int := IntKind.u64.wrap (ms T y d 0 * v)
def u4 (T y : Nat) (d : Int) : Int := a64 ((T / KK : Nat) : Int) (mc T y d 4) 0
def u5 (T y : Nat) (d : Int) : Int := k64 ((T / KK : Nat) : Int) (mc T y d 4) 0
def stL (T m y : Nat) (d q : Int) : List Int := [ns T y m d q 1, ns T y m d q 2, ns T y m d q 3, a64 (u4 T y d) (nc T y m d q 4) 0, IntKind.u64.wrap (u5 T y d + k64 (u4 T y d) (nc T y m d q 4) 0), u5 T y d]
def haS (m s : Nat) (v : Int) (x y i : Nat) : St := ⟨[(3, .ptr (.l 0) 0 9 0), (5, .ptr (.l 1) 0 4 0), (6, .ptr (.l 2) 0 4 0), (7, .ptr (.l 3) 0 6 0), (18, .c (.nat two256 x)), (19, .c (.int .i64 ((i + 1 : Nat) : Int)))], [(0, modB m s v), (1, natB y), (2, natB 0), (3, arB (stL (hN m v x y i) m y (lb x i) (qI (hN m v x y i) v y (lb x i))))], 4, 124⟩
def haQ (m s : Nat) (v : Int) (x y i : Nat) : Prop := cO 0 ∧ cO 0 ∧ ∃ i', some (haS m s v x y i) = some (haI m s v x y i') ∧ 4 - i' < 4 - i ∧ i' ≤ 4
theorem st_law {m : Nat} {v : Int} {x y i : Nat} (hy : y < m) (hm : m < KK) (hv : (lb m 0 * v + 1) % 18446744073709551616 = 0) : stL (hN m v x y i) m y (lb x i) (qI (hN m v x y i) v y (lb x i)) = tL (hN m v x y (i + 1)) (h5 m v x y (i + 1)) := by
 have hT := (hN_lt (a := x) hy hm hv i).1
 obtain ⟨g1, _, l0, l1, l2, l3, l4⟩ := hN_step (i := i) (q := qI (hN m v x y i) v y (lb x i)) (u4 := u4 (hN m v x y i) y (lb x i)) (u5 := u5 (hN m v x y i) y (lb x i)) (c3 := a64 (u4 (hN m v x y i) y (lb x i)) (nc (hN m v x y i) y m (lb x i) (qI (hN m v x y i) v y (lb x i)) 4) 0) (cc := k64 (u4 (hN m v x y i) y (lb x i)) (nc (hN m v x y i) y m (lb x i) (qI (hN m v x y i) v y (lb x i)) 4) 0) hT hy hm hv rfl (wu64_mod _) (by unfold u4 a64; rw [Int.add_zero]) (by unfold u5 k64; rw [Int.add_zero]) (by unfold a64; rw [Int.add_zero]) (by unfold k64; rw [Int.add_zero])
 have hq : ((hN m v x y (i + 1) / KK : Nat) : Int) < 2 := by exact_mod_cast (Nat.div_lt_of_lt_mul (by omega) : hN m v x y (i + 1) / KK < 2)
 have hq0 : (0 : Int) ≤ ((hN m v x y (i + 1) / KK : Nat) : Int) := Int.natCast_nonneg _
 unfold stL tL
 rw [← l0, ← l1, ← l2, l3, l4, wu64 ⟨hq0, Int.lt_trans hq (by decide)⟩]
 rfl
theorem half_l0 {X : Snap} (hX : ∀ b L, X.ι b = some L → b < 0) (m s : Nat) (v : Int) (x y : Nat) : LOk CX X 0 (loopAt 0 Tryz.f255) (loopW 0 [] [3, 5, 6, 7, 18, 19] (haI m s v x y 0) (y < m ∧ m < KK ∧ (lb m 0 * v + 1) % 18446744073709551616 = 0) false (haF m s v (hN m v x y 4) (h5 m v x y 4))) := by
 refine loopW_ok hmo GF_ok (by kernel_rfl) hX [3, 6, 7] [] (haI m s v x y) (fun i => i ≤ 4) (fun i => 4 - i) 0 (fun _ => rfl) (fun _ => by omega) ?_
 intro hp i hi hfa
 refine ⟨[], 999, ?_⟩
 have key : i < 4 → haQ m s v x y i := fun h => ⟨by unfold cO; omega, by unfold cO; omega, i + 1, by unfold haS haI; rw [st_law hp.1 hp.2.1 hp.2.2], by omega, by omega⟩
 obtain rfl | rfl | rfl | rfl | rfl : i = 0 ∨ i = 1 ∨ i = 2 ∨ i = 3 ∨ i = 4 := by have : i ≤ 4 := hi; omega
 ·exact ⟨haQ m s v x y 0, by kernel_rfl, (key (by omega))⟩
 ·exact ⟨haQ m s v x y 1, by kernel_rfl, (key (by omega))⟩
 ·exact ⟨haQ m s v x y 2, by kernel_rfl, (key (by omega))⟩
 ·exact ⟨haQ m s v x y 3, by kernel_rfl, (key (by omega))⟩
 ·exact ⟨false = false ∧ some (haF m s v (hN m v x y 4) (h5 m v x y 4)) = some (haF m s v (hN m v x y 4) (h5 m v x y 4)), by kernel_rfl, ⟨rfl, rfl⟩⟩
def haE (m T R : Nat) : Prop := cond (((T / KK : Nat) : Int) != 0) (oC (lpick true (lsub (natOf (natL T)) m) (natOf (natL T))) = oC R) (oC (lpick (!lless (natOf (natL T)) m) (lsub (natOf (natL T)) m) (natOf (natL T))) = oC R)
noncomputable def mHalfS : FSpec := fun xs bl => match xs, bl with
 | [.c (.pr (.nat mm1 m) (.pr (.nat mm2 s) (.pr (.int .u64 v) .nl))), .c (.nat mm3 x), .c (.nat mm4 y)], [] => bif Nat.beq mm1 two256 && Nat.beq mm2 two256 && Nat.beq mm3 two256 && Nat.beq mm4 two256 then some (some (y < m ∧ m < KK ∧ (lb m 0 * v + 1) % 18446744073709551616 = 0), ⟨.c (.nat two256 (halfM m v x y)), [], []⟩) else none
 | _, _ => none
theorem mHalf_ok : FnOk CX 255 mHalfS := by
 refine fnOkF hmo GF_ok (fn := Tryz.f255) (c := bodyOf' Tryz.f255) (by kernel_rfl) (by kernel_rfl) (by kernel_rfl) ?_
 intro xs bl p o hF hp
 unfold mHalfS at hF
 split at hF
 ·rename_i mm1 m mm2 s v mm3 x mm4 y
  obtain ⟨hg, hF⟩ := guard_some hF
  simp only [Bool.and_eq_true] at hg
  have hg0 := beqN hg.1.1.1
  have hg1 := beqN hg.1.1.2
  have hg2 := beqN hg.1.2
  have hg3 := beqN hg.2
  subst hg0; subst hg1; subst hg2; subst hg3
  injection hF with hF; injection hF with e1 e2; subst e1; subst e2
  have hp : y < m ∧ m < KK ∧ (lb m 0 * v + 1) % 18446744073709551616 = 0 := hp
  refine ⟨Nat.le_of_ble_eq_true (by kernel_rfl), fun X hX hfa => ⟨[(0, loopW 0 [] [3, 5, 6, 7, 18, 19] (haI m s v x y 0) (y < m ∧ m < KK ∧ (lb m 0 * v + 1) % 18446744073709551616 = 0) false (haF m s v (hN m v x y 4) (h5 m v x y 4)))], 999, ?_⟩⟩
  refine ⟨LOk CX X 0 (loopAt 0 Tryz.f255) (loopW 0 [] [3, 5, 6, 7, 18, 19] (haI m s v x y 0) (y < m ∧ m < KK ∧ (lb m 0 * v + 1) % 18446744073709551616 = 0) false (haF m s v (hN m v x y 4) (h5 m v x y 4))) ∧ some (haI m s v x y 0) = some (haI m s v x y 0) ∧ (y < m ∧ m < KK ∧ (lb m 0 * v + 1) % 18446744073709551616 = 0) ∧ haE m (hN m v x y 4) (halfM m v x y), by kernel_rfl, ⟨half_l0 hX _ _ _ _ _, rfl, hp, ?_⟩⟩
  have hT := (hN_lt (a := x) hp.1 hp.2.1 hp.2.2 4).1
  unfold haE
  rw [halfM_eq, ← top_pick hT hp.2.1, show natOf (natL (hN m v x y 4)) = hN m v x y 4 % KK from natOf_limbs _]
  cases ((hN m v x y 4 / KK : Nat) : Int) != 0 <;> rfl
 ·cases hF
noncomputable def GH : Tab := (255, lift [true, true, true] mHalfS) :: GF
theorem GH_ok : TabOk CX GH := .cons (lift_ok mHalf_ok _) GF_ok
noncomputable def mMulS : FSpec := fun xs bl => match xs, bl with
 | [.c (.pr (.nat mm1 m) (.pr (.nat mm2 s) (.pr (.int .u64 v) .nl))), .c (.nat mm3 x), .c (.nat mm4 y)], [] => bif Nat.beq mm1 two256 && Nat.beq mm2 two256 && Nat.beq mm3 two256 && Nat.beq mm4 two256 then some (some (x < m ∧ y < m ∧ ModOK m s v), ⟨.c (.nat two256 (mmul m x y)), [], []⟩) else none
 | _, _ => none
theorem mMul_ok : FnOk CX 197 mMulS := by
 refine fnOkF hmo GH_ok (fn := Tryz.f197) (c := bodyOf' Tryz.f197) (by kernel_rfl) (by kernel_rfl) (by kernel_rfl) ?_
 intro xs bl p o hF hp
 unfold mMulS at hF
 split at hF
 ·rename_i mm1 m mm2 s v mm3 x mm4 y
  obtain ⟨hg, hF⟩ := guard_some hF
  simp only [Bool.and_eq_true] at hg
  have hg0 := beqN hg.1.1.1
  have hg1 := beqN hg.1.1.2
  have hg2 := beqN hg.1.2
  have hg3 := beqN hg.2
  subst hg0; subst hg1; subst hg2; subst hg3
  injection hF with hF; injection hF with e1 e2; subst e1; subst e2
  obtain ⟨h1, h2, ok⟩ : x < m ∧ y < m ∧ ModOK m s v := hp
  refine ⟨Nat.le_of_ble_eq_true (by kernel_rfl), fun X hX hfa => ⟨[], 999, ?_⟩⟩
  refine ⟨(y < m ∧ m < KK ∧ (lb m 0 * v + 1) % 18446744073709551616 = 0) ∧ (s < m ∧ m < KK ∧ (lb m 0 * v + 1) % 18446744073709551616 = 0) ∧ oC (halfM m v (halfM m v x y) s) = oC (mmul m x y), by kernel_rfl, ?_⟩
  rw [mul_half ok h1 h2]
  exact ⟨⟨h2, ok.lt, ok.inv⟩, ⟨by rw [ok.sq]; exact Nat.mod_lt _ ok.pos, ok.lt, ok.inv⟩, rfl⟩
 ·cases hF
noncomputable def GM : Tab := (197, lift [true, true, true] mMulS) :: GH
theorem GM_ok : TabOk CX GM := .cons (lift_ok mMul_ok _) GH_ok
noncomputable def pw (m x e j : Nat) : Nat := mpow m x (e / 2 ^ (256 - j))
def pwT (m s : Nat) (v : Int) (x e z : Nat) (i : Int) : St := ⟨[(4, .ptr (.l 0) 0 4 0), (5, .ptr (.l 1) 0 4 0), (6, .ptr (.l 2) 0 4 0), (7, .fn (4 * 197 + 2) (.c (mC m s v))), (8, .ptr (.l 3) 0 4 0), (9, .c (.int .i64 i))], [(0, natB x), (1, natB e), (2, natB 0), (3, natB z)], 4, 30⟩
noncomputable def pwI (m s : Nat) (v : Int) (x e j : Nat) : St := pwT m s v x e (pw m x e j) (255 - (j : Int))
def foF' (z : Nat) : St := ⟨[(6, .ptr (.l 0) 0 4 0), (8, .ptr (.l 1) 0 4 0)], [(0, natB 0), (1, natB z)], 2, 30⟩
noncomputable def pwF (m x e : Nat) : St := ⟨[(6, .ptr (.l 0) 0 4 0), (8, .ptr (.l 1) 0 4 0)], [(0, natB 0), (1, natB (mpow m x e))], 2, 30⟩
def pwP (m s : Nat) (v : Int) (x e : Nat) : Prop := x < m ∧ 1 < m ∧ ModOK m s v ∧ e < KK
theorem pw_lt {m : Nat} (hm : 1 < m) (x e j : Nat) : pw m x e j < m := by
 unfold pw; rw [mpow_eq]; exact Nat.mod_lt _ (by omega)
theorem pw_step {m x e j : Nat} (hj : j < 256) : pw m x e (j + 1) = if e / 2 ^ (255 - j) % 2 = 1 then mmul m (mmul m (pw m x e j) (pw m x e j)) x else mmul m (pw m x e j) (pw m x e j) := by
 have e1 : e / 2 ^ (256 - j) = e / 2 ^ (255 - j) / 2 := by
  rw [show 256 - j = (255 - j) + 1 by omega, Nat.pow_succ, Nat.div_div_eq_div_mul]
 have e2 : 256 - (j + 1) = 255 - j := by omega
 unfold pw
 rw [mpow_eq, mpow_eq, mmul_eq, mmul_eq, e1, e2]
 generalize e / 2 ^ (255 - j) = q
 have e3 : x ^ (q / 2) % m * (x ^ (q / 2) % m) % m = x ^ (q / 2 + q / 2) % m := by rw [← Nat.mul_mod, ← Nat.pow_add]
 rw [e3]
 split
 ·rw [Nat.mod_mul_mod, ← Nat.pow_succ, show (q / 2 + q / 2).succ = q by omega]
 ·rw [show q / 2 + q / 2 = q by omega]
theorem pow_l0 {X : Snap} (hX : ∀ b L, X.ι b = some L → b < 0) (m s : Nat) (v : Int) (x e : Nat) : LOk CX X 0 (loopAt 0 Tryz.f200) (loopW 0 [] [4, 5, 6, 7, 8, 9] (pwT m s v x e 1 255) (pwP m s v x e) false (pwF m x e)) := by
 refine loopW_ok hmo GM_ok (by kernel_rfl) hX [6, 8] [] (pwI m s v x e) (fun j => j ≤ 256) (fun j => 256 - j) 0 (fun hp => ?_) (fun _ => by omega) ?_
 ·have e0 : pw m x e 0 = 1 := by
   unfold pw
   rw [mpow_eq, Nat.div_eq_of_lt (show e < 2 ^ (256 - 0) from hp.2.2.2), Nat.pow_zero, Nat.mod_eq_of_lt hp.2.1]
  unfold pwI; rw [e0]; rfl
 intro hp j hj hfa
 obtain ⟨hx, hm, ok, _⟩ : x < m ∧ 1 < m ∧ ModOK m s v ∧ e < KK := hp
 have hj : j ≤ 256 := hj
 refine ⟨[], 999, ?_⟩
 refine ⟨cond (decide (255 - (j : Int) ≥ 0)) ((pw m x e j < m ∧ pw m x e j < m ∧ ModOK m s v) ∧ ((0 : Int) ≤ 255 - (j : Int) ∧ 255 - (j : Int) ≤ 255) ∧ cond (bitI e (255 - (j : Int)) == 1) ((mmul m (pw m x e j) (pw m x e j) < m ∧ x < m ∧ ModOK m s v) ∧ ∃ k, some (pwT m s v x e (mmul m (mmul m (pw m x e j) (pw m x e j)) x) (IntKind.i64.wrap (255 - (j : Int) - 1))) = some (pwI m s v x e k) ∧ 256 - k < 256 - j ∧ k ≤ 256) (∃ k, some (pwT m s v x e (mmul m (pw m x e j) (pw m x e j)) (IntKind.i64.wrap (255 - (j : Int) - 1))) = some (pwI m s v x e k) ∧ 256 - k < 256 - j ∧ k ≤ 256)) (false = false ∧ some (foF' (pw m x e j)) = some (pwF m x e)), by kernel_rfl, ?_⟩
 refine cond_intro (fun h => ?_) (fun h => ?_)
 ·have h := of_decide_eq_true h
  have hj : j < 256 := by omega
  have hA := pw_lt hm x e j
  have ew : IntKind.i64.wrap (255 - (j : Int) - 1) = 255 - ((j + 1 : Nat) : Int) := by rw [wi (by omega)]; omega
  have eb : bitI e (255 - (j : Int)) = ((e / 2 ^ (255 - j) % 2 : Nat) : Int) := by rw [bitI_eq, show (255 - (j : Int)).toNat = 255 - j by omega]
  have es := pw_step (m := m) (x := x) (e := e) hj
  rw [ew, eb]
  refine ⟨⟨hA, hA, ok⟩, by omega, cond_intro (fun h1 => ⟨⟨by rw [mmul_eq]; exact Nat.mod_lt _ (by omega), hx, ok⟩, j + 1, ?_, by omega, by omega⟩) (fun h1 => ⟨j + 1, ?_, by omega, by omega⟩)⟩
  ·rw [if_pos (Int.ofNat.inj (eq_of_beq h1))] at es
   unfold pwI; rw [es]
  ·rw [if_neg (fun hz => by rw [hz] at h1; cases h1)] at es
   unfold pwI; rw [es]
 ·have h := of_decide_eq_false h
  have e0 : j = 256 := by omega
  subst e0
  unfold pw pwF foF'
  rw [Nat.sub_self, Nat.pow_zero, Nat.div_one]
  exact ⟨rfl, rfl⟩
noncomputable def mPowS : FSpec := fun xs bl => match xs, bl with
 | [.c (.pr (.nat mm1 m) (.pr (.nat mm2 s) (.pr (.int .u64 v) .nl))), .c (.nat mm3 x), .c (.nat mm4 e)], [] => bif Nat.beq mm1 two256 && Nat.beq mm2 two256 && Nat.beq mm3 two256 && Nat.beq mm4 two256 then some (some (x < m ∧ 1 < m ∧ ModOK m s v), ⟨.c (.nat two256 (mpow m x e)), [], []⟩) else none
 | _, _ => none
theorem mPow_ok : FnOk CX 200 mPowS := by
 refine fnOkF hmo GM_ok (fn := Tryz.f200) (c := bodyOf' Tryz.f200) (by kernel_rfl) (by kernel_rfl) (by kernel_rfl) ?_
 intro xs bl p o hF hp
 unfold mPowS at hF
 split at hF
 ·rename_i mm1 m mm2 s v mm3 x mm4 e
  obtain ⟨hg, hF⟩ := guard_some hF
  simp only [Bool.and_eq_true] at hg
  have hg0 := beqN hg.1.1.1
  have hg1 := beqN hg.1.1.2
  have hg2 := beqN hg.1.2
  have hg3 := beqN hg.2
  subst hg0; subst hg1; subst hg2; subst hg3
  injection hF with hF; injection hF with e1 e2; subst e1; subst e2
  have hp : x < m ∧ 1 < m ∧ ModOK m s v := hp
  refine ⟨Nat.le_of_ble_eq_true (by kernel_rfl), fun X hX hfa => ⟨[(0, loopW 0 [] [4, 5, 6, 7, 8, 9] (pwT m s v x e 1 255) (pwP m s v x e) false (pwF m x e))], 999, ?_⟩⟩
  refine ⟨LOk CX X 0 (loopAt 0 Tryz.f200) (loopW 0 [] [4, 5, 6, 7, 8, 9] (pwT m s v x e 1 255) (pwP m s v x e) false (pwF m x e)) ∧ some (pwT m s v x e 1 255) = some (pwT m s v x e 1 255) ∧ pwP m s v x e ∧ oC (mpow m x e) = oC (mpow m x e), by kernel_rfl, ?_⟩
  exact ⟨pow_l0 hX _ _ _ _ _, rfl, ⟨hp.1, hp.2.1, hp.2.2, (hfa.sl 2 _ rfl).1.1⟩, rfl⟩
 ·cases hF
noncomputable def GP : Tab := (200, lift [true, true, true] mPowS) :: GM
theorem GP_ok : TabOk CX GP := .cons (lift_ok mPow_ok _) GM_ok
theorem fm_pos (k : Int) : 0 < fmod k := by rw [fmod_eq]; exact pI_pos k
theorem fm_one (k : Int) : 1 < fmod k := by
 rw [fmod_eq]; unfold pI
 rcases k.toNat with _ | _ | _ | k
 ·show 1 < p0; decide
 ·show 1 < p1; decide
 ·show 1 < p2; decide
 ·show 1 < p3; decide
theorem fm_ok (k : Int) : ModOK (fmod k) (fsq k) (fiv k) := by rw [fmod_eq, fsq_eq, fiv_eq]; exact okK _
theorem mf_lt (k : Int) (x : Nat) : mfold (fmod k) x < fmod k := by rw [mfold_eq]; exact Nat.mod_lt _ (fm_pos k)
theorem f_add (k : Int) (x y : Nat) : madd (fmod k) (mfold (fmod k) x) (mfold (fmod k) y) = fadd k x y := by
 rw [madd_eq, mfold_eq, mfold_eq, fmod_eq, fadd_eq, ← Nat.add_mod]
theorem f_mul (k : Int) (x y : Nat) : mmul (fmod k) (mfold (fmod k) x) (mfold (fmod k) y) = fmul k x y := by
 rw [mmul_eq, mfold_eq, mfold_eq, fmod_eq, fmul_eq, ← Nat.mul_mod]
theorem f_sub (k : Int) (x y : Nat) : msub (fmod k) (mfold (fmod k) x) (mfold (fmod k) y) = fsub k x y := by
 rw [msub_eq, mfold_eq, mfold_eq, fmod_eq, fsub_eq]; rfl
theorem f_pow (k : Int) (x e : Nat) : mpow (fmod k) (mfold (fmod k) x) e = fpow k x e := by
 rw [mpow_eq, mfold_eq, fmod_eq, fpow_eq, ← Nat.pow_mod]
theorem f_fold (k : Int) (x : Nat) : mfold (fmod k) x = ffold k x := by rw [mfold_eq, fmod_eq, ffold_eq]
theorem f_inv (k : Int) (x : Nat) : mpow (fmod k) (mfold (fmod k) x) (lsub (fmod k) 2) = finv k x := by
 have e : lsub (fmod k) 2 = pI k - 2 := by
  have h1 := fm_one k
  have h2 := (fm_ok k).lt
  simp only [KK] at h2
  rw [lsub_eq, ← fmod_eq]
  unfold two256; omega
 rw [e, f_pow, fpow_eq, finv_eq]; rfl
noncomputable def fModulusS : FSpec := fun xs bl => match xs, bl with
 | [.c (.int .i64 k)], [] => some (some (kB k), ⟨.c (.nat two256 (fmod k)), [], []⟩)
 | _, _ => none
theorem fModulus_ok : FnOk CX 249 fModulusS := by
 refine fnOkF hmo GP_ok (fn := Tryz.f249) (c := bodyOf' Tryz.f249) (by kernel_rfl) (by kernel_rfl) (by kernel_rfl) ?_
 intro xs bl p o hF hp
 unfold fModulusS at hF
 split at hF
 ·rename_i k
  injection hF with hF; injection hF with e1 e2; subst e1; subst e2
  have hp : kB k := hp
  refine ⟨Nat.le_of_ble_eq_true (by kernel_rfl), fun X hX hfa => ⟨[], 999, ?_⟩⟩
  refine ⟨kB k ∧ some (Out.mk (AV.c (CV.nat two256 (fmod k))) [] []) = some (Out.mk (AV.c (CV.nat two256 (fmod k))) [] []), by kernel_rfl, ?_⟩
  exact ⟨hp, rfl⟩
 ·cases hF
noncomputable def fFoldS : FSpec := fun xs bl => match xs, bl with
 | [.c (.int .i64 k), .c (.nat mm1 x)], [] => bif Nat.beq mm1 two256 then some (some (kB k), ⟨.c (.nat two256 (ffold k x)), [], []⟩) else none
 | _, _ => none
theorem fFold_ok : FnOk CX 86 fFoldS := by
 refine fnOkF hmo GP_ok (fn := Tryz.f86) (c := bodyOf' Tryz.f86) (by kernel_rfl) (by kernel_rfl) (by kernel_rfl) ?_
 intro xs bl p o hF hp
 unfold fFoldS at hF
 split at hF
 ·rename_i k mm1 x
  obtain ⟨hg, hF⟩ := guard_some hF
  have hg0 := beqN hg
  subst hg0
  injection hF with hF; injection hF with e1 e2; subst e1; subst e2
  have hp : kB k := hp
  refine ⟨Nat.le_of_ble_eq_true (by kernel_rfl), fun X hX hfa => ⟨[], 999, ?_⟩⟩
  refine ⟨kB k ∧ 0 < fmod k ∧ some (Out.mk (AV.c (CV.nat two256 (mfold (fmod k) x))) [] []) = some (Out.mk (AV.c (CV.nat two256 (ffold k x))) [] []), by kernel_rfl, ?_⟩
  rw [f_fold]; exact ⟨hp, fm_pos k, rfl⟩
 ·cases hF
noncomputable def fAddS : FSpec := fun xs bl => match xs, bl with
 | [.c (.int .i64 k), .c (.nat mm1 x), .c (.nat mm2 y)], [] => bif Nat.beq mm1 two256 && Nat.beq mm2 two256 then some (some (kB k), ⟨.c (.nat two256 (fadd k x y)), [], []⟩) else none
 | _, _ => none
theorem fAdd_ok : FnOk CX 88 fAddS := by
 refine fnOkF hmo GP_ok (fn := Tryz.f88) (c := bodyOf' Tryz.f88) (by kernel_rfl) (by kernel_rfl) (by kernel_rfl) ?_
 intro xs bl p o hF hp
 unfold fAddS at hF
 split at hF
 ·rename_i k mm1 x mm2 y
  obtain ⟨hg, hF⟩ := guard_some hF
  simp only [Bool.and_eq_true] at hg
  have hg0 := beqN hg.1
  have hg1 := beqN hg.2
  subst hg0; subst hg1
  injection hF with hF; injection hF with e1 e2; subst e1; subst e2
  have hp : kB k := hp
  refine ⟨Nat.le_of_ble_eq_true (by kernel_rfl), fun X hX hfa => ⟨[], 999, ?_⟩⟩
  refine ⟨kB k ∧ 0 < fmod k ∧ 0 < fmod k ∧ (mfold (fmod k) x < fmod k ∧ mfold (fmod k) y < fmod k ∧ fmod k < KK) ∧ some (Out.mk (AV.c (CV.nat two256 (madd (fmod k) (mfold (fmod k) x) (mfold (fmod k) y)))) [] []) = some (Out.mk (AV.c (CV.nat two256 (fadd k x y))) [] []), by kernel_rfl, ?_⟩
  rw [f_add]; exact ⟨hp, fm_pos k, fm_pos k, ⟨mf_lt k x, mf_lt k y, (fm_ok k).lt⟩, rfl⟩
 ·cases hF
noncomputable def fSubS : FSpec := fun xs bl => match xs, bl with
 | [.c (.int .i64 k), .c (.nat mm1 x), .c (.nat mm2 y)], [] => bif Nat.beq mm1 two256 && Nat.beq mm2 two256 then some (some (kB k), ⟨.c (.nat two256 (fsub k x y)), [], []⟩) else none
 | _, _ => none
theorem fSub_ok : FnOk CX 185 fSubS := by
 refine fnOkF hmo GP_ok (fn := Tryz.f185) (c := bodyOf' Tryz.f185) (by kernel_rfl) (by kernel_rfl) (by kernel_rfl) ?_
 intro xs bl p o hF hp
 unfold fSubS at hF
 split at hF
 ·rename_i k mm1 x mm2 y
  obtain ⟨hg, hF⟩ := guard_some hF
  simp only [Bool.and_eq_true] at hg
  have hg0 := beqN hg.1
  have hg1 := beqN hg.2
  subst hg0; subst hg1
  injection hF with hF; injection hF with e1 e2; subst e1; subst e2
  have hp : kB k := hp
  refine ⟨Nat.le_of_ble_eq_true (by kernel_rfl), fun X hX hfa => ⟨[], 999, ?_⟩⟩
  refine ⟨kB k ∧ 0 < fmod k ∧ 0 < fmod k ∧ (mfold (fmod k) x < fmod k ∧ mfold (fmod k) y < fmod k ∧ fmod k < KK) ∧ some (Out.mk (AV.c (CV.nat two256 (msub (fmod k) (mfold (fmod k) x) (mfold (fmod k) y)))) [] []) = some (Out.mk (AV.c (CV.nat two256 (fsub k x y))) [] []), by kernel_rfl, ?_⟩
  rw [f_sub]; exact ⟨hp, fm_pos k, fm_pos k, ⟨mf_lt k x, mf_lt k y, (fm_ok k).lt⟩, rfl⟩
 ·cases hF
noncomputable def fMulS : FSpec := fun xs bl => match xs, bl with
 | [.c (.int .i64 k), .c (.nat mm1 x), .c (.nat mm2 y)], [] => bif Nat.beq mm1 two256 && Nat.beq mm2 two256 then some (some (kB k), ⟨.c (.nat two256 (fmul k x y)), [], []⟩) else none
 | _, _ => none
theorem fMul_ok : FnOk CX 87 fMulS := by
 refine fnOkF hmo GP_ok (fn := Tryz.f87) (c := bodyOf' Tryz.f87) (by kernel_rfl) (by kernel_rfl) (by kernel_rfl) ?_
 intro xs bl p o hF hp
 unfold fMulS at hF
 split at hF
 ·rename_i k mm1 x mm2 y
  obtain ⟨hg, hF⟩ := guard_some hF
  simp only [Bool.and_eq_true] at hg
  have hg0 := beqN hg.1
  have hg1 := beqN hg.2
  subst hg0; subst hg1
  injection hF with hF; injection hF with e1 e2; subst e1; subst e2
  have hp : kB k := hp
  refine ⟨Nat.le_of_ble_eq_true (by kernel_rfl), fun X hX hfa => ⟨[], 999, ?_⟩⟩
  refine ⟨kB k ∧ 0 < fmod k ∧ 0 < fmod k ∧ (mfold (fmod k) x < fmod k ∧ mfold (fmod k) y < fmod k ∧ ModOK (fmod k) (fsq k) (fiv k)) ∧ some (Out.mk (AV.c (CV.nat two256 (mmul (fmod k) (mfold (fmod k) x) (mfold (fmod k) y)))) [] []) = some (Out.mk (AV.c (CV.nat two256 (fmul k x y))) [] []), by kernel_rfl, ?_⟩
  rw [f_mul]; exact ⟨hp, fm_pos k, fm_pos k, ⟨mf_lt k x, mf_lt k y, fm_ok k⟩, rfl⟩
 ·cases hF
noncomputable def fInvS : FSpec := fun xs bl => match xs, bl with
 | [.c (.int .i64 k), .c (.nat mm1 x)], [] => bif Nat.beq mm1 two256 then some (some (kB k), ⟨.c (.nat two256 (finv k x)), [], []⟩) else none
 | _, _ => none
theorem fInv_ok : FnOk CX 89 fInvS := by
 refine fnOkF hmo GP_ok (fn := Tryz.f89) (c := bodyOf' Tryz.f89) (by kernel_rfl) (by kernel_rfl) (by kernel_rfl) ?_
 intro xs bl p o hF hp
 unfold fInvS at hF
 split at hF
 ·rename_i k mm1 x
  obtain ⟨hg, hF⟩ := guard_some hF
  have hg0 := beqN hg
  subst hg0
  injection hF with hF; injection hF with e1 e2; subst e1; subst e2
  have hp : kB k := hp
  refine ⟨Nat.le_of_ble_eq_true (by kernel_rfl), fun X hX hfa => ⟨[], 999, ?_⟩⟩
  refine ⟨kB k ∧ 0 < fmod k ∧ (mfold (fmod k) x < fmod k ∧ 1 < fmod k ∧ ModOK (fmod k) (fsq k) (fiv k)) ∧ some (Out.mk (AV.c (CV.nat two256 (mpow (fmod k) (mfold (fmod k) x) (lsub (fmod k) 2)))) [] []) = some (Out.mk (AV.c (CV.nat two256 (finv k x))) [] []), by kernel_rfl, ?_⟩
  rw [f_inv]; exact ⟨hp, fm_pos k, ⟨mf_lt k x, fm_one k, fm_ok k⟩, rfl⟩
 ·cases hF
noncomputable def G00 : Tab := (249, lift [true] fModulusS) :: (86, lift [true, true] fFoldS) :: (88, lift [true, true, true] fAddS) :: (185, lift [true, true, true] fSubS) :: (87, lift [true, true, true] fMulS) :: (89, lift [true, true] fInvS) :: GP
theorem G00_ok : TabOk CX G00 := .cons (lift_ok fModulus_ok _) <| .cons (lift_ok fFold_ok _) <| .cons (lift_ok fAdd_ok _) <| .cons (lift_ok fSub_ok _) <| .cons (lift_ok fMul_ok _) <| .cons (lift_ok fInv_ok _) GP_ok
end Go.Proofs.YtffdoihhjfjgoaaGreatDoor
/- The layer codec. -/
namespace Go.Proofs.YtffdoihhjfjgoaaGreatDoor
open Go Go.Ab Go.RowKit Go.Chr
set_option maxRecDepth 100000
theorem below_of (k : Int) (x : Nat) : decide (lcmp x (fmod k) < 0) = fbelow k x := by
 rw [lcmp_eq, fmod_eq, fbelow_eq]
 unfold cmpN
 by_cases h : x < pI k
 ·rw [if_pos h]; simp [h]
 ·rw [if_neg h]; split <;> simp [h]
noncomputable def cBelowS : FSpec := fun xs bl => match xs, bl with
 | [.c (.int .i64 k), .c (.nat mm1 x)], [] => bif Nat.beq mm1 two256 then some (some (kB k), ⟨.c (.bool (fbelow k x)), [], []⟩) else none
 | _, _ => none
theorem cBelow_ok : FnOk CX 184 cBelowS := by
 refine fnOkF hmo G00_ok (fn := Tryz.f184) (c := bodyOf' Tryz.f184) (by kernel_rfl) (by kernel_rfl) (by kernel_rfl) ?_
 intro xs bl p o hF hp
 unfold cBelowS at hF
 split at hF
 ·rename_i k mm1 x
  obtain ⟨hg, hF⟩ := guard_some hF
  have hg0 := beqN hg
  subst hg0
  injection hF with hF; injection hF with e1 e2; subst e1; subst e2
  have hp : kB k := hp
  refine ⟨Nat.le_of_ble_eq_true (by kernel_rfl), fun X hX hfa => ⟨[], 999, ?_⟩⟩
  refine ⟨kB k ∧ some (Out.mk (AV.c (CV.bool (decide (lcmp x (fmod k) < 0)))) [] []) = some (Out.mk (AV.c (CV.bool (fbelow k x))) [] []), by kernel_rfl, ?_⟩
  rw [below_of]; exact ⟨hp, rfl⟩
 ·cases hF
def liT (l : List Int) (a : Nat) (i : Int) : St := ⟨[(2, .ptr (.l 0) 0 4 0), (4, .ptr (.l 1) 0 4 0), (11, .c (.ints .u8 l)), (12, .c (.int .i64 (l.length : Nat))), (13, .c (.int .i64 i))], [(0, natB 0), (1, natB a)], 2, 32⟩
def liI (l : List Int) (i : Nat) : St := liT l (leP l i) (i : Nat)
def liF (a : Nat) : St := ⟨[(2, .ptr (.l 0) 0 4 0), (4, .ptr (.l 1) 0 4 0)], [(0, natB 0), (1, natB a)], 2, 32⟩
theorem little_l0 {X : Snap} (hX : ∀ b L, X.ι b = some L → b < 0) (l : List Int) : LOk CX X 0 (loopAt 0 Tryz.f183) (loopW 0 [] [2, 4, 11, 12, 13] (liT l 0 0) (l.length = 32 ∧ byt l) false (liF (leP l 32))) := by
 refine loopW_ok hmo G00_ok (by kernel_rfl) hX [2, 4] [] (liI l) (fun i => i ≤ 32) (fun i => 32 - i) 0 (fun _ => rfl) (fun _ => by omega) ?_
 intro hp i hi hfa
 refine ⟨[], 999, ?_⟩
 refine ⟨bif decide ((Nat.cast (R := Int) i) < (Nat.cast (R := Int) l.length)) then bif decide ((Nat.cast (R := Int) i) < (Nat.cast (R := Int) l.length)) then bif decide (0 ≤ IntKind.i64.wrap ((Nat.cast (R := Int) i).tdiv 8)) && decide (IntKind.i64.wrap ((Nat.cast (R := Int) i).tdiv 8) < (Nat.cast (R := Int) 4)) then bif decide (0 ≤ IntKind.i64.wrap (8 * (Nat.cast (R := Int) i).tmod 8)) then bif decide (0 ≤ IntKind.i64.wrap ((Nat.cast (R := Int) i).tdiv 8)) && decide (IntKind.i64.wrap ((Nat.cast (R := Int) i).tdiv 8) < (Nat.cast (R := Int) 4)) then ∃ (v' : Nat), some (St.mk [(2, AV.ptr (Base.l 0) 0 4 0), (4, AV.ptr (Base.l 1) 0 4 0), (11, AV.c (CV.ints IntKind.u8 l)), (12, AV.c (CV.int IntKind.i64 (Nat.cast (R := Int) l.length))), (13, AV.c (CV.int IntKind.i64 (IntKind.i64.wrap ((Nat.cast (R := Int) i) + 1))))] [(0, Blk'.cells 45 4 (Body.els [AV.c (CV.nat two256 0)])), (1, Blk'.cells 45 4 (Body.els [AV.c (CV.nat two256 (natOf ([lb (leP l i) 0, lb (leP l i) 1, lb (leP l i) 2, lb (leP l i) 3].set (0 + (IntKind.i64.wrap ((Nat.cast (R := Int) i).tdiv 8)).toNat * 1) (ior IntKind.u64 (lb (leP l i) (0 + (IntKind.i64.wrap ((Nat.cast (R := Int) i).tdiv 8)).toNat * 1)) (ishl IntKind.u64 (IntKind.u64.wrap (l.getD (Nat.cast (R := Int) i).toNat 0)) (IntKind.i64.wrap (8 * (Nat.cast (R := Int) i).tmod 8)))))))]))] 2 32) = some (liI l v') ∧ 32 - v' < 32 - i ∧ v' ≤ 32 else False else False else False else False else false = false ∧ some (St.mk [(2, AV.ptr (Base.l 0) 0 4 0), (4, AV.ptr (Base.l 1) 0 4 0)] [(0, Blk'.cells 45 4 (Body.els [AV.c (CV.nat two256 0)])), (1, Blk'.cells 45 4 (Body.els [AV.c (CV.nat two256 (leP l i))]))] 2 32) = some (liF (leP l 32)), by kernel_rfl, ?_⟩
 obtain ⟨hl, hb⟩ : l.length = 32 ∧ byt l := hp
 have e1 : (i : Int).tdiv 8 = ((i / 8 : Nat) : Int) := by rw [Int.tdiv_eq_ediv_of_nonneg (by omega)]; omega
 have e2 : (i : Int).tmod 8 = ((i % 8 : Nat) : Int) := by rw [Int.tmod_eq_emod_of_nonneg (by omega)]; omega
 have hi : i ≤ 32 := hi
 rw [e1, e2, wi (x := ((i / 8 : Nat) : Int)) (by omega), wi (x := 8 * ((i % 8 : Nat) : Int)) (by omega)]
 simp only [Int.toNat_natCast, Nat.zero_add, Nat.mul_one]
 refine cond_intro (fun h => ?_) (fun h => ?_)
 ·have h := of_decide_eq_true h
  have hs := little_step hb (i := i) (by omega) (by omega)
  unfold putB natL at hs
  rw [hs, wi (x := (i : Int) + 1) (by omega)]
  exact cond_at (by simp; omega) <| cond_at (by simp; omega) <| cond_at (by simp; omega) <| cond_at (by simp; omega) ⟨i + 1, rfl, by omega, by omega⟩
 ·have h := of_decide_eq_false h
  obtain rfl : i = 32 := by omega
  exact ⟨trivial, rfl⟩
noncomputable def cLittleS : FSpec := fun xs bl => match xs, bl with
 | [.c (.ints .u8 l)], [] => some (some (l.length = 32), ⟨.t2 (.c (.nat two256 (leW l))) (.c (.bool true)), [], []⟩)
 | _, _ => none
theorem cLittle_ok : FnOk CX 183 cLittleS := by
 refine fnOkF hmo G00_ok (fn := Tryz.f183) (c := bodyOf' Tryz.f183) (by kernel_rfl) (by kernel_rfl) (by kernel_rfl) ?_
 intro xs bl p o hF hp
 unfold cLittleS at hF
 split at hF
 ·rename_i l
  injection hF with hF; injection hF with e1 e2; subst e1; subst e2
  have hp : l.length = 32 := hp
  refine ⟨Nat.le_of_ble_eq_true (by kernel_rfl), fun X hX hfa => ⟨[(0, loopW 0 [] [2, 4, 11, 12, 13] (liT l 0 0) (l.length = 32 ∧ byt l) false (liF (leP l 32)))], 999, ?_⟩⟩
  refine ⟨bif (Nat.cast (R := Int) l.length) != 32 then some (Out.mk ((AV.c (CV.nat two256 0)).t2 (AV.c (CV.bool false))) [] []) = some (Out.mk ((AV.c (CV.nat two256 (leW l))).t2 (AV.c (CV.bool true))) [] []) else LOk CX X 0 (loopAt 0 Tryz.f183) (loopW 0 [] [2, 4, 11, 12, 13] (liT l 0 0) (l.length = 32 ∧ byt l) false (liF (leP l 32))) ∧ some (St.mk [(2, AV.ptr (Base.l 0) 0 4 0), (4, AV.ptr (Base.l 1) 0 4 0), (11, AV.c (CV.ints IntKind.u8 l)), (12, AV.c (CV.int IntKind.i64 (Nat.cast (R := Int) l.length))), (13, AV.c (CV.int IntKind.i64 0))] [(0, Blk'.cells 45 4 (Body.els [AV.c (CV.nat two256 0)])), (1, Blk'.cells 45 4 (Body.els [AV.c (CV.nat two256 0)]))] 2 32) = some (liT l 0 0) ∧ (l.length = 32 ∧ byt l) ∧ some (Out.mk ((AV.c (CV.nat two256 (leP l 32))).t2 (AV.c (CV.bool true))) [] []) = some (Out.mk ((AV.c (CV.nat two256 (leW l))).t2 (AV.c (CV.bool true))) [] []), by kernel_rfl, ?_⟩
  rw [← leP_all hp]
  exact cond_no (by simp; omega) ⟨little_l0 hX l, rfl, ⟨hp, fun x hx => okI_u8.1 ((hfa.sl 0 _ rfl).1 x hx)⟩, rfl⟩
 ·cases hF
def byB (l : List Int) : Blk' := .cells 5 1 (.ints .u8 l)
def oB (n : Nat) (l : List Int) : Option Out := some ⟨.own 0 1 n, [], [.cells 5 1 (.ints .u8 l)]⟩
noncomputable def cPutLittleS : FSpec := fun xs bl => match xs, bl with
 | [.c (.nat mm1 x)], [] => bif Nat.beq mm1 two256 then some (none, ⟨.own 0 1 32, [], [.cells 5 1 (.ints .u8 (leL x))]⟩) else none
 | _, _ => none
theorem cPutLittle_ok : FnOk CX 98 cPutLittleS := by
 refine fnOkF hmo G00_ok (fn := Tryz.f98) (c := bodyOf' Tryz.f98) (by kernel_rfl) (by kernel_rfl) (by kernel_rfl) ?_
 intro xs bl p o hF hp
 unfold cPutLittleS at hF
 split at hF
 ·rename_i mm1 x
  obtain ⟨hg, hF⟩ := guard_some hF
  have hg0 := beqN hg
  subst hg0
  injection hF with hF; injection hF with e1 e2; subst e1; subst e2
  refine ⟨Nat.le_of_ble_eq_true (by kernel_rfl), fun X hX hfa => ⟨[], 999, ?_⟩⟩
  refine ⟨oB 32 (leK x) = oB 32 (leL x), by kernel_rfl, ?_⟩
  rw [leK_eq]
 ·cases hF
def rvI (n : Nat) (l : List Int) (i : Nat) : St := ⟨[(0, .own 0 1 n), (2, .c (.int .i64 (i : Nat))), (3, .c (.int .i64 ((n : Int) - 1 - (i : Nat))))], [(0, .cells 5 1 (.ints .u8 (rvL l i)))], 1, 28⟩
def rvS (n : Nat) (l : List Int) : St := ⟨[(0, .own 0 1 n), (2, .c (.int .i64 0)), (3, .c (.int .i64 (IntKind.i64.wrap ((n : Int) - 1))))], [(0, .cells 5 1 (.ints .u8 l))], 1, 28⟩
def rvF (l : List Int) : St := ⟨[], [(0, .cells 5 1 (.ints .u8 l.reverse))], 1, 28⟩
theorem rev_l0 {X : Snap} (hX : ∀ b L, X.ι b = some L → b < 1) (n : Nat) (l : List Int) : LOk CX X 0 (loopAt 0 Tryz.f288) (loopW 1 [] [0, 2, 3] (rvS n l) (n = l.length ∧ n ≤ 1000000000) false (rvF l)) := by
 refine loopW_ok hmo G00_ok (by kernel_rfl) hX [] [] (rvI n l) (fun i => 2 * i ≤ l.length + 1) (fun i => l.length - i) 0 (fun hp => by unfold rvI rvS; rw [rvL_zero, wi (by omega), Int.natCast_zero, Int.sub_zero]) (fun _ => by omega) ?_
 intro hp i hi hfa
 refine ⟨[], 999, ?_⟩
 refine ⟨bif decide ((Nat.cast (R := Int) i) < (Nat.cast (R := Int) n) - 1 - (Nat.cast (R := Int) i)) then bif decide (0 ≤ (Nat.cast (R := Int) n) - 1 - (Nat.cast (R := Int) i)) && decide ((Nat.cast (R := Int) n) - 1 - (Nat.cast (R := Int) i) < (Nat.cast (R := Int) n)) then bif decide ((Nat.cast (R := Int) i) < (Nat.cast (R := Int) n)) then bif decide ((Nat.cast (R := Int) i) < (Nat.cast (R := Int) n)) then bif decide (0 ≤ (Nat.cast (R := Int) n) - 1 - (Nat.cast (R := Int) i)) && decide ((Nat.cast (R := Int) n) - 1 - (Nat.cast (R := Int) i) < (Nat.cast (R := Int) n)) then ∃ (v' : Nat), some (St.mk [(0, AV.own 0 1 n), (2, AV.c (CV.int IntKind.i64 (IntKind.i64.wrap ((Nat.cast (R := Int) i) + 1)))), (3, AV.c (CV.int IntKind.i64 (IntKind.i64.wrap ((Nat.cast (R := Int) n) - 1 - (Nat.cast (R := Int) i) - 1))))] [(0, Blk'.cells 5 1 (Body.ints IntKind.u8 (((rvL l i).set (Nat.cast (R := Int) i).toNat ((rvL l i).getD ((Nat.cast (R := Int) n) - 1 - (Nat.cast (R := Int) i)).toNat 0)).set ((Nat.cast (R := Int) n) - 1 - (Nat.cast (R := Int) i)).toNat ((rvL l i).getD (Nat.cast (R := Int) i).toNat 0))))] 1 28) = some (rvI n l v') ∧ l.length - v' < l.length - i ∧ 2 * v' ≤ l.length + 1 else False else False else False else False else false = false ∧ some (St.mk [] [(0, Blk'.cells 5 1 (Body.ints IntKind.u8 (rvL l i)))] 1 28) = some (rvF l), by kernel_rfl, ?_⟩
 obtain ⟨rfl, hn⟩ : n = l.length ∧ n ≤ 1000000000 := hp
 have hi : 2 * i ≤ l.length + 1 := hi
 refine cond_intro (fun h => ?_) (fun h => ?_)
 ·have h := of_decide_eq_true h
  have e : ((l.length : Int) - 1 - (i : Int)).toNat = l.length - 1 - i := by omega
  have hs := rvL_step (l := l) (i := i) (by omega)
  rw [e, Int.toNat_natCast, hs, wi (x := (i : Int) + 1) (by omega), wi (x := (l.length : Int) - 1 - (i : Int) - 1) (by omega), show (l.length : Int) - 1 - (i : Int) - 1 = (l.length : Int) - 1 - ((i + 1 : Nat) : Int) by omega]
  exact cond_at (by simp; omega) <| cond_at (by simp; omega) <| cond_at (by simp; omega) <| cond_at (by simp; omega) ⟨i + 1, rfl, by omega, by omega⟩
 ·have h := of_decide_eq_false h
  rw [rvL_end (by omega)]
  exact ⟨rfl, rfl⟩
noncomputable def revBS : FSpec := fun xs bl => match xs, bl with
 | [.own 0 1 n], [.cells 5 1 (.ints .u8 l)] => some (some (n = l.length ∧ n ≤ 1000000000), ⟨.t0, [some (.cells 5 1 (.ints .u8 l.reverse))], []⟩)
 | _, _ => none
theorem revB_ok : FnOk CX 288 revBS := by
 refine fnOkF hmo G00_ok (fn := Tryz.f288) (c := bodyOf' Tryz.f288) (by kernel_rfl) (by kernel_rfl) (by kernel_rfl) ?_
 intro xs bl p o hF hp
 unfold revBS at hF
 split at hF
 ·rename_i n l
  injection hF with hF; injection hF with e1 e2; subst e1; subst e2
  have hp : n = l.length ∧ n ≤ 1000000000 := hp
  refine ⟨Nat.le_of_ble_eq_true (by kernel_rfl), fun X hX hfa => ⟨[(0, loopW 1 [] [0, 2, 3] (rvS n l) (n = l.length ∧ n ≤ 1000000000) false (rvF l))], 999, ?_⟩⟩
  refine ⟨LOk CX X 0 (loopAt 0 Tryz.f288) (loopW 1 [] [0, 2, 3] (rvS n l) (n = l.length ∧ n ≤ 1000000000) false (rvF l)) ∧ some (St.mk [(0, AV.own 0 1 n), (2, AV.c (CV.int IntKind.i64 0)), (3, AV.c (CV.int IntKind.i64 (IntKind.i64.wrap ((Nat.cast (R := Int) n) - 1))))] [(0, Blk'.cells 5 1 (Body.ints IntKind.u8 l))] 1 28) = some (rvS n l) ∧ (n = l.length ∧ n ≤ 1000000000) ∧ some (Out.mk AV.t0 [some (Blk'.cells 5 1 (Body.ints IntKind.u8 l.reverse))] []) = some (Out.mk AV.t0 [some (Blk'.cells 5 1 (Body.ints IntKind.u8 l.reverse))] []), by kernel_rfl, ?_⟩
  exact ⟨rev_l0 hX n l, rfl, hp, rfl⟩
 ·cases hF
end Go.Proofs.YtffdoihhjfjgoaaGreatDoor
/- What the seat's program says of its types, and the laws of append at it. -/
namespace Go.Proofs.YtffdoihhjfjgoaaGreatDoor
open Go.RowKit Go.Chr
theorem info_u8 : (Tryz.prog.info? 5).map (fun i => (i.zero, i.size, i.bytes)) = some (some (.int .u8 0), 1, 1) := by kernel_rfl
theorem app_u8 {w : World} {B : Nat} {ops : Array Oper} {rest : List Oper} {o : Oper} {a : Act} {Q : Exit → Act → World → Prop} (hgd : o.guard = none) (s x : Operand)
  (ho : o.op = .call { callee := .builtin .append, args := #[s, x], argTypes := #[27, 27] })
  (v u : Value) (l m : List Int) (hs : a.eval s = v) (hx : a.eval x = u) (hown : OI w B 5 .u8 v l) (hr : RI w .u8 u m)
  (hlen : l.length + m.length ≤ 140737488355328) (hbase : B ≤ w.heap.size)
  (h : ∀ v' w', OI w' B 5 .u8 v' (l ++ m) → Below B w w' → w.grownBy w' v.ownBlock → (v'.ownBlock = v.ownBlock ∨ v'.ownBlock = some w.heap.size) → wpList Tryz.prog ops Q rest (a.put o.dst v') w') :
  wpList Tryz.prog ops Q (o :: rest) a w := by
 obtain ⟨i0, hi0, hz0, hz1, hz2⟩ := info_parts info_u8
 obtain ⟨A, c, rfl, hc, hr⟩ := hr
 refine wpList_append_any w hgd s x 27 ho B 5 i0 _ 1 1 Tryz.underlying27 hi0 hz0 hz1 hz2 rfl (by omega) v l.length _ hs hown w.heap.size A m.length c _ hx hr
  (fun _ hu => oneCell_ints hu) (by simp only [maxLen]; omega) (by omega) hbase ?_
 intro v' w' h1 h2 h3
 refine h v' w' ?_ ?_ h2 h3
 ·unfold OI; rw [List.map_append, List.length_append]; exact h1
 ·refine (Below.refl B w).grown h2 hbase fun k hk => ?_
  exact (hown.lt k hk).1
end Go.Proofs.YtffdoihhjfjgoaaGreatDoor
/- The plain functions of the codec. -/
namespace Go.Chr
def lt8 (f : Nat → Int) : Nat → Int
 | 0 => 0
 | n + 1 => lt8 f n + f n * 256 ^ n
def limbTo (l : List Int) (j k : Nat) : Int := lt8 (fun i => l.getD (8 * j + i) 0) (min 8 (k - 8 * j))
def leTo (l : List Int) (k : Nat) : List Int := [limbTo l 0 k, limbTo l 1 k, limbTo l 2 k, limbTo l 3 k]
def leN (l : List Int) : List Int := leTo l 32
def natB (b : List Int) : List Int := leN (List.replicate (32 - b.length) 0 ++ b).reverse
end Go.Chr
/- Contracts of the codec, and of what it calls. -/
namespace Go.Proofs.YtffdoihhjfjgoaaGreatDoor
open Go.RowKit Go.Chr
def RetB (w : World) (l : List Int) (e : Ending) (w' : World) : Prop := ∃ v, e = .returned v ∧ OI w' w.heap.size 5 .u8 v l ∧ Below w.heap.size w w'
set_option maxHeartbeats 400000 in
theorem clone_any (u : Value) (l : List Int) (w : World) (hu : RI w .u8 u l) (hlen : l.length ≤ 140737488355328) :
  Calls Tryz.prog 114 #[u] w (RetB w l) := by
 have hu' := hu
 obtain ⟨A, c, rfl, hc, hr⟩ := hu
 have heq : ∀ w : World, (binOp .eql 27 (.slice A l.length c) (.slice none 0 0)).run Tryz.prog w = .ok (.bool A.isNone) w := fun w => Lib.run_eql_slice_nil (P := Tryz.prog) w 27 5 A l.length c 0 0 Tryz.underlying27
 have hbs : ∀ w, (Instr.buildSlice 27 0 #[]).run Tryz.prog w = .ok (.slice (some ⟨w.heap.size, 0, none⟩) 0 0) (w.alloc (.cells #[] 5)) := fun _ => by kernel_rfl
 rcases A with _ | ad
 ·have : l = [] := by
   rcases l with _ | ⟨x, l⟩
   ·rfl
   ·obtain ⟨ad, h, _⟩ := hr.2 (by simp)
    cases h
  subst this
  simp only [Option.isNone_none, List.length_nil] at heq
  go_enter Tryz.func114, Tryz.ntmps114
  go_wp2
  go_ret
  exact ⟨_, rfl, OI.nil _ _ _ _, Below.refl _ _⟩
 ·simp only [Option.isNone_some] at heq
  go_enter Tryz.func114, Tryz.ntmps114
  go_wp2_with (at_builtin; refine app_u8 (B := w.heap.size) rfl (.tmp 5) (.tmp 6) rfl _ _ [] l rfl rfl (OI.mk (sp := []) (Blk.new w 5 #[]) (Nat.le_refl _) rfl (by simp)) (hu'.below ((Below.refl _ _).alloc (Nat.le_refl _) _)) (by simpa using hlen) (by simp) ?_; intro v1 w1 hv hb _ _)
  go_ret
  exact ⟨v1, rfl, by simpa using hv, ((Below.refl _ _).alloc (Nat.le_refl _) _).trans hb⟩
end Go.Proofs.YtffdoihhjfjgoaaGreatDoor
/- Contracts of the references' codec. -/
namespace Go.Proofs.YtffdoihhjfjgoaaGreatDoor
open Go.RowKit Go.Chr
end Go.Proofs.YtffdoihhjfjgoaaGreatDoor
