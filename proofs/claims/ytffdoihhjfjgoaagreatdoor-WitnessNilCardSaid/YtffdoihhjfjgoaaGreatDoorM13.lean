import Derived.Test.YtffdoihhjfjgoaaGreatDoorM10
import Derived.Test.YtffdoihhjfjgoaaGreatDoorM11
import Derived.Test.YtffdoihhjfjgoaaGreatDoorM12
import Derived.Test.YtffdoihhjfjgoaaGreatDoorM9
import Derived.ProofKit
import Derived.OpenShut
import Derived.ChangeOld
import Derived.Below
import Derived.Carry
import Derived.Lib.SmallJoins
import Derived.Laws.IdiomArrays
import Derived.Test.YtffdoihhjfjgoaaGreatDoorM8
import Derived.Test.YtffdoihhjfjgoaaGreatDoorM7
import Derived.Lib.LaidTab
import Derived.Deep.Strs
import Derived.Deep.DeepHandedRow
import Derived.Lay
import Derived.Deep.Slices
import Derived.ChangeMaps5
import Derived.Test.YtffdoihhjfjgoaaGreatDoorRows
import Derived.SevenTiedAt
import Derived.Test.YtffdoihhjfjgoaaGreatDoorCards
import Derived.Test.YtffdoihhjfjgoaaGreatDoorTie
/- The layer p256: what does not loop. -/
namespace Go.Proofs.YtffdoihhjfjgoaaGreatDoor
open Go Go.Ab Go.RowKit Go.Chr
set_option maxRecDepth 100000
theorem kB0 : kB 0 := by unfold kB; omega
noncomputable def pAddS : FSpec := fun xs bl => match xs, bl with
 | [.c (.nat mm1 x), .c (.nat mm2 y)], [] => bif Nat.beq mm1 two256 && Nat.beq mm2 two256 then some (none, ⟨.c (.nat two256 (fadd 0 x y)), [], []⟩) else none
 | _, _ => none
theorem pAdd_ok : FnOk CX 286 pAddS := by
 refine fnOkF hmo G0_ok (fn := Tryz.f286) (c := bodyOf' Tryz.f286) (by kernel_rfl) (by kernel_rfl) (by kernel_rfl) ?_
 intro xs bl p o hF hp
 unfold pAddS at hF
 split at hF
 ·rename_i mm1 x mm2 y
  obtain ⟨hg, hF⟩ := guard_some hF
  simp only [Bool.and_eq_true] at hg
  have hg0 := beqN hg.1
  have hg1 := beqN hg.2
  subst hg0; subst hg1
  injection hF with hF; injection hF with e1 e2; subst e1; subst e2
  refine ⟨Nat.le_of_ble_eq_true (by kernel_rfl), fun X hX hfa => ⟨[], 999, ?_⟩⟩
  refine ⟨kB 0 ∧ some (Out.mk (AV.c (CV.nat two256 (fadd 0 x y))) [] []) = some (Out.mk (AV.c (CV.nat two256 (fadd 0 x y))) [] []), by kernel_rfl, ?_⟩
  exact ⟨kB0, rfl⟩
 ·cases hF
noncomputable def pSubS : FSpec := fun xs bl => match xs, bl with
 | [.c (.nat mm1 x), .c (.nat mm2 y)], [] => bif Nat.beq mm1 two256 && Nat.beq mm2 two256 then some (none, ⟨.c (.nat two256 (fsub 0 x y)), [], []⟩) else none
 | _, _ => none
theorem pSub_ok : FnOk CX 287 pSubS := by
 refine fnOkF hmo G0_ok (fn := Tryz.f287) (c := bodyOf' Tryz.f287) (by kernel_rfl) (by kernel_rfl) (by kernel_rfl) ?_
 intro xs bl p o hF hp
 unfold pSubS at hF
 split at hF
 ·rename_i mm1 x mm2 y
  obtain ⟨hg, hF⟩ := guard_some hF
  simp only [Bool.and_eq_true] at hg
  have hg0 := beqN hg.1
  have hg1 := beqN hg.2
  subst hg0; subst hg1
  injection hF with hF; injection hF with e1 e2; subst e1; subst e2
  refine ⟨Nat.le_of_ble_eq_true (by kernel_rfl), fun X hX hfa => ⟨[], 999, ?_⟩⟩
  refine ⟨kB 0 ∧ some (Out.mk (AV.c (CV.nat two256 (fsub 0 x y))) [] []) = some (Out.mk (AV.c (CV.nat two256 (fsub 0 x y))) [] []), by kernel_rfl, ?_⟩
  exact ⟨kB0, rfl⟩
 ·cases hF
noncomputable def pMulS : FSpec := fun xs bl => match xs, bl with
 | [.c (.nat mm1 x), .c (.nat mm2 y)], [] => bif Nat.beq mm1 two256 && Nat.beq mm2 two256 then some (none, ⟨.c (.nat two256 (fmul 0 x y)), [], []⟩) else none
 | _, _ => none
theorem pMul_ok : FnOk CX 285 pMulS := by
 refine fnOkF hmo G0_ok (fn := Tryz.f285) (c := bodyOf' Tryz.f285) (by kernel_rfl) (by kernel_rfl) (by kernel_rfl) ?_
 intro xs bl p o hF hp
 unfold pMulS at hF
 split at hF
 ·rename_i mm1 x mm2 y
  obtain ⟨hg, hF⟩ := guard_some hF
  simp only [Bool.and_eq_true] at hg
  have hg0 := beqN hg.1
  have hg1 := beqN hg.2
  subst hg0; subst hg1
  injection hF with hF; injection hF with e1 e2; subst e1; subst e2
  refine ⟨Nat.le_of_ble_eq_true (by kernel_rfl), fun X hX hfa => ⟨[], 999, ?_⟩⟩
  refine ⟨kB 0 ∧ some (Out.mk (AV.c (CV.nat two256 (fmul 0 x y))) [] []) = some (Out.mk (AV.c (CV.nat two256 (fmul 0 x y))) [] []), by kernel_rfl, ?_⟩
  exact ⟨kB0, rfl⟩
 ·cases hF
noncomputable def G1 : Tab := (286, lift [true, true] pAddS) :: (287, lift [true, true] pSubS) :: (285, lift [true, true] pMulS) :: G0
theorem G1_ok : TabOk CX G1 := .cons (lift_ok pAdd_ok _) <| .cons (lift_ok pSub_ok _) <| .cons (lift_ok pMul_ok _) G0_ok
def gX : Nat := 48439561293906451759052585252797914202762949526041747995844080717082404635286
def gY : Nat := 36134250956749795798585127919587881956611106672985015071877198253568414405109
noncomputable def pBaseS : FSpec := fun xs bl => match xs, bl with
 | [], [] => some (none, ⟨.c (.pr (.nat two256 gX) (.pr (.nat two256 gY) (.pr (.bool false) .nl))), [], []⟩)
 | _, _ => none
theorem pBase_ok : FnOk CX 83 pBaseS := by
 refine fnOkF hmo G1_ok (fn := Tryz.f83) (c := bodyOf' Tryz.f83) (by kernel_rfl) (by kernel_rfl) (by kernel_rfl) ?_
 intro xs bl p o hF hp
 unfold pBaseS at hF
 split at hF
 ·skip
  injection hF with hF; injection hF with e1 e2; subst e1; subst e2
  refine ⟨Nat.le_of_ble_eq_true (by kernel_rfl), fun X hX hfa => ⟨[], 999, ?_⟩⟩
  refine ⟨some (Out.mk (AV.c ((CV.nat two256 48439561293906451759052585252797914202762949526041747995844080717082404635286).pr ((CV.nat two256 36134250956749795798585127919587881956611106672985015071877198253568414405109).pr ((CV.bool false).pr CV.nl)))) [] []) = some (Out.mk (AV.c ((CV.nat two256 gX).pr ((CV.nat two256 gY).pr ((CV.bool false).pr CV.nl)))) [] []), by kernel_rfl, ?_⟩
  rfl
 ·cases hF
end Go.Proofs.YtffdoihhjfjgoaaGreatDoor
/- The layer p256. -/
namespace Go.Proofs.YtffdoihhjfjgoaaGreatDoor
open Go Go.Ab Go.RowKit Go.Chr
set_option maxRecDepth 100000
noncomputable def G8a : Tab := (286, lift [true, true] pAddS) :: (287, lift [true, true] pSubS) :: (285, lift [true, true] pMulS) :: (83, lift [] pBaseS) :: G0
theorem G8a_ok : TabOk CX G8a := .cons (lift_ok pAdd_ok _) <| .cons (lift_ok pSub_ok _) <| .cons (lift_ok pMul_ok _) <| .cons (lift_ok pBase_ok _) G0_ok
abbrev T3 := Nat × Nat × Nat
def cv3 (t : T3) : CV := .pr (.nat two256 t.1) (.pr (.nat two256 t.2.1) (.pr (.nat two256 t.2.2) .nl))
noncomputable def onF (x y : Nat) : Bool := (fbelow 0 x && fbelow 0 y) && Nat.beq (fmul 0 y y) (fadd 0 (fsub 0 (fmul 0 (fmul 0 x x) x) (fadd 0 x (fadd 0 x x))) cvB)
noncomputable def formedF (x y : Nat) (n : Bool) : Bool := bif n then Nat.beq x 0 && Nat.beq y 0 else onF x y
noncomputable def pFormedS : FSpec := fun xs bl => match xs, bl with
 | [.c (.pr (.nat mm1 x) (.pr (.nat mm2 y) (.pr (.bool n) .nl)))], [] => bif Nat.beq mm1 two256 && Nat.beq mm2 two256 then some (none, ⟨.c (.bool (formedF x y n)), [], []⟩) else none
 | _, _ => none
theorem pFormed_ok : FnOk CX 190 pFormedS := by
 refine fnOkF hmo G8a_ok (fn := Tryz.f190) (c := bodyOf' Tryz.f190) (by kernel_rfl) (by kernel_rfl) (by kernel_rfl) ?_
 intro xs bl p o hF hp
 unfold pFormedS at hF
 split at hF
 ·rename_i mm1 x mm2 y n
  obtain ⟨hg, hF⟩ := guard_some hF
  simp only [Bool.and_eq_true] at hg
  have hg0 := beqN hg.1
  have hg1 := beqN hg.2
  subst hg0; subst hg1
  injection hF with hF; injection hF with e1 e2; subst e1; subst e2
  refine ⟨Nat.le_of_ble_eq_true (by kernel_rfl), fun X hX hfa => ⟨[], 999, ?_⟩⟩
  refine ⟨bif n then some (Out.mk (AV.c (CV.bool (x.beq 0 && (y.beq 0 && n == true)))) [] []) = some (Out.mk (AV.c (CV.bool (formedF x y n))) [] []) else kB 0 ∧ bif !fbelow 0 x then some (Out.mk (AV.c (CV.bool false)) [] []) = some (Out.mk (AV.c (CV.bool (formedF x y n))) [] []) else kB 0 ∧ bif !fbelow 0 y then some (Out.mk (AV.c (CV.bool false)) [] []) = some (Out.mk (AV.c (CV.bool (formedF x y n))) [] []) else some (Out.mk (AV.c (CV.bool ((fmul 0 y y).beq (fadd 0 (fsub 0 (fmul 0 (fmul 0 x x) x) (fadd 0 x (fadd 0 x x))) cvB)))) [] []) = some (Out.mk (AV.c (CV.bool (formedF x y n))) [] []), by kernel_rfl, ?_⟩
  refine cond_intro (fun h => ?_) (fun h => ?_)
  ·subst h; simp [formedF]
  ·subst h
   refine ⟨kB0, cond_intro (fun h => ?_) (fun h => ⟨kB0, cond_intro (fun h2 => ?_) (fun h2 => ?_)⟩)⟩
   ·simp at h; simp [formedF, onF, h]
   ·simp at h2; simp [formedF, onF, h2]
   ·simp at h h2; simp [formedF, onF, h, h2]
 ·cases hF
noncomputable def G8b : Tab := (190, lift [true] pFormedS) :: G8a
theorem G8b_ok : TabOk CX G8b := .cons (lift_ok pFormed_ok _) G8a_ok
noncomputable def liftF (x y : Nat) (n : Bool) : T3 := bif n || !onF x y then (0, 1, 0) else (x, y, 1)
noncomputable def pLiftS : FSpec := fun xs bl => match xs, bl with
 | [.c (.pr (.nat mm1 x) (.pr (.nat mm2 y) (.pr (.bool n) .nl)))], [] => bif Nat.beq mm1 two256 && Nat.beq mm2 two256 then some (none, ⟨.c (cv3 (liftF x y n)), [], []⟩) else none
 | _, _ => none
theorem pLift_ok : FnOk CX 282 pLiftS := by
 refine fnOkF hmo G8b_ok (fn := Tryz.f282) (c := bodyOf' Tryz.f282) (by kernel_rfl) (by kernel_rfl) (by kernel_rfl) ?_
 intro xs bl p o hF hp
 unfold pLiftS at hF
 split at hF
 ·rename_i mm1 x mm2 y n
  obtain ⟨hg, hF⟩ := guard_some hF
  simp only [Bool.and_eq_true] at hg
  have hg0 := beqN hg.1
  have hg1 := beqN hg.2
  subst hg0; subst hg1
  injection hF with hF; injection hF with e1 e2; subst e1; subst e2
  refine ⟨Nat.le_of_ble_eq_true (by kernel_rfl), fun X hX hfa => ⟨[], 999, ?_⟩⟩
  refine ⟨bif n then some (Out.mk (AV.c ((CV.nat two256 0).pr ((CV.nat two256 1).pr ((CV.nat two256 0).pr CV.nl)))) [] []) = some (Out.mk (AV.c (cv3 (liftF x y n))) [] []) else bif !formedF x y n then some (Out.mk (AV.c ((CV.nat two256 0).pr ((CV.nat two256 1).pr ((CV.nat two256 0).pr CV.nl)))) [] []) = some (Out.mk (AV.c (cv3 (liftF x y n))) [] []) else some (Out.mk (AV.c ((CV.nat two256 x).pr ((CV.nat two256 y).pr ((CV.nat two256 1).pr CV.nl)))) [] []) = some (Out.mk (AV.c (cv3 (liftF x y n))) [] []), by kernel_rfl, ?_⟩
  refine cond_intro (fun h => ?_) (fun h => cond_intro (fun h2 => ?_) (fun h2 => ?_))
  ·subst h; simp [liftF, cv3]
  ·subst h; simp [formedF] at h2; simp [liftF, cv3, h2]
  ·subst h; simp [formedF] at h2; simp [liftF, cv3, h2]
 ·cases hF
abbrev PtN := Nat × Nat × Bool
def cvP (t : PtN) : CV := .pr (.nat two256 t.1) (.pr (.nat two256 t.2.1) (.pr (.bool t.2.2) .nl))
noncomputable def dropF (t : T3) : PtN := bif Nat.beq t.2.2 0 then (0, 0, true) else (fmul 0 t.1 (finv 0 t.2.2), fmul 0 t.2.1 (finv 0 t.2.2), false)
noncomputable def pDropS : FSpec := fun xs bl => match xs, bl with
 | [.c (.pr (.nat mm1 x) (.pr (.nat mm2 y) (.pr (.nat mm3 z) .nl)))], [] => bif Nat.beq mm1 two256 && Nat.beq mm2 two256 && Nat.beq mm3 two256 then some (none, ⟨.c (cvP (dropF (x, y, z))), [], []⟩) else none
 | _, _ => none
theorem pDrop_ok : FnOk CX 284 pDropS := by
 refine fnOkF hmo G8b_ok (fn := Tryz.f284) (c := bodyOf' Tryz.f284) (by kernel_rfl) (by kernel_rfl) (by kernel_rfl) ?_
 intro xs bl p o hF hp
 unfold pDropS at hF
 split at hF
 ·rename_i mm1 x mm2 y mm3 z
  obtain ⟨hg, hF⟩ := guard_some hF
  simp only [Bool.and_eq_true] at hg
  have hg0 := beqN hg.1.1
  have hg1 := beqN hg.1.2
  have hg2 := beqN hg.2
  subst hg0; subst hg1; subst hg2
  injection hF with hF; injection hF with e1 e2; subst e1; subst e2
  refine ⟨Nat.le_of_ble_eq_true (by kernel_rfl), fun X hX hfa => ⟨[], 999, ?_⟩⟩
  refine ⟨bif z.beq 0 then some (Out.mk (AV.c ((CV.nat two256 0).pr ((CV.nat two256 0).pr ((CV.bool true).pr CV.nl)))) [] []) = some (Out.mk (AV.c (cvP (dropF (x, y, z)))) [] []) else kB 0 ∧ some (Out.mk (AV.c ((CV.nat two256 (fmul 0 x (finv 0 z))).pr ((CV.nat two256 (fmul 0 y (finv 0 z))).pr ((CV.bool false).pr CV.nl)))) [] []) = some (Out.mk (AV.c (cvP (dropF (x, y, z)))) [] []), by kernel_rfl, ?_⟩
  refine cond_intro (fun h => ?_) (fun h => ⟨kB0, ?_⟩)
  ·simp [dropF, h, cvP]
  ·simp [dropF, h, cvP]
 ·cases hF
noncomputable def plsF (p q : T3) : T3 :=
 let mul := fmul 0
 let add := fadd 0
 let sub := fsub 0
 let t0 := mul p.1 q.1
 let t1 := mul p.2.1 q.2.1
 let t2 := mul p.2.2 q.2.2
 let t3 := sub (mul (add p.1 p.2.1) (add q.1 q.2.1)) (add t0 t1)
 let t4 := sub (mul (add p.2.1 p.2.2) (add q.2.1 q.2.2)) (add t1 t2)
 let y := sub (mul (add p.1 p.2.2) (add q.1 q.2.2)) (add t0 t2)
 let x := sub y (mul cvB t2)
 let x := add x (add x x)
 let z := sub t1 x
 let x := add t1 x
 let t2 := add t2 (add t2 t2)
 let y := sub (sub (mul cvB y) t2) t0
 let y := add y (add y y)
 let t0 := sub (add t0 (add t0 t0)) t2
 (sub (mul t3 x) (mul t4 y), add (mul x z) (mul t0 y), add (mul t4 z) (mul t3 t0))
noncomputable def pPlusS : FSpec := fun xs bl => match xs, bl with
 | [.c (.pr (.nat mm1 x) (.pr (.nat mm2 y) (.pr (.nat mm3 z) .nl))), .c (.pr (.nat mm4 u) (.pr (.nat mm5 v) (.pr (.nat mm6 w) .nl)))], [] => bif Nat.beq mm1 two256 && Nat.beq mm2 two256 && Nat.beq mm3 two256 && Nat.beq mm4 two256 && Nat.beq mm5 two256 && Nat.beq mm6 two256 then some (none, ⟨.c (cv3 (plsF (x, y, z) (u, v, w))), [], []⟩) else none
 | _, _ => none
theorem pPlus_ok : FnOk CX 283 pPlusS := by
 refine fnOkF hmo G8b_ok (fn := Tryz.f283) (c := bodyOf' Tryz.f283) (by kernel_rfl) (by kernel_rfl) (by kernel_rfl) ?_
 intro xs bl p o hF hp
 unfold pPlusS at hF
 split at hF
 ·rename_i mm1 x mm2 y mm3 z mm4 u mm5 v mm6 w
  obtain ⟨hg, hF⟩ := guard_some hF
  simp only [Bool.and_eq_true] at hg
  have hg0 := beqN hg.1.1.1.1.1
  have hg1 := beqN hg.1.1.1.1.2
  have hg2 := beqN hg.1.1.1.2
  have hg3 := beqN hg.1.1.2
  have hg4 := beqN hg.1.2
  have hg5 := beqN hg.2
  subst hg0; subst hg1; subst hg2; subst hg3; subst hg4; subst hg5
  injection hF with hF; injection hF with e1 e2; subst e1; subst e2
  refine ⟨Nat.le_of_ble_eq_true (by kernel_rfl), fun X hX hfa => ⟨[], 999, ?_⟩⟩
  exact ⟨some (Out.mk (.c (cv3 (plsF (x, y, z) (u, v, w)))) [] []) = some (Out.mk (.c (cv3 (plsF (x, y, z) (u, v, w)))) [] []), by kernel_rfl, rfl⟩
 ·cases hF
noncomputable def G8c : Tab := (282, lift [true] pLiftS) :: (284, lift [true] pDropS) :: (283, lift [true, true] pPlusS) :: G8b
theorem G8c_ok : TabOk CX G8c := .cons (lift_ok pLift_ok _) <| .cons (lift_ok pDrop_ok _) <| .cons (lift_ok pPlus_ok _) G8b_ok
noncomputable def pickF (P Q : T3) (k : Int) : T3 := bif k == 3 then plsF P Q else bif k == 2 then Q else P
noncomputable def stepF (u v : Nat) (P Q : T3) (i : Nat) (o : T3) : T3 :=
 bif decide (bitI u i + 2 * bitI v i > 0) then plsF (plsF o o) (pickF P Q (bitI u i + 2 * bitI v i)) else plsF o o
noncomputable def bothF (u v : Nat) (P Q : T3) : Nat → T3
 | 0 => (0, 1, 0)
 | n + 1 => stepF u v P Q (255 - n) (bothF u v P Q n)
def ptB (t : PtN) : Blk' := .cells 143 9 (.els [.c (cvP t)])
def triB (t : T3) : Blk' := .cells 321 12 (.els [.c (cv3 t)])
noncomputable def tabB (P Q : T3) : Blk' := .cells 324 48 (.els [.c (.pr (cv3 (0, 1, 0)) (.pr (cv3 P) (.pr (cv3 Q) (.pr (cv3 (plsF P Q)) .nl))))])
noncomputable def boI (u v : Nat) (P Q o : T3) (k : Nat) : St :=
 ⟨[(4, .ptr (.l 0) 0 4 0), (6, .ptr (.l 1) 0 4 0), (8, .ptr (.l 2) 0 9 0), (11, .ptr (.l 3) 0 48 0), (12, .ptr (.l 4) 0 12 0), (13, .c (.int .i64 ((255 : Int) - (k : Nat))))], [(0, natB u), (1, natB v), (2, ptB (0, 0, false)), (3, tabB P Q), (4, triB o)], 5, 53⟩
def boF (o : T3) : St := ⟨[(8, .ptr (.l 0) 0 9 0), (12, .ptr (.l 1) 0 12 0)], [(0, ptB (0, 0, false)), (1, triB o)], 2, 53⟩
theorem bit01 (x : Nat) (i : Int) : bitI x i = 0 ∨ bitI x i = 1 := by rw [bitI_eq]; omega
theorem both_l0 {X : Snap} (hX : ∀ b L, X.ι b = some L → b < 0) (u v : Nat) (P Q : T3) : LOk CX X 0 (loopAt 0 Tryz.f189) (loopW 0 [] [4, 6, 8, 11, 12, 13] (boI u v P Q (0, 1, 0) 0) True false (boF (bothF u v P Q 256))) := by
 refine loopW_ok hmo G8c_ok (by kernel_rfl) hX [8, 12] [] (fun k => boI u v P Q (bothF u v P Q k) k) (fun k => k ≤ 256) (fun k => 256 - k) 0 (fun _ => rfl) (fun _ => by omega) ?_
 intro hp k hk hfa
 refine ⟨[], 999, ?_⟩
 refine ⟨bif decide (255 - (Nat.cast (R := Int) k) ≥ 0) then (0 ≤ 255 - (Nat.cast (R := Int) k) ∧ 255 - (Nat.cast (R := Int) k) ≤ 255) ∧ (0 ≤ 255 - (Nat.cast (R := Int) k) ∧ 255 - (Nat.cast (R := Int) k) ≤ 255) ∧ bif decide (IntKind.i64.wrap (bitI u (255 - (Nat.cast (R := Int) k)) + IntKind.i64.wrap (2 * bitI v (255 - (Nat.cast (R := Int) k)))) > 0) then bif IntKind.i64.wrap (bitI u (255 - (Nat.cast (R := Int) k)) + IntKind.i64.wrap (2 * bitI v (255 - (Nat.cast (R := Int) k)))) == 3 then ∃ (v' : Nat), some (St.mk [(4, AV.ptr (Base.l 0) 0 4 0), (6, AV.ptr (Base.l 1) 0 4 0), (8, AV.ptr (Base.l 2) 0 9 0), (11, AV.ptr (Base.l 3) 0 48 0), (12, AV.ptr (Base.l 4) 0 12 0), (13, AV.c (CV.int IntKind.i64 (IntKind.i64.wrap (255 - (Nat.cast (R := Int) k) - 1))))] [(0, Blk'.cells 45 4 (Body.els [AV.c (CV.nat two256 u)])), (1, Blk'.cells 45 4 (Body.els [AV.c (CV.nat two256 v)])), (2, Blk'.cells 143 9 (Body.els [AV.c ((CV.nat two256 0).pr ((CV.nat two256 0).pr ((CV.bool false).pr CV.nl)))])), (3, Blk'.cells 324 48 (Body.els [AV.c (((CV.nat two256 0).pr ((CV.nat two256 1).pr ((CV.nat two256 0).pr CV.nl))).pr (((CV.nat two256 P.fst).pr ((CV.nat two256 P.snd.fst).pr ((CV.nat two256 P.snd.snd).pr CV.nl))).pr (((CV.nat two256 Q.fst).pr ((CV.nat two256 Q.snd.fst).pr ((CV.nat two256 Q.snd.snd).pr CV.nl))).pr (((CV.nat two256 (plsF P Q).fst).pr ((CV.nat two256 (plsF P Q).snd.fst).pr ((CV.nat two256 (plsF P Q).snd.snd).pr CV.nl))).pr CV.nl))))])), (4, Blk'.cells 321 12 (Body.els [AV.c ((CV.nat two256 (plsF (plsF (bothF u v P Q k) (bothF u v P Q k)) (plsF P Q)).fst).pr ((CV.nat two256 (plsF (plsF (bothF u v P Q k) (bothF u v P Q k)) (plsF P Q)).snd.fst).pr ((CV.nat two256 (plsF (plsF (bothF u v P Q k) (bothF u v P Q k)) (plsF P Q)).snd.snd).pr CV.nl)))]))] 5 53) = some (boI u v P Q (bothF u v P Q v') v') ∧ 256 - v' < 256 - k ∧ v' ≤ 256 else bif IntKind.i64.wrap (bitI u (255 - (Nat.cast (R := Int) k)) + IntKind.i64.wrap (2 * bitI v (255 - (Nat.cast (R := Int) k)))) == 2 then ∃ (v' : Nat), some (St.mk [(4, AV.ptr (Base.l 0) 0 4 0), (6, AV.ptr (Base.l 1) 0 4 0), (8, AV.ptr (Base.l 2) 0 9 0), (11, AV.ptr (Base.l 3) 0 48 0), (12, AV.ptr (Base.l 4) 0 12 0), (13, AV.c (CV.int IntKind.i64 (IntKind.i64.wrap (255 - (Nat.cast (R := Int) k) - 1))))] [(0, Blk'.cells 45 4 (Body.els [AV.c (CV.nat two256 u)])), (1, Blk'.cells 45 4 (Body.els [AV.c (CV.nat two256 v)])), (2, Blk'.cells 143 9 (Body.els [AV.c ((CV.nat two256 0).pr ((CV.nat two256 0).pr ((CV.bool false).pr CV.nl)))])), (3, Blk'.cells 324 48 (Body.els [AV.c (((CV.nat two256 0).pr ((CV.nat two256 1).pr ((CV.nat two256 0).pr CV.nl))).pr (((CV.nat two256 P.fst).pr ((CV.nat two256 P.snd.fst).pr ((CV.nat two256 P.snd.snd).pr CV.nl))).pr (((CV.nat two256 Q.fst).pr ((CV.nat two256 Q.snd.fst).pr ((CV.nat two256 Q.snd.snd).pr CV.nl))).pr (((CV.nat two256 (plsF P Q).fst).pr ((CV.nat two256 (plsF P Q).snd.fst).pr ((CV.nat two256 (plsF P Q).snd.snd).pr CV.nl))).pr CV.nl))))])), (4, Blk'.cells 321 12 (Body.els [AV.c ((CV.nat two256 (plsF (plsF (bothF u v P Q k) (bothF u v P Q k)) Q).fst).pr ((CV.nat two256 (plsF (plsF (bothF u v P Q k) (bothF u v P Q k)) Q).snd.fst).pr ((CV.nat two256 (plsF (plsF (bothF u v P Q k) (bothF u v P Q k)) Q).snd.snd).pr CV.nl)))]))] 5 53) = some (boI u v P Q (bothF u v P Q v') v') ∧ 256 - v' < 256 - k ∧ v' ≤ 256 else bif IntKind.i64.wrap (bitI u (255 - (Nat.cast (R := Int) k)) + IntKind.i64.wrap (2 * bitI v (255 - (Nat.cast (R := Int) k)))) == 1 then ∃ (v' : Nat), some (St.mk [(4, AV.ptr (Base.l 0) 0 4 0), (6, AV.ptr (Base.l 1) 0 4 0), (8, AV.ptr (Base.l 2) 0 9 0), (11, AV.ptr (Base.l 3) 0 48 0), (12, AV.ptr (Base.l 4) 0 12 0), (13, AV.c (CV.int IntKind.i64 (IntKind.i64.wrap (255 - (Nat.cast (R := Int) k) - 1))))] [(0, Blk'.cells 45 4 (Body.els [AV.c (CV.nat two256 u)])), (1, Blk'.cells 45 4 (Body.els [AV.c (CV.nat two256 v)])), (2, Blk'.cells 143 9 (Body.els [AV.c ((CV.nat two256 0).pr ((CV.nat two256 0).pr ((CV.bool false).pr CV.nl)))])), (3, Blk'.cells 324 48 (Body.els [AV.c (((CV.nat two256 0).pr ((CV.nat two256 1).pr ((CV.nat two256 0).pr CV.nl))).pr (((CV.nat two256 P.fst).pr ((CV.nat two256 P.snd.fst).pr ((CV.nat two256 P.snd.snd).pr CV.nl))).pr (((CV.nat two256 Q.fst).pr ((CV.nat two256 Q.snd.fst).pr ((CV.nat two256 Q.snd.snd).pr CV.nl))).pr (((CV.nat two256 (plsF P Q).fst).pr ((CV.nat two256 (plsF P Q).snd.fst).pr ((CV.nat two256 (plsF P Q).snd.snd).pr CV.nl))).pr CV.nl))))])), (4, Blk'.cells 321 12 (Body.els [AV.c ((CV.nat two256 (plsF (plsF (bothF u v P Q k) (bothF u v P Q k)) P).fst).pr ((CV.nat two256 (plsF (plsF (bothF u v P Q k) (bothF u v P Q k)) P).snd.fst).pr ((CV.nat two256 (plsF (plsF (bothF u v P Q k) (bothF u v P Q k)) P).snd.snd).pr CV.nl)))]))] 5 53) = some (boI u v P Q (bothF u v P Q v') v') ∧ 256 - v' < 256 - k ∧ v' ≤ 256 else bif IntKind.i64.wrap (bitI u (255 - (Nat.cast (R := Int) k)) + IntKind.i64.wrap (2 * bitI v (255 - (Nat.cast (R := Int) k)))) == 0 then ∃ (v' : Nat), some (St.mk [(4, AV.ptr (Base.l 0) 0 4 0), (6, AV.ptr (Base.l 1) 0 4 0), (8, AV.ptr (Base.l 2) 0 9 0), (11, AV.ptr (Base.l 3) 0 48 0), (12, AV.ptr (Base.l 4) 0 12 0), (13, AV.c (CV.int IntKind.i64 (IntKind.i64.wrap (255 - (Nat.cast (R := Int) k) - 1))))] [(0, Blk'.cells 45 4 (Body.els [AV.c (CV.nat two256 u)])), (1, Blk'.cells 45 4 (Body.els [AV.c (CV.nat two256 v)])), (2, Blk'.cells 143 9 (Body.els [AV.c ((CV.nat two256 0).pr ((CV.nat two256 0).pr ((CV.bool false).pr CV.nl)))])), (3, Blk'.cells 324 48 (Body.els [AV.c (((CV.nat two256 0).pr ((CV.nat two256 1).pr ((CV.nat two256 0).pr CV.nl))).pr (((CV.nat two256 P.fst).pr ((CV.nat two256 P.snd.fst).pr ((CV.nat two256 P.snd.snd).pr CV.nl))).pr (((CV.nat two256 Q.fst).pr ((CV.nat two256 Q.snd.fst).pr ((CV.nat two256 Q.snd.snd).pr CV.nl))).pr (((CV.nat two256 (plsF P Q).fst).pr ((CV.nat two256 (plsF P Q).snd.fst).pr ((CV.nat two256 (plsF P Q).snd.snd).pr CV.nl))).pr CV.nl))))])), (4, Blk'.cells 321 12 (Body.els [AV.c ((CV.nat two256 (plsF (plsF (bothF u v P Q k) (bothF u v P Q k)) (0, 1, 0)).fst).pr ((CV.nat two256 (plsF (plsF (bothF u v P Q k) (bothF u v P Q k)) (0, 1, 0)).snd.fst).pr ((CV.nat two256 (plsF (plsF (bothF u v P Q k) (bothF u v P Q k)) (0, 1, 0)).snd.snd).pr CV.nl)))]))] 5 53) = some (boI u v P Q (bothF u v P Q v') v') ∧ 256 - v' < 256 - k ∧ v' ≤ 256 else False else ∃ (v' : Nat), some (St.mk [(4, AV.ptr (Base.l 0) 0 4 0), (6, AV.ptr (Base.l 1) 0 4 0), (8, AV.ptr (Base.l 2) 0 9 0), (11, AV.ptr (Base.l 3) 0 48 0), (12, AV.ptr (Base.l 4) 0 12 0), (13, AV.c (CV.int IntKind.i64 (IntKind.i64.wrap (255 - (Nat.cast (R := Int) k) - 1))))] [(0, Blk'.cells 45 4 (Body.els [AV.c (CV.nat two256 u)])), (1, Blk'.cells 45 4 (Body.els [AV.c (CV.nat two256 v)])), (2, Blk'.cells 143 9 (Body.els [AV.c ((CV.nat two256 0).pr ((CV.nat two256 0).pr ((CV.bool false).pr CV.nl)))])), (3, Blk'.cells 324 48 (Body.els [AV.c (((CV.nat two256 0).pr ((CV.nat two256 1).pr ((CV.nat two256 0).pr CV.nl))).pr (((CV.nat two256 P.fst).pr ((CV.nat two256 P.snd.fst).pr ((CV.nat two256 P.snd.snd).pr CV.nl))).pr (((CV.nat two256 Q.fst).pr ((CV.nat two256 Q.snd.fst).pr ((CV.nat two256 Q.snd.snd).pr CV.nl))).pr (((CV.nat two256 (plsF P Q).fst).pr ((CV.nat two256 (plsF P Q).snd.fst).pr ((CV.nat two256 (plsF P Q).snd.snd).pr CV.nl))).pr CV.nl))))])), (4, Blk'.cells 321 12 (Body.els [AV.c ((CV.nat two256 (plsF (bothF u v P Q k) (bothF u v P Q k)).fst).pr ((CV.nat two256 (plsF (bothF u v P Q k) (bothF u v P Q k)).snd.fst).pr ((CV.nat two256 (plsF (bothF u v P Q k) (bothF u v P Q k)).snd.snd).pr CV.nl)))]))] 5 53) = some (boI u v P Q (bothF u v P Q v') v') ∧ 256 - v' < 256 - k ∧ v' ≤ 256 else false = false ∧ some (St.mk [(8, AV.ptr (Base.l 0) 0 9 0), (12, AV.ptr (Base.l 1) 0 12 0)] [(0, Blk'.cells 143 9 (Body.els [AV.c ((CV.nat two256 0).pr ((CV.nat two256 0).pr ((CV.bool false).pr CV.nl)))])), (1, Blk'.cells 321 12 (Body.els [AV.c ((CV.nat two256 (bothF u v P Q k).fst).pr ((CV.nat two256 (bothF u v P Q k).snd.fst).pr ((CV.nat two256 (bothF u v P Q k).snd.snd).pr CV.nl)))]))] 2 53) = some (boF (bothF u v P Q 256)), by kernel_rfl, ?_⟩
 obtain ⟨o, ho⟩ : ∃ o, o = bothF u v P Q k := ⟨_, rfl⟩
 have hn : bothF u v P Q (k + 1) = stepF u v P Q (255 - k) (bothF u v P Q k) := rfl
 rw [← ho] at hn ⊢
 have e13 : (255 : Int) - (k : Int) - 1 = 255 - ((k + 1 : Nat) : Int) := by omega
 have hk : k ≤ 256 := hk
 refine cond_intro (fun h => ?_) (fun h => ?_)
 ·simp at h
  refine ⟨⟨by omega, by omega⟩, ⟨by omega, by omega⟩, ?_⟩
  have ei : ((255 - k : Nat) : Int) = 255 - (k : Int) := by omega
  unfold stepF at hn
  rw [ei] at hn
  have hu := bit01 u (255 - (k : Int))
  have hv := bit01 v (255 - (k : Int))
  simp (disch := omega) only [wi]
  rw [e13]
  have hk4 : bitI u (255 - (k : Int)) + 2 * bitI v (255 - (k : Int)) = 0 ∨ bitI u (255 - (k : Int)) + 2 * bitI v (255 - (k : Int)) = 1 ∨ bitI u (255 - (k : Int)) + 2 * bitI v (255 - (k : Int)) = 2 ∨ bitI u (255 - (k : Int)) + 2 * bitI v (255 - (k : Int)) = 3 := by omega
  generalize bitI u (255 - (k : Int)) + 2 * bitI v (255 - (k : Int)) = kk at hn hk4 ⊢
  have hm : 256 - (k + 1) < 256 - k ∧ k + 1 ≤ 256 := by omega
  rcases hk4 with rfl | rfl | rfl | rfl
  ·exact cond_no rfl ⟨k + 1, by rw [hn]; rfl, hm⟩
  ·exact cond_at rfl <| cond_no rfl <| cond_no rfl <| cond_at rfl ⟨k + 1, by rw [hn]; rfl, hm⟩
  ·exact cond_at rfl <| cond_no rfl <| cond_at rfl ⟨k + 1, by rw [hn]; rfl, hm⟩
  ·exact cond_at rfl <| cond_at rfl ⟨k + 1, by rw [hn]; rfl, hm⟩
 ·simp at h
  have e : k = 256 := by omega
  subst e
  rw [ho]
  exact ⟨by simp, by kernel_rfl⟩
noncomputable def pBothS : FSpec := fun xs bl => match xs, bl with
 | [.c (.nat mm1 u), .c (.pr (.nat mm2 x1) (.pr (.nat mm3 y1) (.pr (.bool n1) .nl))), .c (.nat mm4 v), .c (.pr (.nat mm5 x2) (.pr (.nat mm6 y2) (.pr (.bool n2) .nl)))], [] => bif Nat.beq mm1 two256 && Nat.beq mm2 two256 && Nat.beq mm3 two256 && Nat.beq mm4 two256 && Nat.beq mm5 two256 && Nat.beq mm6 two256 then some (none, ⟨.c (cvP (dropF (bothF u v (liftF x1 y1 n1) (liftF x2 y2 n2) 256))), [], []⟩) else none
 | _, _ => none
theorem pBoth_ok : FnOk CX 189 pBothS := by
 refine fnOkF hmo G8c_ok (fn := Tryz.f189) (c := bodyOf' Tryz.f189) (by kernel_rfl) (by kernel_rfl) (by kernel_rfl) ?_
 intro xs bl p o hF hp
 unfold pBothS at hF
 split at hF
 ·rename_i mm1 u mm2 x1 mm3 y1 n1 mm4 v mm5 x2 mm6 y2 n2
  obtain ⟨hg, hF⟩ := guard_some hF
  simp only [Bool.and_eq_true] at hg
  have hg0 := beqN hg.1.1.1.1.1
  have hg1 := beqN hg.1.1.1.1.2
  have hg2 := beqN hg.1.1.1.2
  have hg3 := beqN hg.1.1.2
  have hg4 := beqN hg.1.2
  have hg5 := beqN hg.2
  subst hg0; subst hg1; subst hg2; subst hg3; subst hg4; subst hg5
  injection hF with hF; injection hF with e1 e2; subst e1; subst e2
  refine ⟨Nat.le_of_ble_eq_true (by kernel_rfl), fun X hX hfa => ⟨[(0, loopW 0 [] [4, 6, 8, 11, 12, 13] (boI u v (liftF x1 y1 n1) (liftF x2 y2 n2) (0, 1, 0) 0) True false (boF (bothF u v (liftF x1 y1 n1) (liftF x2 y2 n2) 256)))], 999, ?_⟩⟩
  refine ⟨LOk CX X 0 (loopAt 0 Tryz.f189) (loopW 0 [] [4, 6, 8, 11, 12, 13] (boI u v (liftF x1 y1 n1) (liftF x2 y2 n2) (0, 1, 0) 0) True false (boF (bothF u v (liftF x1 y1 n1) (liftF x2 y2 n2) 256))) ∧ some (St.mk [(4, AV.ptr (Base.l 0) 0 4 0), (6, AV.ptr (Base.l 1) 0 4 0), (8, AV.ptr (Base.l 2) 0 9 0), (11, AV.ptr (Base.l 3) 0 48 0), (12, AV.ptr (Base.l 4) 0 12 0), (13, AV.c (CV.int IntKind.i64 255))] [(0, Blk'.cells 45 4 (Body.els [AV.c (CV.nat two256 u)])), (1, Blk'.cells 45 4 (Body.els [AV.c (CV.nat two256 v)])), (2, Blk'.cells 143 9 (Body.els [AV.c ((CV.nat two256 0).pr ((CV.nat two256 0).pr ((CV.bool false).pr CV.nl)))])), (3, Blk'.cells 324 48 (Body.els [AV.c (((CV.nat two256 0).pr ((CV.nat two256 1).pr ((CV.nat two256 0).pr CV.nl))).pr (((CV.nat two256 (liftF x1 y1 n1).fst).pr ((CV.nat two256 (liftF x1 y1 n1).snd.fst).pr ((CV.nat two256 (liftF x1 y1 n1).snd.snd).pr CV.nl))).pr (((CV.nat two256 (liftF x2 y2 n2).fst).pr ((CV.nat two256 (liftF x2 y2 n2).snd.fst).pr ((CV.nat two256 (liftF x2 y2 n2).snd.snd).pr CV.nl))).pr (((CV.nat two256 (plsF (liftF x1 y1 n1) (liftF x2 y2 n2)).fst).pr ((CV.nat two256 (plsF (liftF x1 y1 n1) (liftF x2 y2 n2)).snd.fst).pr ((CV.nat two256 (plsF (liftF x1 y1 n1) (liftF x2 y2 n2)).snd.snd).pr CV.nl))).pr CV.nl))))])), (4, Blk'.cells 321 12 (Body.els [AV.c ((CV.nat two256 0).pr ((CV.nat two256 1).pr ((CV.nat two256 0).pr CV.nl)))]))] 5 53) = some (boI u v (liftF x1 y1 n1) (liftF x2 y2 n2) (0, 1, 0) 0) ∧ True ∧ some (Out.mk (AV.c ((CV.nat two256 (dropF (bothF u v (liftF x1 y1 n1) (liftF x2 y2 n2) 256)).fst).pr ((CV.nat two256 (dropF (bothF u v (liftF x1 y1 n1) (liftF x2 y2 n2) 256)).snd.fst).pr ((CV.bool (dropF (bothF u v (liftF x1 y1 n1) (liftF x2 y2 n2) 256)).snd.snd).pr CV.nl)))) [] []) = some (Out.mk (AV.c (cvP (dropF (bothF u v (liftF x1 y1 n1) (liftF x2 y2 n2) 256)))) [] []), by kernel_rfl, ?_⟩
  exact ⟨both_l0 hX u v _ _, by kernel_rfl, trivial, by kernel_rfl⟩
 ·cases hF
noncomputable def G8 : Tab := (189, lift [true, true, true, true] pBothS) :: G8c
theorem G8_ok : TabOk CX G8 := .cons (lift_ok pBoth_ok _) G8c_ok
noncomputable def bothP (u : Nat) (p : PtN) (v : Nat) (q : PtN) : PtN := dropF (bothF u v (liftF p.1 p.2.1 p.2.2) (liftF q.1 q.2.1 q.2.2) 256)
noncomputable def pMulPS : FSpec := fun xs bl => match xs, bl with
 | [.c (.nat mm1 u), .c (.pr (.nat mm2 x) (.pr (.nat mm3 y) (.pr (.bool n) .nl)))], [] => bif Nat.beq mm1 two256 && Nat.beq mm2 two256 && Nat.beq mm3 two256 then some (none, ⟨.c (cvP (bothP u (x, y, n) 0 (x, y, n))), [], []⟩) else none
 | _, _ => none
theorem pMulP_ok : FnOk CX 82 pMulPS := by
 refine fnOkF hmo G8_ok (fn := Tryz.f82) (c := bodyOf' Tryz.f82) (by kernel_rfl) (by kernel_rfl) (by kernel_rfl) ?_
 intro xs bl p o hF hp
 unfold pMulPS at hF
 split at hF
 ·rename_i mm1 u mm2 x mm3 y n
  obtain ⟨hg, hF⟩ := guard_some hF
  simp only [Bool.and_eq_true] at hg
  have hg0 := beqN hg.1.1
  have hg1 := beqN hg.1.2
  have hg2 := beqN hg.2
  subst hg0; subst hg1; subst hg2
  injection hF with hF; injection hF with e1 e2; subst e1; subst e2
  refine ⟨Nat.le_of_ble_eq_true (by kernel_rfl), fun X hX hfa => ⟨[], 999, ?_⟩⟩
  refine ⟨some (Out.mk (AV.c ((CV.nat two256 (dropF (bothF u 0 (liftF x y n) (liftF x y n) 256)).fst).pr ((CV.nat two256 (dropF (bothF u 0 (liftF x y n) (liftF x y n) 256)).snd.fst).pr ((CV.bool (dropF (bothF u 0 (liftF x y n) (liftF x y n) 256)).snd.snd).pr CV.nl)))) [] []) = some (Out.mk (AV.c (cvP (bothP u (x, y, n) 0 (x, y, n)))) [] []), by kernel_rfl, ?_⟩
  rfl
 ·cases hF
def encP (p : PtN) : List Int := 4 :: (beL p.1 ++ beL p.2.1)
noncomputable def encF (p : PtN) : List Int := bif p.2.2 || !onF p.1 p.2.1 then [0] else encP p
noncomputable def pEncodeS : FSpec := fun xs bl => match xs, bl with
 | [.c (.pr (.nat mm1 x) (.pr (.nat mm2 y) (.pr (.bool n) .nl)))], [] => bif Nat.beq mm1 two256 && Nat.beq mm2 two256 then some (none, ⟨.own 0 1 (encF (x, y, n)).length, [], [byB (encF (x, y, n))]⟩) else none
 | _, _ => none
theorem pEncode_ok : FnOk CX 81 pEncodeS := by
 refine fnOkF hmo G8_ok (fn := Tryz.f81) (c := bodyOf' Tryz.f81) (by kernel_rfl) (by kernel_rfl) (by kernel_rfl) ?_
 intro xs bl p o hF hp
 unfold pEncodeS at hF
 split at hF
 ·rename_i mm1 x mm2 y n
  obtain ⟨hg, hF⟩ := guard_some hF
  simp only [Bool.and_eq_true] at hg
  have hg0 := beqN hg.1
  have hg1 := beqN hg.2
  subst hg0; subst hg1
  injection hF with hF; injection hF with e1 e2; subst e1; subst e2
  refine ⟨Nat.le_of_ble_eq_true (by kernel_rfl), fun X hX hfa => ⟨[], 999, ?_⟩⟩
  refine ⟨bif n then some (Out.mk (AV.own 0 1 1) [] [Blk'.cells 5 1 (Body.ints IntKind.u8 [0])]) = some (Out.mk (AV.own 0 1 (encF (x, y, n)).length) [] [byB (encF (x, y, n))]) else bif !formedF x y n then some (Out.mk (AV.own 0 1 1) [] [Blk'.cells 5 1 (Body.ints IntKind.u8 [0])]) = some (Out.mk (AV.own 0 1 (encF (x, y, n)).length) [] [byB (encF (x, y, n))]) else (65 ≤ 1000000000 ∧ 3 ≤ 1000000000) ∧ some (Out.mk (AV.own 0 1 65) [] [Blk'.cells 5 1 (Body.ints IntKind.u8 [[4], beL x, beL y].flatten)]) = some (Out.mk (AV.own 0 1 (encF (x, y, n)).length) [] [byB (encF (x, y, n))]), by kernel_rfl, ?_⟩
  have e3 : ∀ a b c : List Int, [a, b, c].flatten = a ++ (b ++ c) := fun a b c => by simp
  rw [e3]
  refine cond_intro (fun h => ?_) (fun h => cond_intro (fun h2 => ?_) (fun h2 => ⟨⟨by omega, by omega⟩, ?_⟩))
  ·subst h; simp [encF, byB]
  ·subst h; simp [formedF] at h2; simp [encF, byB, h2]
  ·subst h; simp [formedF] at h2
   have e : encF (x, y, false) = encP (x, y, false) := by simp [encF, h2]
   have el : (encP (x, y, false)).length = 65 := by simp [encP, beL_len]
   rw [e, el]; rfl
 ·cases hF
end Go.Proofs.YtffdoihhjfjgoaaGreatDoor
/- The layer ecdsa: keys. -/
namespace Go.Proofs.YtffdoihhjfjgoaaGreatDoor
open Go Go.Ab Go.RowKit Go.Chr
set_option maxRecDepth 100000
noncomputable def withinF (a : Nat) : Bool := bif Nat.beq a 0 then false else fbelow 1 a
theorem kB1 : kB 1 := by unfold kB; omega
noncomputable def withinS : FSpec := fun xs bl => match xs, bl with
 | [.c (.nat mm1 a)], [] => bif Nat.beq mm1 two256 then some (none, ⟨.c (.bool (withinF a)), [], []⟩) else none
 | _, _ => none
theorem within_ok : FnOk CX 80 withinS := by
 refine fnOkF hmo G0_ok (fn := Tryz.f80) (c := bodyOf' Tryz.f80) (by kernel_rfl) (by kernel_rfl) (by kernel_rfl) ?_
 intro xs bl p o hF hp
 unfold withinS at hF
 split at hF
 ·rename_i mm1 a
  obtain ⟨hg, hF⟩ := guard_some hF
  have hg0 := beqN hg
  subst hg0
  injection hF with hF; injection hF with e1 e2; subst e1; subst e2
  refine ⟨Nat.le_of_ble_eq_true (by kernel_rfl), fun X hX hfa => ⟨[], 999, ?_⟩⟩
  refine ⟨bif !a.beq 0 then kB 1 ∧ some (Out.mk (AV.c (CV.bool (fbelow 1 a))) [] []) = some (Out.mk (AV.c (CV.bool (withinF a))) [] []) else some (Out.mk (AV.c (CV.bool false)) [] []) = some (Out.mk (AV.c (CV.bool (withinF a))) [] []), by kernel_rfl, ?_⟩
  refine cond_intro (fun h => ⟨kB1, ?_⟩) (fun h => ?_)
  ·simp at h; simp [withinF, h]
  ·simp at h; simp [withinF, h]
 ·cases hF
noncomputable def G9p : Tab := (82, lift [true, true] pMulPS) :: (81, lift [true] pEncodeS) :: (83, lift [] pBaseS) :: (80, lift [true] withinS) :: GE
theorem G9p_ok : TabOk CX G9p := .cons (lift_ok pMulP_ok _) <| .cons (lift_ok pEncode_ok _) <| .cons (lift_ok pBase_ok _) <| .cons (lift_ok within_ok _) .nil
def bytesZ : Option (TypeId × Nat × Body) := some (5, 1, .ints .u8 [])
def gPt : PtN := (gX, gY, false)
noncomputable def pubF (d : Nat) : List Int := bif withinF d then encF (bothP d gPt 0 gPt) else []
noncomputable def publicS : FSpec := fun xs bl => match xs, bl with
 | [.c (.nat mm1 d)], [] => bif Nat.beq mm1 two256 then some (none, ⟨.t2 (.own 0 1 (pubF d).length) (.c (.bool (withinF d))), [], [byB (pubF d)]⟩) else none
 | _, _ => none
theorem public_ok : FnOk CX 19 publicS := by
 refine fnOkR [.slot 2 bytesZ] hmo G9p_ok (fn := Tryz.f19) (c := bodyOf' Tryz.f19) (by kernel_rfl) (by kernel_rfl) (by kernel_rfl) ?_
 intro xs bl p o hF hp
 unfold publicS at hF
 split at hF
 ·rename_i mm1 d
  obtain ⟨hg, hF⟩ := guard_some hF
  have hg0 := beqN hg
  subst hg0
  injection hF with hF; injection hF with e1 e2; subst e1; subst e2
  refine ⟨Nat.le_of_ble_eq_true (by kernel_rfl), fun X hX hfa => ⟨[], 999, ?_⟩⟩
  refine ⟨bif !withinF d then some (Out.mk ((AV.own 0 1 0).t2 (AV.c (CV.bool false))) [] [Blk'.cells 5 1 (Body.ints IntKind.u8 [])]) = some (Out.mk ((AV.own 0 1 (pubF d).length).t2 (AV.c (CV.bool (withinF d)))) [] [byB (pubF d)]) else some (Out.mk ((AV.own 0 1 (encF (bothP d (gX, gY, false) 0 (gX, gY, false))).length).t2 (AV.c (CV.bool true))) [] [Blk'.cells 5 1 (Body.ints IntKind.u8 (encF (bothP d (gX, gY, false) 0 (gX, gY, false))))]) = some (Out.mk ((AV.own 0 1 (pubF d).length).t2 (AV.c (CV.bool (withinF d)))) [] [byB (pubF d)]), by kernel_rfl, ?_⟩
  refine cond_intro (fun h => ?_) (fun h => ?_)
  ·simp at h; simp [pubF, h, byB]
  ·simp at h; simp [pubF, h, byB, gPt]
 ·cases hF
end Go.Proofs.YtffdoihhjfjgoaaGreatDoor
/- The layer witness: what it tells; the empty tree; the reference, opened. -/
namespace Go.Proofs.YtffdoihhjfjgoaaGreatDoor
open Go Go.Ab Go.RowKit Go.Chr
set_option maxRecDepth 100000
noncomputable def GM0 : Tab := (95, lift [true] shaSumS) :: GE
theorem GM0_ok : TabOk CX GM0 := .cons (lift_ok shaSum_ok _) GE_ok
noncomputable def mSum0S : FSpec := fun xs bl => match xs, bl with
 | [.c (.raw (.slice none 0 0))], [] => some (none, ⟨.c (.arr .u8 32 (shaF shaK shaH [])), [], []⟩)
 | _, _ => none
theorem mSum0_ok : FnOk CX 121 mSum0S := by
 refine fnOkF hmo GM0_ok (fn := Tryz.f121) (c := bodyOf' Tryz.f121) (by kernel_rfl) (by kernel_rfl) (by kernel_rfl) ?_
 intro xs bl p o hF hp
 unfold mSum0S at hF
 split at hF
 ·skip
  injection hF with hF; injection hF with e1 e2; subst e1; subst e2
  refine ⟨Nat.le_of_ble_eq_true (by kernel_rfl), fun X hX hfa => ⟨[], 999, ?_⟩⟩
  refine ⟨some (Out.mk (AV.c (CV.arr IntKind.u8 32 (shaF shaK shaH []))) [] []) = some (Out.mk (AV.c (CV.arr IntKind.u8 32 (shaF shaK shaH []))) [] []), by kernel_rfl, ?_⟩
  rfl
 ·cases hF
noncomputable def wSizeS : FSpec := fun xs bl => match xs, bl with
 | [.c (.raw (.pointer none))], [] => some (none, ⟨.c (.int .i64 0), [], []⟩)
 | [.hd (.opt 71) 0], [.opt al 182 71 (.els [.pr (.ptr (.l 1) 0 4 0) (.pr (.c (.str nm)) (.pr (.c (.arr .u8 32 sd)) (.pr (.pr (.c (.str ln)) (.pr (.c (.int .u8 lk)) (.pr (.own 2 1 k) (.c .nl)))) (.c (.pr (.int .i64 sz) (.pr (.arr .u8 32 rt) (.pr (.bool ov) .nl)))))))]), .cells 194 4 (.els [.pr (.own 3 64 n) (.pr (.hd .mp 4) (.c (.pr (.int .i64 f) (.pr (.bool d) .nl))))]), .cells 5 1 (.ints .u8 lp), .cells 204 64 (.rows (.arr .u8 64) xs), .map (.arr .u8 64) m] => some (none, ⟨.c (.int .i64 (bif al then sz else 0)), [some (wtB al 1 2 nm sd ln lk k sz rt ov), some (dkB 3 4 n f d), some (byB lp), some (scB xs), some (mpB m)], []⟩)
 | _, _ => none
theorem wSize_ok : FnOk CX 35 wSizeS := by
 refine fnOkF hmo GE_ok (fn := Tryz.f35) (c := bodyOf' Tryz.f35) (by kernel_rfl) (by kernel_rfl) (by kernel_rfl) ?_
 intro xs bl p o hF hp
 unfold wSizeS at hF
 split at hF
 ·skip
  injection hF with hF; injection hF with e1 e2; subst e1; subst e2
  refine ⟨Nat.le_of_ble_eq_true (by kernel_rfl), fun X hX hfa => ⟨[], 999, ?_⟩⟩
  refine ⟨some (Out.mk (AV.c (CV.int IntKind.i64 0)) [] []) = some (Out.mk (AV.c (CV.int IntKind.i64 0)) [] []), by kernel_rfl, ?_⟩
  rfl
 ·rename_i al nm sd ln lk k sz rt ov n f d lp xs m
  injection hF with hF; injection hF with e1 e2; subst e1; subst e2
  refine ⟨Nat.le_of_ble_eq_true (by kernel_rfl), fun X hX hfa => ⟨[], 999, ?_⟩⟩
  refine ⟨let z0z := (Blk'.opt al 182 71 (Body.els [(AV.ptr (Base.l 1) 0 4 0).pr ((AV.c (CV.str nm)).pr ((AV.c (CV.arr IntKind.u8 32 sd)).pr (((AV.c (CV.str ln)).pr ((AV.c (CV.int IntKind.u8 lk)).pr ((AV.own 2 1 k).pr (AV.c CV.nl)))).pr (AV.c ((CV.int IntKind.i64 sz).pr ((CV.arr IntKind.u8 32 rt).pr ((CV.bool ov).pr CV.nl)))))))])); let z1z := (Out.mk (AV.c (CV.int IntKind.i64 (bif al then sz else 0))) [some (wtB al 1 2 nm sd ln lk k sz rt ov), some (dkB 3 4 n f d), some (byB lp), some (scB xs), some (mpB m)] []); let z2z := (Blk'.cells 194 4 (Body.els [(AV.own 3 64 n).pr ((AV.hd Hk.mp 4).pr (AV.c ((CV.int IntKind.i64 f).pr ((CV.bool d).pr CV.nl))))])); bif !al then some (Out.mk (AV.c (CV.int IntKind.i64 0)) [some z0z, some z2z, some (Blk'.cells 5 1 (Body.ints IntKind.u8 lp)), some (Blk'.cells 204 64 (Body.rows (Tag.arr IntKind.u8 64) xs)), some (Blk'.map (Tag.arr IntKind.u8 64) m)] []) = some z1z else bif al then bif al then bif al then some (Out.mk (AV.c (CV.int IntKind.i64 sz)) [some z0z, some z2z, some (Blk'.cells 5 1 (Body.ints IntKind.u8 lp)), some (Blk'.cells 204 64 (Body.rows (Tag.arr IntKind.u8 64) xs)), some (Blk'.map (Tag.arr IntKind.u8 64) m)] []) = some z1z else False else False else False, by kernel_rfl, ?_⟩
  dsimp only
  cases al <;> rfl
 ·cases hF
noncomputable def GW2 : Tab := (121, lift [true] mSum0S) :: (21, lift [true] dPublicS) :: GE
theorem GW2_ok : TabOk CX GW2 := .cons (lift_ok mSum0_ok _) <| .cons (lift_ok dPublic_ok _) GE_ok
noncomputable def wRootS : FSpec := fun xs bl => match xs, bl with
 | [.c (.raw (.pointer none))], [] => some (none, ⟨.c (.arr .u8 32 (List.replicate 32 0)), [], []⟩)
 | [.hd (.opt 71) 0], [.opt al 182 71 (.els [.pr (.ptr (.l 1) 0 4 0) (.pr (.c (.str nm)) (.pr (.c (.arr .u8 32 sd)) (.pr (.pr (.c (.str ln)) (.pr (.c (.int .u8 lk)) (.pr (.own 2 1 k) (.c .nl)))) (.c (.pr (.int .i64 sz) (.pr (.arr .u8 32 rt) (.pr (.bool ov) .nl)))))))]), .cells 194 4 (.els [.pr (.own 3 64 n) (.pr (.hd .mp 4) (.c (.pr (.int .i64 f) (.pr (.bool d) .nl))))]), .cells 5 1 (.ints .u8 lp), .cells 204 64 (.rows (.arr .u8 64) xs), .map (.arr .u8 64) m] => some (some (al = true), ⟨.c (.arr .u8 32 (bif sz == 0 then shaF shaK shaH [] else rt)), [some (wtB al 1 2 nm sd ln lk k sz rt ov), some (dkB 3 4 n f d), some (byB lp), some (scB xs), some (mpB m)], []⟩)
 | _, _ => none
theorem wRoot_ok : FnOk CX 36 wRootS := by
 refine fnOkF hmo GW2_ok (fn := Tryz.f36) (c := bodyOf' Tryz.f36) (by kernel_rfl) (by kernel_rfl) (by kernel_rfl) ?_
 intro xs bl p o hF hp
 unfold wRootS at hF
 split at hF
 ·skip
  injection hF with hF; injection hF with e1 e2; subst e1; subst e2
  refine ⟨Nat.le_of_ble_eq_true (by kernel_rfl), fun X hX hfa => ⟨[], 999, ?_⟩⟩
  refine ⟨some (Out.mk (AV.c (CV.arr IntKind.u8 32 (List.replicate 32 0))) [] []) = some (Out.mk (AV.c (CV.arr IntKind.u8 32 (List.replicate 32 0))) [] []), by kernel_rfl, ?_⟩
  rfl
 ·rename_i al nm sd ln lk k sz rt ov n f d lp xs m
  injection hF with hF; injection hF with e1 e2; subst e1; subst e2
  have hp : al = true := hp
  subst hp
  refine ⟨Nat.le_of_ble_eq_true (by kernel_rfl), fun X hX hfa => ⟨[], 999, ?_⟩⟩
  refine ⟨let z0z := (Blk'.opt true 182 71 (Body.els [(AV.ptr (Base.l 1) 0 4 0).pr ((AV.c (CV.str nm)).pr ((AV.c (CV.arr IntKind.u8 32 sd)).pr (((AV.c (CV.str ln)).pr ((AV.c (CV.int IntKind.u8 lk)).pr ((AV.own 2 1 k).pr (AV.c CV.nl)))).pr (AV.c ((CV.int IntKind.i64 sz).pr ((CV.arr IntKind.u8 32 rt).pr ((CV.bool ov).pr CV.nl)))))))])); let z1z := (Out.mk (AV.c (CV.arr IntKind.u8 32 (bif sz == 0 then shaF shaK shaH [] else rt))) [some (wtB true 1 2 nm sd ln lk k sz rt ov), some (dkB 3 4 n f d), some (byB lp), some (scB xs), some (mpB m)] []); let z2z := (Blk'.cells 194 4 (Body.els [(AV.own 3 64 n).pr ((AV.hd Hk.mp 4).pr (AV.c ((CV.int IntKind.i64 f).pr ((CV.bool d).pr CV.nl))))])); bif sz == 0 then some (Out.mk (AV.c (CV.arr IntKind.u8 32 (shaF shaK shaH []))) [some z0z, some z2z, some (Blk'.cells 5 1 (Body.ints IntKind.u8 lp)), some (Blk'.cells 204 64 (Body.rows (Tag.arr IntKind.u8 64) xs)), some (Blk'.map (Tag.arr IntKind.u8 64) m)] []) = some z1z else some (Out.mk (AV.c (CV.arr IntKind.u8 32 rt)) [some z0z, some z2z, some (Blk'.cells 5 1 (Body.ints IntKind.u8 lp)), some (Blk'.cells 204 64 (Body.rows (Tag.arr IntKind.u8 64) xs)), some (Blk'.map (Tag.arr IntKind.u8 64) m)] []) = some z1z, by kernel_rfl, ?_⟩
  dsimp only
  cases sz == 0 <;> rfl
 ·cases hF
noncomputable def wKeyS : FSpec := fun xs bl => match xs, bl with
 | [.c (.raw (.pointer none))], [] => some (none, ⟨.c (.pr (.str []) (.pr (.int .u8 0) (.pr (.raw (.slice none 0 0)) .nl))), [], []⟩)
 | [.hd (.opt 71) 0], [.opt al 182 71 (.els [.pr (.ptr (.l 1) 0 4 0) (.pr (.c (.str nm)) (.pr (.c (.arr .u8 32 sd)) (.pr (.pr (.c (.str ln)) (.pr (.c (.int .u8 lk)) (.pr (.own 2 1 k) (.c .nl)))) (.c (.pr (.int .i64 sz) (.pr (.arr .u8 32 rt) (.pr (.bool ov) .nl)))))))]), .cells 194 4 (.els [.pr (.own 3 64 n) (.pr (.hd .mp 4) (.c (.pr (.int .i64 f) (.pr (.bool d) .nl))))]), .cells 5 1 (.ints .u8 lp), .cells 204 64 (.rows (.arr .u8 64) xs), .map (.arr .u8 64) m] => some (some (al = true), ⟨.pr (.c (.str nm)) (.pr (.c (.int .u8 101)) (.pr (.inn (.l 5) 0 32 0 1 32) (.c .nl))), [some (wtB al 1 2 nm sd ln lk k sz rt ov), some (dkB 3 4 n f d), some (byB lp), some (scB xs), some (mpB m)], [hsB (.arr .u8 32 (edE (edA sd)))]⟩)
 | _, _ => none
theorem wKey_ok : FnOk CX 37 wKeyS := by
 refine fnOkF hmo GW2_ok (fn := Tryz.f37) (c := bodyOf' Tryz.f37) (by kernel_rfl) (by kernel_rfl) (by kernel_rfl) ?_
 intro xs bl p o hF hp
 unfold wKeyS at hF
 split at hF
 ·skip
  injection hF with hF; injection hF with e1 e2; subst e1; subst e2
  refine ⟨Nat.le_of_ble_eq_true (by kernel_rfl), fun X hX hfa => ⟨[], 999, ?_⟩⟩
  refine ⟨some (Out.mk (AV.c ((CV.str []).pr ((CV.int IntKind.u8 0).pr ((CV.raw (Value.slice none 0 0)).pr CV.nl)))) [] []) = some (Out.mk (AV.c ((CV.str []).pr ((CV.int IntKind.u8 0).pr ((CV.raw (Value.slice none 0 0)).pr CV.nl)))) [] []), by kernel_rfl, ?_⟩
  rfl
 ·rename_i al nm sd ln lk k sz rt ov n f d lp xs m
  injection hF with hF; injection hF with e1 e2; subst e1; subst e2
  have hp : al = true := hp
  subst hp
  refine ⟨Nat.le_of_ble_eq_true (by kernel_rfl), fun X hX hfa => ⟨[], 999, ?_⟩⟩
  refine ⟨let z0z := ((AV.c (CV.str nm)).pr ((AV.c (CV.int IntKind.u8 101)).pr ((AV.inn (Base.l 5) 0 32 0 1 32).pr (AV.c CV.nl)))); some (Out.mk z0z [some (Blk'.opt true 182 71 (Body.els [(AV.ptr (Base.l 1) 0 4 0).pr ((AV.c (CV.str nm)).pr ((AV.c (CV.arr IntKind.u8 32 sd)).pr (((AV.c (CV.str ln)).pr ((AV.c (CV.int IntKind.u8 lk)).pr ((AV.own 2 1 k).pr (AV.c CV.nl)))).pr (AV.c ((CV.int IntKind.i64 sz).pr ((CV.arr IntKind.u8 32 rt).pr ((CV.bool ov).pr CV.nl)))))))])), some (Blk'.cells 194 4 (Body.els [(AV.own 3 64 n).pr ((AV.hd Hk.mp 4).pr (AV.c ((CV.int IntKind.i64 f).pr ((CV.bool d).pr CV.nl))))])), some (Blk'.cells 5 1 (Body.ints IntKind.u8 lp)), some (Blk'.cells 204 64 (Body.rows (Tag.arr IntKind.u8 64) xs)), some (Blk'.map (Tag.arr IntKind.u8 64) m)] [Blk'.cells 23 32 (Body.els [AV.c (CV.arr IntKind.u8 32 (edE (edA sd)))])]) = some (Out.mk z0z [some (wtB true 1 2 nm sd ln lk k sz rt ov), some (dkB 3 4 n f d), some (byB lp), some (scB xs), some (mpB m)] [hsB (CV.arr IntKind.u8 32 (edE (edA sd)))]), by kernel_rfl, ?_⟩
  dsimp only
  rfl
 ·cases hF
noncomputable def wSign0S : FSpec := fun xs bl => match xs, bl with
 | [.c (.raw (.pointer none)), .c (.str t), .c (.rows 32 (.arr .u8 32) l)], [] => some (none, ⟨.t2 (.c (.pr (.str []) (.pr (.int .u8 0) (.pr (.int .u32 0) (.pr (.raw (.slice none 0 0)) .nl))))) (.c (.int .i64 6)), [], []⟩)
 | _, _ => none
theorem wSign0_ok : FnOk CX 28 wSign0S := by
 refine fnOkF hmo GE_ok (fn := Tryz.f28) (c := bodyOf' Tryz.f28) (by kernel_rfl) (by kernel_rfl) (by kernel_rfl) ?_
 intro xs bl p o hF hp
 unfold wSign0S at hF
 split at hF
 ·rename_i t l
  injection hF with hF; injection hF with e1 e2; subst e1; subst e2
  refine ⟨Nat.le_of_ble_eq_true (by kernel_rfl), fun X hX hfa => ⟨[], 999, ?_⟩⟩
  refine ⟨some (Out.mk ((AV.c ((CV.str []).pr ((CV.int IntKind.u8 0).pr ((CV.int IntKind.u32 0).pr ((CV.raw (Value.slice none 0 0)).pr CV.nl))))).t2 (AV.c (CV.int IntKind.i64 6))) [] []) = some (Out.mk ((AV.c ((CV.str []).pr ((CV.int IntKind.u8 0).pr ((CV.int IntKind.u32 0).pr ((CV.raw (Value.slice none 0 0)).pr CV.nl))))).t2 (AV.c (CV.int IntKind.i64 6))) [] []), by kernel_rfl, ?_⟩
  rfl
 ·cases hF
end Go.Proofs.YtffdoihhjfjgoaaGreatDoor
/- The reference ref23, opened, where nothing is to be mended; the log's key. -/
namespace Go.Proofs.YtffdoihhjfjgoaaGreatDoor
open Go Go.Ab Go.RowKit Go.Chr
set_option maxRecDepth 100000
def fullB (l : List Int) : List Int := l ++ List.replicate (64 - l.length) 0
def fuI (l : List Int) (i : Nat) : St := ⟨[(3, .own 0 1 (l.length + i))], [(0, byB (l ++ List.replicate i 0))], 1, 14⟩
theorem full_l0 {X : Snap} (hX : ∀ b L, X.ι b = some L → b < 0) (l : List Int) : LOk CX X 0 (loopAt 0 Tryz.f118) (loopW 0 [] [3] (fuI l 0) (l.length ≤ 64) false (fuI l (64 - l.length))) := by
 refine loopW_ok hmo GE_ok (by kernel_rfl) hX [3] [] (fuI l) (fun i => l.length + i ≤ 64) (fun i => 64 - i) 0 (fun _ => rfl) (fun hp => hp) ?_
 intro hp i hi hfa
 refine ⟨[], 999, ?_⟩
 refine ⟨bif decide ((Nat.cast (R := Int) (l.length + i)) < 64) then bif (((Body.ints IntKind.u8 (l ++ List.replicate i 0)).len + 1) * 1).ble 140737488355328 && ((Body.ints IntKind.u8 (l ++ List.replicate i 0)).len + 1).ble 4611686018427387904 then ∃ (v' : Nat), some (St.mk [(3, AV.own 0 1 (Body.ints IntKind.u8 (l ++ List.replicate i 0 ++ [0])).len)] [(0, Blk'.cells 5 1 (Body.ints IntKind.u8 (l ++ List.replicate i 0 ++ [0])))] 1 14) = some (fuI l v') ∧ 64 - v' < 64 - i ∧ l.length + v' ≤ 64 else False else false = false ∧ some (St.mk [(3, AV.own 0 1 (l.length + i))] [(0, Blk'.cells 5 1 (Body.ints IntKind.u8 (l ++ List.replicate i 0)))] 1 14) = some (fuI l (64 - l.length)), by kernel_rfl, ?_⟩
 refine cond_intro (fun h => ?_) (fun h => ?_)
 ·simp at h
  exact cond_at (by simp [Body.len]; omega) ⟨i + 1, by simp [fuI, Body.len, byB, List.replicate_succ', Nat.add_assoc], by omega, by omega⟩
 ·simp at h
  have hi : l.length + i ≤ 64 := hi
  have e : i = 64 - l.length := by omega
  subst e; exact ⟨rfl, rfl⟩
noncomputable def r14FullS : FSpec := fun xs bl => match xs, bl with
 | [.c (.ints .u8 l)], [] => some (some (l.length ≤ 64), ⟨.own 0 1 64, [], [byB (fullB l)]⟩)
 | _, _ => none
theorem r14Full_ok : FnOk CX 118 r14FullS := by
 refine fnOkF hmo GE_ok (fn := Tryz.f118) (c := bodyOf' Tryz.f118) (by kernel_rfl) (by kernel_rfl) (by kernel_rfl) ?_
 intro xs bl p o hF hp
 unfold r14FullS at hF
 split at hF
 ·rename_i l
  injection hF with hF; injection hF with e1 e2; subst e1; subst e2
  have hp : l.length ≤ 64 := hp
  refine ⟨Nat.le_of_ble_eq_true (by kernel_rfl), fun X hX hfa => ⟨[(0, loopW 0 [] [3] (fuI l 0) (l.length ≤ 64) false (fuI l (64 - l.length)))], 999, ?_⟩⟩
  refine ⟨bif ((0 + (Body.ints IntKind.u8 l).len) * 1).ble 140737488355328 && (0 + (Body.ints IntKind.u8 l).len).ble 4611686018427387904 then LOk CX X 0 (loopAt 0 Tryz.f118) (loopW 0 [] [3] (fuI l 0) (l.length ≤ 64) false (fuI l (64 - l.length))) ∧ some (St.mk [(3, AV.own 0 1 (Body.ints IntKind.u8 l).len)] [(0, Blk'.cells 5 1 (Body.ints IntKind.u8 l))] 1 14) = some (fuI l 0) ∧ l.length ≤ 64 ∧ some (Out.mk (AV.own 0 1 (l.length + (64 - l.length))) [] [Blk'.cells 5 1 (Body.ints IntKind.u8 (l ++ List.replicate (64 - l.length) 0))]) = some (Out.mk (AV.own 0 1 64) [] [byB (fullB l)]) else False, by kernel_rfl, ?_⟩
  have e : l.length + (64 - l.length) = 64 := by omega
  rw [e]
  exact cond_at (by simp [Body.len]; omega) ⟨full_l0 hX l, by simp [fuI, byB, Body.len], hp, rfl⟩
 ·cases hF
def nb (n : Int) : Int := IntKind.u8.wrap (n.tmod 256)
def nq (n : Int) : Int := IntKind.i64.wrap (n.tdiv 256)
def nqs (n : Int) : Nat → Int
 | 0 => n
 | i + 1 => nq (nqs n i)
def nbs (n : Int) : Nat → List Int
 | 0 => []
 | i + 1 => nbs n i ++ [nb (nqs n i)]
def valB (n : Int) (rt : List Int) : List Int := nbs n 8 ++ rt
noncomputable def r23ValueS : FSpec := fun xs bl => match xs, bl with
 | [.c (.int .i64 n), .c (.arr .u8 32 rt)], [] => some (none, ⟨.own 0 1 (valB n rt).length, [], [byB (valB n rt)]⟩)
 | _, _ => none
theorem r23Value_ok : FnOk CX 119 r23ValueS := by
 refine fnOkF hmo GE_ok (fn := Tryz.f119) (c := bodyOf' Tryz.f119) (by kernel_rfl) (by kernel_rfl) (by kernel_rfl) ?_
 intro xs bl p o hF hp
 unfold r23ValueS at hF
 split at hF
 ·rename_i n rt
  injection hF with hF; injection hF with e1 e2; subst e1; subst e2
  refine ⟨Nat.le_of_ble_eq_true (by kernel_rfl), fun X hX hfa => ⟨[], 999, ?_⟩⟩
  refine ⟨cond (Nat.ble ((8 + rt.length) * 1) 140737488355328 && Nat.ble (8 + rt.length) 4611686018427387904) (oB (valB n rt).length (valB n rt) = oB (valB n rt).length (valB n rt)) False, by kernel_rfl, ?_⟩
  have hr : rt.length = 32 := (hfa.sl 1 _ rfl).1.1
  exact cond_at (by rw [hr]; rfl) rfl
 ·cases hF
noncomputable def GQ1 : Tab := (19, lift [true] publicS) :: GE
theorem GQ1_ok : TabOk CX GQ1 := .cons (lift_ok public_ok _) GE_ok
noncomputable def r22KeyS : FSpec := fun xs bl => match xs, bl with
 | [.c (.str nm), .c (.nat mm1 d)], [] => bif Nat.beq mm1 two256 then some (none, ⟨.pr (.c (.str nm)) (.pr (.c (.int .u8 112)) (.pr (.own 0 1 (pubF d).length) (.c .nl))), [], [byB (pubF d)]⟩) else none
 | _, _ => none
theorem r22Key_ok : FnOk CX 115 r22KeyS := by
 refine fnOkF hmo GQ1_ok (fn := Tryz.f115) (c := bodyOf' Tryz.f115) (by kernel_rfl) (by kernel_rfl) (by kernel_rfl) ?_
 intro xs bl p o hF hp
 unfold r22KeyS at hF
 split at hF
 ·rename_i nm mm1 d
  obtain ⟨hg, hF⟩ := guard_some hF
  have hg0 := beqN hg
  subst hg0
  injection hF with hF; injection hF with e1 e2; subst e1; subst e2
  refine ⟨Nat.le_of_ble_eq_true (by kernel_rfl), fun X hX hfa => ⟨[], 999, ?_⟩⟩
  refine ⟨some (Out.mk ((AV.c (CV.str nm)).pr ((AV.c (CV.int IntKind.u8 112)).pr ((AV.own 0 1 (pubF d).length).pr (AV.c CV.nl)))) [] [Blk'.cells 5 1 (Body.ints IntKind.u8 (pubF d))]) = some (Out.mk ((AV.c (CV.str nm)).pr ((AV.c (CV.int IntKind.u8 112)).pr ((AV.own 0 1 (pubF d).length).pr (AV.c CV.nl)))) [] [byB (pubF d)]), by kernel_rfl, ?_⟩
  rfl
 ·cases hF
noncomputable def lSecretS : FSpec := fun xs bl => match xs, bl with
 | [], [] => some (none, ⟨.c (.nat two256 77), [], []⟩)
 | _, _ => none
theorem lSecret_ok : FnOk CX 41 lSecretS := by
 refine fnOkF hmo GE_ok (fn := Tryz.f41) (c := bodyOf' Tryz.f41) (by kernel_rfl) (by kernel_rfl) (by kernel_rfl) ?_
 intro xs bl p o hF hp
 unfold lSecretS at hF
 split at hF
 ·skip
  injection hF with hF; injection hF with e1 e2; subst e1; subst e2
  refine ⟨Nat.le_of_ble_eq_true (by kernel_rfl), fun X hX hfa => ⟨[], 999, ?_⟩⟩
  refine ⟨some (Out.mk (AV.c (CV.nat two256 77)) [] []) = some (Out.mk (AV.c (CV.nat two256 77)) [] []), by kernel_rfl, ?_⟩
  rfl
 ·cases hF
noncomputable def GQ2 : Tab := (41, lift [] lSecretS) :: (115, lift [true, true] r22KeyS) :: GE
theorem GQ2_ok : TabOk CX GQ2 := .cons (lift_ok lSecret_ok _) <| .cons (lift_ok r22Key_ok _) GE_ok
def lgN : List Int := [108, 111, 103, 46, 101, 120, 97, 109, 112, 108, 101]
noncomputable def lKeyS : FSpec := fun xs bl => match xs, bl with
 | [], [] => some (none, ⟨.pr (.c (.str lgN)) (.pr (.c (.int .u8 112)) (.pr (.own 0 1 (pubF 77).length) (.c .nl))), [], [byB (pubF 77)]⟩)
 | _, _ => none
theorem lKey_ok : FnOk CX 30 lKeyS := by
 refine fnOkF hmo GQ2_ok (fn := Tryz.f30) (c := bodyOf' Tryz.f30) (by kernel_rfl) (by kernel_rfl) (by kernel_rfl) ?_
 intro xs bl p o hF hp
 unfold lKeyS at hF
 split at hF
 ·skip
  injection hF with hF; injection hF with e1 e2; subst e1; subst e2
  refine ⟨Nat.le_of_ble_eq_true (by kernel_rfl), fun X hX hfa => ⟨[], 999, ?_⟩⟩
  refine ⟨some (Out.mk ((AV.c (CV.str [108, 111, 103, 46, 101, 120, 97, 109, 112, 108, 101])).pr ((AV.c (CV.int IntKind.u8 112)).pr ((AV.own 0 1 (pubF 77).length).pr (AV.c CV.nl)))) [] [Blk'.cells 5 1 (Body.ints IntKind.u8 (pubF 77))]) = some (Out.mk ((AV.c (CV.str lgN)).pr ((AV.c (CV.int IntKind.u8 112)).pr ((AV.own 0 1 (pubF 77).length).pr (AV.c CV.nl)))) [] [byB (pubF 77)]), by kernel_rfl, ?_⟩
  rfl
 ·cases hF
def numR (v : List Int) : Int :=
 let s := fun (n : Int) (i : Nat) => IntKind.i64.wrap (IntKind.i64.wrap (n * 256) + IntKind.i64.wrap (v.getD i 0))
 s (s (s (s 0 3) 2) 1) 0
noncomputable def rBad (v : List Int) : Bool := bif decide (numR v > 2147483647) then true else bif (numR v == 0) && !((v.drop 8).take 32 == List.replicate 32 0) then true else !sameB v (fullB (valB (numR v) ((v.drop 8).take 32)))
noncomputable def rLive (nm v : List Int) : Bool := nameB nm && !rBad v
noncomputable def rErr (nm v : List Int) : Int := bif nameB nm then (bif rBad v then 2 else 0) else 1
noncomputable def rwtB (alive : Bool) (d : Nat) (nm sd ln : List Int) (lk : Int) (lp : List Int) (sz : Int) (rt : List Int) (ov : Bool) : Blk' := .opt alive 119 71 (.els [.pr (.ptr (.l d) 0 4 0) (.c (.pr (.str nm) (.pr (.arr .u8 32 sd) (.pr (.pr (.str ln) (.pr (.int .u8 lk) (.pr (.ints .u8 lp) .nl))) (.pr (.int .i64 sz) (.pr (.arr .u8 32 rt) (.pr (.bool ov) .nl)))))))])
noncomputable def GQ3 : Tab := (63, lift [true] rNameS) :: (116, lift [false, false] r14Mend0S) :: (118, lift [true] r14FullS) :: (119, lift [true, true] r23ValueS) :: GR5
theorem GQ3_ok : TabOk CX GQ3 := .cons (lift_ok rName_ok _) <| .cons (lift_ok r14Mend0_ok _) <| .cons (lift_ok r14Full_ok _) <| .cons (lift_ok r23Value_ok _) GR5_ok
noncomputable def rwO (a : Nat) (f : Int) (d : Bool) (P Q : List (List Int)) (e : Int) (b : Blk') : Option Out := some ⟨.t2 (.hd (.opt 71) 3) (.c (.int .i64 e)), [some (rkB a a f d), some (rwB P), some (rwB Q)], [b]⟩
noncomputable def r23Q (a : Nat) (f : Int) (d : Bool) (P Q : List (List Int)) (nm sd ln : List Int) (lk : Int) (lp v V : List Int) : Prop :=
 let N := numR V
 let rt := List.take 32 (List.drop 0 (List.take 32 (List.drop 8 V)))
 let O := rwO a f d P Q
 let goal := O (rErr nm v) (rwtB (rLive nm v) 0 nm sd ln lk lp (numR v) ((v.drop 8).take 32) false)
 let A := fun e => O e (rwtB false 0 nm sd ln lk lp (numR v) ((v.drop 8).take 32) false) = goal
 let F := fullB (valB N rt)
 let S := (valB N rt).length ≤ 64 ∧ (V.length ≤ 1000000000 ∧ F.length ≤ 1000000000) ∧ cond (!sameB V F) (A 2) (O 0 (rwtB true 0 nm sd ln lk lp N rt false) = goal)
 nm.length ≤ 1000000000 ∧ cond (!nameB nm) (A 1) ((a = a ∧ ((0 : Int) ≤ 0 ∧ (0 : Int) ≤ 1000000) ∧ few P Q ∧ steadyR P Q a d 0 ∧ mkE a d 0 = 0) ∧ (a = a ∧ ((0 : Int) ≤ 0 ∧ (0 : Int) ≤ 1000000) ∧ few P Q) ∧
  cond (decide ((3 : Int) < (V.length : Nat))) (cond (decide ((2 : Int) < (V.length : Nat))) (cond (decide ((1 : Int) < (V.length : Nat))) (cond (decide ((0 : Int) < (V.length : Nat))) (cond (bndB V.length (some 8) (some 40)) (cond (Nat.ble 32 (List.take 32 (List.drop 8 V)).length) (cond (Nat.ble 32 (List.take 32 (List.drop 8 V)).length)
   (cond (decide (N > 2147483647)) (A 2) (cond (N == 0) (cond (!(rt == List.replicate 32 0)) (A 2) S) S)) False) False) False) False) False) False) False)
theorem nbs_len (n : Int) : ∀ i, (nbs n i).length = i
 | 0 => rfl
 | i + 1 => by rw [nbs, List.length_append, nbs_len n i]; rfl
theorem r23Q_ok {a : Nat} {f : Int} {d : Bool} (P Q : List (List Int)) (nm sd ln : List Int) (lk : Int) (lp v : List Int) (hl : few P Q) (hs : steadyR P Q a d 0) (h0 : mkE a d 0 = 0) (hv : v.length = 64) (hm : nm.length ≤ 1000000000) : r23Q a f d P Q nm sd ln lk lp v v := by
 have h32 : (List.take 32 (List.drop 8 v)).length = 32 := by rw [List.length_take, List.length_drop]; omega
 have e5 : List.take 32 (List.drop 0 (List.take 32 (List.drop 8 v))) = List.take 32 (List.drop 8 v) := by rw [List.drop_zero]; exact List.take_of_length_le (by omega)
 have hV : (valB (numR v) (List.take 32 (List.drop 8 v))).length = 40 := by unfold valB; rw [List.length_append, nbs_len, h32]
 have hF : (fullB (valB (numR v) (List.take 32 (List.drop 8 v)))).length = 64 := by unfold fullB; rw [List.length_append, List.length_replicate, hV]
 unfold r23Q rErr rLive rBad
 rw [e5]
 dsimp only
 rw [hV, hF, hv, h32]
 refine ⟨hm, cond_intro (fun h => ?_) fun h => ⟨⟨rfl, ⟨by omega, by omega⟩, hl, hs, h0⟩, ⟨rfl, ⟨by omega, by omega⟩, hl⟩, cond_at rfl (cond_at rfl (cond_at rfl (cond_at rfl (cond_at rfl (cond_at rfl (cond_at rfl ?_))))))⟩⟩
 ·rw [Bool.not_eq_true'] at h; rw [h]; rfl
 ·rw [Bool.not_eq_false'] at h; rw [h]
  refine cond_intro (fun h1 => by rw [h1]; rfl) fun h1 => ?_
  rw [h1]
  refine cond_intro (fun h2 => ?_) fun h2 => ?_
  ·rw [h2]
   refine cond_intro (fun h3 => by rw [h3]; rfl) fun h3 => ⟨by omega, ⟨by omega, by omega⟩, ?_⟩
   rw [h3]
   exact cond_intro (fun h4 => by rw [h4]; rfl) fun h4 => by rw [h4]; rfl
  ·rw [h2]
   exact ⟨by omega, ⟨by omega, by omega⟩, cond_intro (fun h4 => by rw [h4]; rfl) fun h4 => by rw [h4]; rfl⟩
noncomputable def r23Open0S : FSpec := fun xs bl => match xs, bl with
 | [.ptr (.l 0) 0 4 0, .c (.str nm), .c (.arr .u8 32 sd), .c (.pr (.str ln) (.pr (.int .u8 lk) (.pr (.ints .u8 lp) .nl)))], [.cells 113 4 (.els [.pr (.own 1 1 a) (.pr (.own 2 1 b) (.c (.pr (.int .i64 f) (.pr (.bool d) .nl))))]), .cells 27 1 (.rows (.ints .u8) P), .cells 27 1 (.rows (.ints .u8) Q)] => some (some (a = b ∧ few P Q ∧ steadyR P Q a d 0 ∧ mkE a d 0 = 0 ∧ (r14L P Q a d 0).length = 64 ∧ nm.length ≤ 1000000000), ⟨.t2 (.hd (.opt 71) 3) (.c (.int .i64 (rErr nm (r14L P Q a d 0)))), [some (rkB a b f d), some (rwB P), some (rwB Q)], [rwtB (rLive nm (r14L P Q a d 0)) 0 nm sd ln lk lp (numR (r14L P Q a d 0)) (((r14L P Q a d 0).drop 8).take 32) false]⟩)
 | _, _ => none
theorem r23Open0_ok : FnOk CX 33 r23Open0S := by
 refine fnOkP hmo GQ3_ok (fn := Tryz.f33) (c := bodyOf' Tryz.f33) (by kernel_rfl) (by kernel_rfl) (by kernel_rfl) ?_
 intro xs bl p o hF hp
 unfold r23Open0S at hF
 split at hF
 ·rename_i nm sd ln lk lp a b f d P Q
  injection hF with hF; injection hF with e1 e2; subst e1; subst e2
  obtain ⟨rfl, hl, hs, h0, hv, hm⟩ : a = b ∧ few P Q ∧ steadyR P Q a d 0 ∧ mkE a d 0 = 0 ∧ (r14L P Q a d 0).length = 64 ∧ nm.length ≤ 1000000000 := hp
  refine ⟨Nat.le_of_ble_eq_true (by kernel_rfl), fun X hX hfa => ⟨[.optr 8 71 (fun _ => [rwtB false 0 nm sd ln lk lp (numR (r14L P Q a d 0)) (((r14L P Q a d 0).drop 8).take 32) false])], [], 999, ?_⟩⟩
  refine ⟨r23Q a f d P Q nm sd ln lk lp (r14L P Q a d 0) (bif mkE a d 0 == 0 then r14L P Q a d 0 else []), by kernel_rfl, ?_⟩
  rw [h0]
  exact r23Q_ok P Q nm sd ln lk lp _ hl hs h0 hv hm
 ·cases hF
end Go.Proofs.YtffdoihhjfjgoaaGreatDoor
/- The law's awake of layer 23. -/
namespace Go.Proofs.YtffdoihhjfjgoaaGreatDoor
open Go Go.Ab Go.RowKit Go.Chr
set_option maxRecDepth 100000
noncomputable def GL1 : Tab := (66, nilC [some (.ints .u8 [])] (lift [true] rSumS)) :: GE
theorem GL1_ok : TabOk CX GL1 := .cons (nilC_ok (lift_ok rSum_ok _) _) GE_ok
noncomputable def r16Root0S : FSpec := fun xs bl => match xs, bl with
 | [.c (.raw (.slice none 0 0))], [] => some (none, ⟨.c (.arr .u8 32 (shaF shaK shaH [])), [], []⟩)
 | _, _ => none
theorem r16Root0_ok : FnOk CX 40 r16Root0S := by
 refine fnOkF hmo GL1_ok (fn := Tryz.f40) (c := bodyOf' Tryz.f40) (by kernel_rfl) (by kernel_rfl) (by kernel_rfl) ?_
 intro xs bl p o hF hp
 unfold r16Root0S at hF
 split at hF
 ·skip
  injection hF with hF; injection hF with e1 e2; subst e1; subst e2
  refine ⟨Nat.le_of_ble_eq_true (by kernel_rfl), fun X hX hfa => ⟨[], 999, ?_⟩⟩
  refine ⟨0 ≤ 1000000000 ∧ some (Out.mk (AV.c (CV.arr IntKind.u8 32 (shaF shaK shaH []))) [] []) = some (Out.mk (AV.c (CV.arr IntKind.u8 32 (shaF shaK shaH []))) [] []), by kernel_rfl, ?_⟩
  exact ⟨by decide, rfl⟩
 ·cases hF
theorem mkV_self (x : List Int) : mkV x x x = x := by unfold mkV; cases sameB x x <;> rfl
theorem zero_rd (k : Int) (h : k = 0 ∨ k = 1 ∨ k = 2) : rdL (List.replicate 3 zS) [] 3 false k = zS := by
 rcases h with rfl | rfl | rfl <;> rfl
theorem zero_steady : steady (List.replicate 3 zS) [] 3 false 0 := ⟨by rw [zero_rd 0 (by omega), zero_rd (0 + 1) (by omega)], by rw [zero_rd (0 + 1) (by omega), zero_rd (0 + 2) (by omega)]⟩
theorem zero_mkE : mkE 3 false 0 = 0 := rfl
theorem zero_mkL : mkL (List.replicate 3 zS) [] 3 false 0 = zS := by
 unfold mkL
 rw [zero_rd 0 (by omega), zero_rd (0 + 1) (by omega), zero_rd (0 + 2) (by omega), mkV_self]
theorem zero_wBad : wBad zS = false := by
 unfold wBad
 have e1 : decide (numW (List.take 8 zS) < 0) = false := by kernel_rfl
 have e2 : ((numW (List.take 8 zS) == 0) && !(List.take 32 (List.drop 8 zS) == List.replicate 32 0)) = false := by kernel_rfl
 have e3 : List.drop 40 zS = List.replicate 24 0 := rfl
 rw [e1, e2, e3, sameB_eq]
 simp
theorem zero_wLive (nm : List Int) : wLive nm zS = nameB nm := by unfold wLive; rw [zero_wBad]; simp
theorem zero_num : numW (List.take 8 zS) = 0 := by kernel_rfl
noncomputable def GL2 : Tab := (31, lift [true] dNewS) :: (30, lift [] lKeyS) :: (29, lift [false, true, true, true] wOpen0S) :: (37, lift [false] wKeyS) :: (36, lift [false] wRootS) :: (40, lift [true] r16Root0S) :: GE
theorem GL2_ok : TabOk CX GL2 := .cons (lift_ok dNew_ok _) <| .cons (lift_ok lKey_ok _) <| .cons (lift_ok wOpen0_ok _) <| .cons (lift_ok wKey_ok _) <| .cons (lift_ok wRoot_ok _) <| .cons (lift_ok r16Root0_ok _) GE_ok
def bO (b : Bool) : Option Out := some ⟨.c (.bool b), [], []⟩
theorem encF_le (p : PtN) : (encF p).length ≤ 65 := by
 unfold encF
 cases p.2.2 || !onF p.1 p.2.1 with
 | true => simp
 | false => simp [encP, beL_len]
theorem pubF_len (d : Nat) : (pubF d).length ≤ 65 := by
 unfold pubF
 cases withinF d with
 | true => exact encF_le _
 | false => exact Nat.zero_le _
noncomputable def GL2a : Tab := (frzAt + 12, noC) :: GL2
theorem GL2a_ok : TabOk CX GL2a := .cons (noC_ok _) GL2_ok
noncomputable def awake23S : FSpec := fun xs bl => match xs, bl with
 | [], [] => some (none, ⟨.c (.bool true), [], []⟩)
 | _, _ => none
theorem awake23_ok : FnOk CX 24 awake23S := by
 refine fnOkF hmo GL2a_ok (fn := Tryz.f24) (c := bodyOf' Tryz.f24) (by kernel_rfl) (by kernel_rfl) (by kernel_rfl) ?_
 intro xs bl p o hF hp
 unfold awake23S at hF
 split at hF
 ·skip
  injection hF with hF; injection hF with e1 e2; subst e1; subst e2
  refine ⟨Nat.le_of_ble_eq_true (by kernel_rfl), fun X hX hfa => ⟨[], 999, ?_⟩⟩
  refine ⟨((0 : Int) ≤ 3 ∧ (3 : Int) ≤ 4096) ∧ (steady (List.replicate 3 zS) [] 3 false 0 ∧ mkE 3 false 0 = 0 ∧ 2 ≤ 1000000000 ∧ (pubF 77).length ≤ 1000000000) ∧ cond (wErr [119, 49] (mkL (List.replicate 3 zS) [] 3 false 0) == 0) (wLive [119, 49] (mkL (List.replicate 3 zS) [] 3 false 0) = true ∧ wLive [119, 49] (mkL (List.replicate 3 zS) [] 3 false 0) = true ∧ bO ((bif numW (List.take 8 (mkL (List.replicate 3 zS) [] 3 false 0)) == 0 then shaF shaK shaH [] else List.take 32 (List.drop 8 (mkL (List.replicate 3 zS) [] 3 false 0))) == shaF shaK shaH []) = bO true) (bO false = bO true), by kernel_rfl, ?_⟩
  have e1 : wLive [119, 49] zS = true := by rw [zero_wLive]; rfl
  have e2 : (wErr [119, 49] zS == 0) = true := by unfold wErr; rw [zero_wBad]; rfl
  rw [zero_mkL, e1, e2, zero_num]
  exact ⟨⟨by omega, by omega⟩, ⟨zero_steady, zero_mkE, by omega, Nat.le_trans (pubF_len 77) (by omega)⟩, rfl, rfl, by simp [bO]⟩
 ·cases hF
noncomputable def GL3 : Tab := (frzAt + 48, noC) :: (frzAt + 61, noC) :: (frzAt + 69, noC) :: (24, lift [] awake23S) :: (28, lift [true, true, true] wSign0S) :: (35, lift [false] wSizeS) :: (32, lift [true] r13NewS) :: (33, lift [false, true, true, true] r23Open0S) :: (34, lift [false, true] r14LoadS) :: GL2
theorem GL3_ok : TabOk CX GL3 := .cons (noC_ok _) <| .cons (noC_ok _) <| .cons (noC_ok _) <| .cons (lift_ok awake23_ok _) <| .cons (lift_ok wSign0_ok _) <| .cons (lift_ok wSize_ok _) <| .cons (lift_ok r13New_ok _) <| .cons (lift_ok r23Open0_ok _) <| .cons (lift_ok r14Load_ok _) GL2_ok
theorem zero_rr (k : Int) (h : k = 0 ∨ k = 1 ∨ k = 2) : rrL (List.replicate 3 zS) [[], [], []] 3 false k = zS := by
 rcases h with rfl | rfl | rfl <;> rfl
theorem zero_steadyR : steadyR (List.replicate 3 zS) [[], [], []] 3 false 0 := ⟨by rw [zero_rr 0 (by omega), zero_rr (0 + 1) (by omega)], by rw [zero_rr (0 + 1) (by omega), zero_rr (0 + 2) (by omega)]⟩
theorem zero_r14L : r14L (List.replicate 3 zS) [[], [], []] 3 false 0 = zS := by
 unfold r14L
 rw [zero_rr 0 (by omega), zero_rr (0 + 1) (by omega), zero_rr (0 + 2) (by omega), mkV_self]
theorem zero_few : few (List.replicate 3 zS) [[], [], []] := fun i => match i with
 | 0 => ⟨by decide, by decide⟩
 | 1 => ⟨by decide, by decide⟩
 | 2 => ⟨by decide, by decide⟩
 | _ + 3 => ⟨Nat.zero_le _, Nat.zero_le _⟩
theorem zero_rBad : rBad zS = false := by
 unfold rBad
 have e1 : decide (numR zS > 2147483647) = false := by kernel_rfl
 have e2 : ((numR zS == 0) && !(List.take 32 (List.drop 8 zS) == List.replicate 32 0)) = false := by kernel_rfl
 have e3 : fullB (valB (numR zS) (List.take 32 (List.drop 8 zS))) = zS := by kernel_rfl
 rw [e1, e2, e3, sameB_eq]
 simp
theorem zero_err (nm : List Int) : wErr nm zS = rErr nm zS := by unfold wErr rErr; rw [zero_wBad, zero_rBad]
noncomputable def wnQ (nm t : List Int) (l : List (List Int)) : Prop :=
 let Z := List.replicate 3 zS
 let E : List (List Int) := [[], [], []]
 let T := bO true = bO true
 cond (decide ((nm.length : Int) > 100)) T <| cond (decide ((t.length : Int) > 300)) T <| cond (decide ((l.length : Int) > 20)) T
  (((0 : Int) ≤ 3 ∧ (3 : Int) ≤ 4096) ∧ ((0 : Int) ≤ 3 ∧ (3 : Int) ≤ 4096) ∧ (steady Z [] 3 false 0 ∧ mkE 3 false 0 = 0 ∧ nm.length ≤ 1000000000 ∧ (pubF 77).length ≤ 1000000000) ∧ (3 = Int.toNat 3 ∧ few Z E ∧ steadyR Z E 3 false 0 ∧ mkE 3 false 0 = 0 ∧ (r14L Z E 3 false 0).length = 64 ∧ nm.length ≤ 1000000000) ∧ (3 = Int.toNat 3 ∧ ((0 : Int) ≤ 0 ∧ (0 : Int) ≤ 1000000) ∧ few Z E) ∧
   cond (wErr nm (mkL Z [] 3 false 0) == rErr nm (r14L Z E 3 false 0)) (bO (((r14L Z E 3 false 0).length : Int) == 64) = bO true) (bO false = bO true))
theorem wnQ_ok (nm t : List Int) (l : List (List Int)) : wnQ nm t l := by
 unfold wnQ
 dsimp only
 rw [zero_mkL, zero_r14L, zero_err]
 refine cond_intro (fun _ => rfl) fun h => cond_intro (fun _ => rfl) fun _ => cond_intro (fun _ => rfl) fun _ => ?_
 have hn : nm.length ≤ 1000000000 := by simp at h; omega
 exact ⟨⟨by omega, by omega⟩, ⟨by omega, by omega⟩, ⟨zero_steady, zero_mkE, hn, Nat.le_trans (pubF_len 77) (by omega)⟩, ⟨rfl, zero_few, zero_steadyR, zero_mkE, rfl, hn⟩, ⟨rfl, ⟨by omega, by omega⟩, zero_few⟩, cond_at (by simp) rfl⟩
noncomputable def witnessNilS : FSpec := fun xs bl => match xs, bl with
 | [.c (.str nm), .c (.str t), .c (.rows 32 (.arr .u8 32) l)], [] => some (none, ⟨.c (.bool true), [], []⟩)
 | _, _ => none
theorem witnessNil_ok : FnOk CX 6 witnessNilS := by
 refine fnOkF hmo GL3_ok (fn := Tryz.f6) (c := bodyOf' Tryz.f6) (by kernel_rfl) (by kernel_rfl) (by kernel_rfl) ?_
 intro xs bl p o hF hp
 unfold witnessNilS at hF
 split at hF
 ·rename_i nm t l
  injection hF with hF; injection hF with e1 e2; subst e1; subst e2
  refine ⟨Nat.le_of_ble_eq_true (by kernel_rfl), fun X hX hfa => ⟨[], 999, ?_⟩⟩
  exact ⟨wnQ nm t l, by kernel_rfl, wnQ_ok nm t l⟩
 ·cases hF
end Go.Proofs.YtffdoihhjfjgoaaGreatDoor
/- What comes in, opened: an array of four words, a slice of bytes. -/
namespace Go.Proofs.YtffdoihhjfjgoaaGreatDoor
open Go.ChangeShapes Go.WideShapes Go.ChangeAt Go.RowKit Go.Chr Go.Joins
theorem own : ownKnob Tryz.prog.godebug = none := by kernel_rfl
theorem laidOut : laidOutB Tryz.prog = true := by kernel_rfl
theorem cellsNat : Tryz.prog.cellsOf 45 = 4 := by kernel_rfl
theorem cells64 : Tryz.prog.cellsOf 43 = 1 := by kernel_rfl
end Go.Proofs.YtffdoihhjfjgoaaGreatDoor
/- What a row lists of the variables is what the walks ask. -/
namespace Go.Proofs.YtffdoihhjfjgoaaGreatDoor
open Go Go.Ab Go.RowKit Go.Chr
set_option maxRecDepth 100000
def laidL : List (String × DataW Unit) := [("math/bits.deBruijn32tab", Rows.laid_math_bits_deBruijn32tab), ("math/bits.deBruijn64tab", Rows.laid_math_bits_deBruijn64tab), ("chronicle/field.moduli", Rows.laid_chronicle_field_moduli), ("chronicle/sha256.first", Rows.laid_chronicle_sha256_first), ("chronicle/sha256.constants", Rows.laid_chronicle_sha256_constants), ("internal/strconv.uint64pow10", Rows.laid_internal_strconv_uint64pow10), ("unicode/utf8.acceptRanges", Rows.laid_unicode_utf8_acceptRanges), ("chronicle/ed.d", Rows.laid_chronicle_ed_d), ("chronicle/ed.twice", Rows.laid_chronicle_ed_twice), ("chronicle/ed.root", Rows.laid_chronicle_ed_root), ("chronicle/ed.one", Rows.laid_chronicle_ed_one), ("chronicle/ed.neutral", Rows.laid_chronicle_ed_neutral), ("chronicle/p256.b", Rows.laid_chronicle_p256_b), ("chronicle/p256.one", Rows.laid_chronicle_p256_one), ("chronicle/sha512.first", Rows.laid_chronicle_sha512_first), ("chronicle/sha512.constants", Rows.laid_chronicle_sha512_constants), ("strconv.ErrRange", Rows.laid_strconv_ErrRange), ("strconv.ErrSyntax", Rows.laid_strconv_ErrSyntax), ("unicode/utf8.first", Rows.laid_unicode_utf8_first)]
theorem cellsMod : Tryz.prog.cellsOf 249 = 9 := by kernel_rfl
theorem mod_part {w : World} {fuel : Nat} {cs : List Value} {p : List MemPlace} {A B : List Int} {v : Int}
  (h : DataW.trod (fun _ => ()) Tryz.prog w 0 (fun _ => true) false fuel 249 cs = some (.agg [Lib.tabData .u64 A, Lib.tabData .u64 B, .lit (.int .u64 v)], p)) : cs = (A ++ (B ++ [v])).map (Value.int .u64) := by
 obtain ⟨y0, y1, y2, n, e, hl, h0, h1, h2⟩ := Deep.trod_struct3 Tryz.underlying249 h
 injection e with e1 e2
 injection e1 with e1
 injection e1 with e3 e1
 injection e1 with e4 e1
 injection e1 with e5 e1
 obtain ⟨d0, p0⟩ := y0
 obtain ⟨d1, p1⟩ := y1
 obtain ⟨d2, p2⟩ := y2
 dsimp only at e3 e4 e5
 subst e3; subst e4; subst e5
 rw [cellsMod] at hl
 dsimp only at h0 h1 h2
 rw [cellsNat] at h0 h1
 rw [cells64] at h2
 have c0 := Lib.cells_of_tab Tryz.underlying45 Tryz.underlying43 cells64 cellsNat h0
 have c1 := Lib.cells_of_tab Tryz.underlying45 Tryz.underlying43 cells64 cellsNat h1
 obtain ⟨z, c2, e, _⟩ := DataW.trod_int Tryz.underlying43 h2
 injection e with e e'
 injection e with e
 injection e with _ e
 subst e
 have e1 : cs = (cs.drop 0).take 4 ++ ((cs.drop 4).take 4 ++ (cs.drop 8).take 1) := by
  match cs, hl with
  | [_, _, _, _, _, _, _, _, _], _ => rfl
 rw [e1, c0, c1, c2]
 simp
theorem nat_cells {w : World} {fuel : Nat} {cs : List Value} {p : List MemPlace} {A : List Int} (h : DataW.trod (fun _ => ()) Tryz.prog w 0 (fun _ => true) false fuel 45 cs = some (Lib.tabData .u64 A, p)) : cs = A.map (Value.int .u64) :=
 Lib.cells_of_tab Tryz.underlying45 Tryz.underlying43 cells64 cellsNat h
theorem env_blk {W : World} {g t n : Nat} {v : CV} {cs : Array Value} (hh : W.heap[g]? = some (.cells cs t (0, 0))) (hl : cs.size = n) (hv : v.rel (fun k => k < W.heap.size) W cs.toList) :
  g < W.heap.size ∧ ∃ ty esz body xs post, gBlk t n v = .cells ty esz body ∧ Lies (fun _ => none) (fun k => k < W.heap.size) W ⟨g, 0, 0, 1, false⟩ ty esz body [] xs post := by
 refine ⟨?_, t, n, _, cs.toList, [], rfl, by simpa using hh, rfl, ⟨cs.toList, [], by simp, by simpa using hl, hv, rfl⟩, rfl⟩
 rcases Nat.lt_or_ge g W.heap.size with h | h
 ·exact h
 ·rw [Array.getElem?_eq_none h] at hh; cases hh
theorem mem_of_lookup {g : Nat} {b : Blk'} : ∀ {l : List (Nat × Blk')}, l.lookup g = some b → (g, b) ∈ l
 | [], h => by cases h
 | (k, x) :: l, h => by
  rw [List.lookup_cons] at h
  cases hk : g == k with
  | true => rw [hk] at h; injection h with h; subst h; rw [eq_of_beq hk]; exact List.mem_cons_self ..
  | false => rw [hk] at h; exact List.mem_cons_of_mem _ (mem_of_lookup h)
theorem laid_cells {W : World} {n : String} {d : DataW Unit} {g t : Nat} (h : laidMetH Tryz.prog laidL W) (hsh : W.ShapedOpen Tryz.prog) (hm : (n, d) ∈ laidL) (hg : Tryz.prog.globalNamed n = some g)
  (ht : (Tryz.prog.globals[g]?).map (·.type) = some t) (hlt : Nat.ble (g + 1) Tryz.prog.globals.size = true) (h0 : (((begin Tryz.prog (fun _ _ => 0) default).world.heap[g]?).bind Obj.row?).map Prod.snd = some t) :
  ∃ cs fuel p, W.heap[g]? = some (.cells cs t (0, 0)) ∧ DataW.trod (fun _ => ()) Tryz.prog W 0 (fun _ => true) false fuel t cs.toList = some (d, p) := by
 have h : laidMet Tryz.prog laidL W := h
 obtain ⟨ps, hl, _⟩ := h
 obtain ⟨g', t', cs, fuel, p, h1, h2, h3, h4⟩ := laid_at hl hm
 rw [hg] at h1
 injection h1 with h1
 subst h1
 rw [ht] at h2
 injection h2 with h2
 subst h2
 exact ⟨cs, fuel, p, laid_blk hg h3 hsh (Nat.le_of_ble_eq_true hlt) h0, h4⟩
theorem parts4 {l : List Value} (h : l.length = 36) : l = (l.drop 0).take 9 ++ ((l.drop 9).take 9 ++ ((l.drop 18).take 9 ++ (l.drop 27).take 9)) := by
 rw [List.take_of_length_le (l := l.drop 27) (by simp; omega)]
 have e1 : l.drop 27 = (l.drop 18).drop 9 := by rw [List.drop_drop]
 have e2 : l.drop 18 = (l.drop 9).drop 9 := by rw [List.drop_drop]
 rw [e1, List.take_append_drop, e2, List.take_append_drop, List.drop_zero, List.take_append_drop]
theorem cells4Mod : Tryz.prog.cellsOf 331 = 36 := by kernel_rfl
theorem mK_rel {N : Nat → Prop} {w : World} {A B : List Int} {v : Int} (k : Int) (hA : natL (pI k) = A) (hB : natL (qK k.toNat) = B) (hv : vK k.toNat = v) (hq : qK k.toNat < two256) (hi : 0 ≤ vK k.toNat ∧ vK k.toNat < 18446744073709551616) : (mK k).rel N w ((A ++ (B ++ [v])).map (Value.int .u64)) := by
 have ho := okK k.toNat
 unfold mK
 rw [fmod_eq, fsq_eq, fiv_eq]
 exact ⟨A.map (Value.int .u64), (B ++ [v]).map (Value.int .u64), by simp, ⟨by rw [hA], ho.lt, Nat.le_refl _⟩, B.map (Value.int .u64), [Value.int .u64 v], by simp, ⟨by rw [hB], hq, Nat.le_refl _⟩, [Value.int .u64 v], [], rfl, ⟨by rw [hv], okI_u64.2 hi⟩, rfl⟩
theorem cells4Q : Tryz.prog.cellsOf 308 = 16 := by kernel_rfl
theorem quad_cells {w : World} {fuel : Nat} {cs : List Value} {p : List MemPlace} (h : DataW.trod (fun _ => ()) Tryz.prog w 0 (fun _ => true) false fuel 308 cs = some (Rows.laid_chronicle_ed_neutral, p)) : cs = ([0, 0, 0, 0] ++ ([1, 0, 0, 0] ++ ([1, 0, 0, 0] ++ [0, 0, 0, 0])) : List Int).map (Value.int .u64) := by
 obtain ⟨y0, y1, y2, y3, n, e, hl, h0, h1, h2, h3⟩ := Joins.trod_struct4 Tryz.underlying308 h
 injection e with e _
 injection e with e
 injection e with e0 e
 injection e with e1 e
 injection e with e2 e
 injection e with e3 e
 obtain ⟨d0, p0⟩ := y0
 obtain ⟨d1, p1⟩ := y1
 obtain ⟨d2, p2⟩ := y2
 obtain ⟨d3, p3⟩ := y3
 dsimp only at e0 e1 e2 e3
 subst e0; subst e1; subst e2; subst e3
 dsimp only at h0 h1 h2 h3
 rw [cells4Q] at hl
 rw [cellsNat] at h0 h1 h2 h3
 have c0 := nat_cells (A := [0, 0, 0, 0]) h0
 have c1 := nat_cells (A := [1, 0, 0, 0]) h1
 have c2 := nat_cells (A := [1, 0, 0, 0]) h2
 have c3 := nat_cells (A := [0, 0, 0, 0]) h3
 have e1 : cs = (cs.drop 0).take 4 ++ ((cs.drop 4).take 4 ++ ((cs.drop 8).take 4 ++ (cs.drop 12).take 4)) := by
  match cs, hl with
  | [_, _, _, _, _, _, _, _, _, _, _, _, _, _, _, _], _ => rfl
 rw [e1, c0, c1, c2, c3]
 simp
theorem mod_cells {w : World} {fuel : Nat} {cs : List Value} {p : List MemPlace} (h : DataW.trod (fun _ => ()) Tryz.prog w 0 (fun _ => true) false fuel 331 cs = some (Rows.laid_chronicle_field_moduli, p)) : ∀ {N : Nat → Prop}, modC.rel N w cs := by
 intro N
 obtain ⟨xs, m, -, e, hl, hx, hi⟩ := DataW.trod_array Tryz.underlying331 h
 injection e with e _
 rw [cells4Mod] at hl
 rw [cellsMod] at hi
 match xs, hx with
 | [(d0, q0), (d1, q1), (d2, q2), (d3, q3)], _ =>
  injection e with e
  injection e with e0 e
  injection e with e1 e
  injection e with e2 e
  injection e with e3 e
  dsimp only at e0 e1 e2 e3
  subst e0; subst e1; subst e2; subst e3
  have h0 := mod_part (A := [18446744073709551615, 4294967295, 0, 18446744069414584321]) (B := [3, 18446744056529682431, 18446744073709551614, 21474836477]) (v := 1) (hi 0 (by omega))
  have h1 := mod_part (A := [17562291160714782033, 13611842547513532036, 18446744073709551615, 18446744069414584320]) (B := [9449762124159643298, 5087230966250696614, 2901921493521525849, 7413256579398063648]) (v := 14758798090332847183) (hi 1 (by omega))
  have h2 := mod_part (A := [18446744073709551597, 18446744073709551615, 18446744073709551615, 9223372036854775807]) (B := [1444, 0, 0, 0]) (v := 9708812670373448219) (hi 2 (by omega))
  have h3 := mod_part (A := [6346243789798364141, 1503914060200516822, 0, 1152921504606846976]) (B := [11819153939886771969, 14991950615390032711, 14910419812499177061, 259310039853996605]) (v := 15183074304973897243) (hi 3 (by omega))
  rw [parts4 hl]
  rw [show (0 : Nat) * 9 = 0 from rfl] at h0
  rw [show (1 : Nat) * 9 = 9 from rfl] at h1
  rw [show (2 : Nat) * 9 = 18 from rfl] at h2
  rw [show (3 : Nat) * 9 = 27 from rfl] at h3
  rw [h0, h1, h2, h3]
  exact ⟨_, _, rfl, mK_rel 0 (by kernel_rfl) (by kernel_rfl) (by kernel_rfl) (Nat.le_of_ble_eq_true (by kernel_rfl)) (by decide), _, _, rfl, mK_rel 1 (by kernel_rfl) (by kernel_rfl) (by kernel_rfl) (Nat.le_of_ble_eq_true (by kernel_rfl)) (by decide), _, _, rfl, mK_rel 2 (by kernel_rfl) (by kernel_rfl) (by kernel_rfl) (Nat.le_of_ble_eq_true (by kernel_rfl)) (by decide), _, [], (List.append_nil _).symm, mK_rel 3 (by kernel_rfl) (by kernel_rfl) (by kernel_rfl) (Nat.le_of_ble_eq_true (by kernel_rfl)) (by decide), rfl⟩
theorem ok64 {l : List Int} (h : (l.all fun x => decide (0 ≤ x) && decide (x < 18446744073709551616)) = true) : ∀ x ∈ l, okI .u64 x := fun x hx => by
 have := List.all_eq_true.1 h x hx
 simp only [Bool.and_eq_true, decide_eq_true_eq] at this
 exact okI_u64.2 this
theorem ok32 {l : List Int} (h : (l.all fun x => decide (0 ≤ x) && decide (x < 4294967296)) = true) : ∀ x ∈ l, okI .u32 x := fun x hx => by
 have := List.all_eq_true.1 h x hx
 simp only [Bool.and_eq_true, decide_eq_true_eq] at this
 exact okI_u32.2 this
theorem size_map {cs : Array Value} {k : IntKind} {l : List Int} {n : Nat} (h : cs.toList = l.map (Value.int k)) (hn : l.length = n) : cs.size = n := by
 rw [← Array.length_toList, h, List.length_map, hn]
theorem env_of_laid {W : World} (h : laidMetH Tryz.prog laidL W) (hsh : W.ShapedOpen Tryz.prog) : Env CX (fun k => k < W.heap.size) W := by
 refine ⟨fun k hk => hk, fun g blk hg => ?_⟩
 have hm := mem_of_lookup hg
 unfold CX at hm
 simp only [List.mem_cons, List.not_mem_nil, or_false] at hm
 rcases hm with e | e | e | e | e | e | e | e | e | e | e | e <;> injection e with e1 e2 <;> subst e1 <;> subst e2
 ·obtain ⟨cs, fuel, p, h1, h2⟩ := laid_cells (d := Rows.laid_chronicle_field_moduli) (n := "chronicle/field.moduli") (g := 5) (t := 331) h hsh (.tail _ (.tail _ (.head _))) (by kernel_rfl) (by kernel_rfl) (by kernel_rfl) (by kernel_rfl)
  have hc := mod_cells h2 (N := fun k => k < W.heap.size)
  exact env_blk h1 (by rw [← Array.length_toList]; exact hc.len) hc
 ·obtain ⟨cs, fuel, p, h1, h2⟩ := laid_cells (d := Rows.laid_chronicle_p256_one) (n := "chronicle/p256.one") (g := 3) (t := 45) h hsh (.tail _ (.tail _ (.tail _ (.tail _ (.tail _ (.tail _ (.tail _ (.tail _ (.tail _ (.tail _ (.tail _ (.tail _ (.tail _ (.head _)))))))))))))) (by kernel_rfl) (by kernel_rfl) (by kernel_rfl) (by kernel_rfl)
  have hc := nat_cells (A := natL 1) h2
  exact env_blk h1 (size_map hc rfl) ⟨hc, Nat.le_of_ble_eq_true (by kernel_rfl), Nat.le_refl _⟩
 ·obtain ⟨cs, fuel, p, h1, h2⟩ := laid_cells (d := Rows.laid_chronicle_p256_b) (n := "chronicle/p256.b") (g := 4) (t := 45) h hsh (.tail _ (.tail _ (.tail _ (.tail _ (.tail _ (.tail _ (.tail _ (.tail _ (.tail _ (.tail _ (.tail _ (.tail _ (.head _))))))))))))) (by kernel_rfl) (by kernel_rfl) (by kernel_rfl) (by kernel_rfl)
  have hc := nat_cells (A := natL cvB) h2
  exact env_blk h1 (size_map hc rfl) ⟨hc, Nat.le_of_ble_eq_true (by kernel_rfl), Nat.le_refl _⟩
 ·obtain ⟨cs, fuel, p, h1, h2⟩ := laid_cells (d := Rows.laid_chronicle_sha256_first) (n := "chronicle/sha256.first") (g := 7) (t := 255) h hsh (.tail _ (.tail _ (.tail _ (.head _)))) (by kernel_rfl) (by kernel_rfl) (by kernel_rfl) (by kernel_rfl)
  have hc := Lib.cells_of_tab (k := .u32) (zs := shaH) Tryz.underlying255 Tryz.underlying26 (by kernel_rfl) (by kernel_rfl) h2
  exact env_blk h1 (size_map hc rfl) ⟨hc, rfl, ok32 (by kernel_rfl)⟩
 ·obtain ⟨cs, fuel, p, h1, h2⟩ := laid_cells (d := Rows.laid_chronicle_sha256_constants) (n := "chronicle/sha256.constants") (g := 11) (t := 292) h hsh (.tail _ (.tail _ (.tail _ (.tail _ (.head _))))) (by kernel_rfl) (by kernel_rfl) (by kernel_rfl) (by kernel_rfl)
  have hc := Lib.cells_of_tab (k := .u32) (zs := shaK) Tryz.underlying292 Tryz.underlying26 (by kernel_rfl) (by kernel_rfl) h2
  exact env_blk h1 (size_map hc rfl) ⟨hc, rfl, ok32 (by kernel_rfl)⟩
 ·obtain ⟨cs, fuel, p, h1, h2⟩ := laid_cells (d := Rows.laid_chronicle_sha512_first) (n := "chronicle/sha512.first") (g := 6) (t := 335) h hsh (.tail _ (.tail _ (.tail _ (.tail _ (.tail _ (.tail _ (.tail _ (.tail _ (.tail _ (.tail _ (.tail _ (.tail _ (.tail _ (.tail _ (.head _))))))))))))))) (by kernel_rfl) (by kernel_rfl) (by kernel_rfl) (by kernel_rfl)
  have hc := Lib.cells_of_tab (k := .u64) (zs := sha5H) Tryz.underlying335 Tryz.underlying43 (by kernel_rfl) (by kernel_rfl) h2
  exact env_blk h1 (size_map hc rfl) ⟨hc, rfl, ok64 (by kernel_rfl)⟩
 ·obtain ⟨cs, fuel, p, h1, h2⟩ := laid_cells (d := Rows.laid_chronicle_sha512_constants) (n := "chronicle/sha512.constants") (g := 10) (t := 353) h hsh (.tail _ (.tail _ (.tail _ (.tail _ (.tail _ (.tail _ (.tail _ (.tail _ (.tail _ (.tail _ (.tail _ (.tail _ (.tail _ (.tail _ (.tail _ (.head _)))))))))))))))) (by kernel_rfl) (by kernel_rfl) (by kernel_rfl) (by kernel_rfl)
  have hc := Lib.cells_of_tab (k := .u64) (zs := sha5K) Tryz.underlying353 Tryz.underlying43 (by kernel_rfl) (by kernel_rfl) h2
  exact env_blk h1 (size_map hc rfl) ⟨hc, rfl, ok64 (by kernel_rfl)⟩
 ·obtain ⟨cs, fuel, p, h1, h2⟩ := laid_cells (d := Rows.laid_chronicle_ed_one) (n := "chronicle/ed.one") (g := 0) (t := 45) h hsh (.tail _ (.tail _ (.tail _ (.tail _ (.tail _ (.tail _ (.tail _ (.tail _ (.tail _ (.tail _ (.head _))))))))))) (by kernel_rfl) (by kernel_rfl) (by kernel_rfl) (by kernel_rfl)
  have hc := nat_cells (A := natL 1) h2
  exact env_blk h1 (size_map hc rfl) ⟨hc, Nat.le_of_ble_eq_true (by kernel_rfl), Nat.le_refl _⟩
 ·obtain ⟨cs, fuel, p, h1, h2⟩ := laid_cells (d := Rows.laid_chronicle_ed_d) (n := "chronicle/ed.d") (g := 1) (t := 45) h hsh (.tail _ (.tail _ (.tail _ (.tail _ (.tail _ (.tail _ (.tail _ (.head _)))))))) (by kernel_rfl) (by kernel_rfl) (by kernel_rfl) (by kernel_rfl)
  have hc := nat_cells (A := natL edD) h2
  exact env_blk h1 (size_map hc rfl) ⟨hc, Nat.le_of_ble_eq_true (by kernel_rfl), Nat.le_refl _⟩
 ·obtain ⟨cs, fuel, p, h1, h2⟩ := laid_cells (d := Rows.laid_chronicle_ed_twice) (n := "chronicle/ed.twice") (g := 9) (t := 45) h hsh (.tail _ (.tail _ (.tail _ (.tail _ (.tail _ (.tail _ (.tail _ (.tail _ (.head _))))))))) (by kernel_rfl) (by kernel_rfl) (by kernel_rfl) (by kernel_rfl)
  have hc := nat_cells (A := natL edT) h2
  exact env_blk h1 (size_map hc rfl) ⟨hc, Nat.le_of_ble_eq_true (by kernel_rfl), Nat.le_refl _⟩
 ·obtain ⟨cs, fuel, p, h1, h2⟩ := laid_cells (d := Rows.laid_chronicle_ed_root) (n := "chronicle/ed.root") (g := 8) (t := 45) h hsh (.tail _ (.tail _ (.tail _ (.tail _ (.tail _ (.tail _ (.tail _ (.tail _ (.tail _ (.head _)))))))))) (by kernel_rfl) (by kernel_rfl) (by kernel_rfl) (by kernel_rfl)
  have hc := nat_cells (A := natL edR) h2
  exact env_blk h1 (size_map hc rfl) ⟨hc, Nat.le_of_ble_eq_true (by kernel_rfl), Nat.le_refl _⟩
 ·obtain ⟨cs, fuel, p, h1, h2⟩ := laid_cells (d := Rows.laid_chronicle_ed_neutral) (n := "chronicle/ed.neutral") (g := 2) (t := 308) h hsh (.tail _ (.tail _ (.tail _ (.tail _ (.tail _ (.tail _ (.tail _ (.tail _ (.tail _ (.tail _ (.tail _ (.head _)))))))))))) (by kernel_rfl) (by kernel_rfl) (by kernel_rfl) (by kernel_rfl)
  have hc := quad_cells h2
  refine env_blk h1 (size_map hc rfl) ?_
  rw [hc, List.map_append, List.map_append, List.map_append]
  exact ⟨_, _, rfl, ⟨rfl, Nat.le_of_ble_eq_true (by kernel_rfl), Nat.le_refl _⟩, _, _, rfl, ⟨rfl, Nat.le_of_ble_eq_true (by kernel_rfl), Nat.le_refl _⟩, _, _, rfl, ⟨rfl, Nat.le_of_ble_eq_true (by kernel_rfl), Nat.le_refl _⟩, _, [], (List.append_nil _).symm, ⟨rfl, Nat.le_of_ble_eq_true (by kernel_rfl), Nat.le_refl _⟩, rfl⟩
noncomputable def laidWorld (os : Os) : World := World.laidAll Tryz.prog os laidL
theorem laid_all (os : Os) (args : Array Value) : laidMet Tryz.prog laidL ((laidWorld os).forCall (fun _ _ => 0) ⟨#[], args, []⟩).memory := laidMet_laidAll args (by kernel_rfl) (by kernel_rfl)
end Go.Proofs.YtffdoihhjfjgoaaGreatDoor
/- What comes in, opened: strings, slices of hashes. -/
namespace Go.Proofs.YtffdoihhjfjgoaaGreatDoor
open Go Go.Ab Go.RowKit Go.Chr Go.ChangeShapes Go.WideShapes Go.ChangeAt Go.Joins
set_option maxRecDepth 100000
theorem str_val {ι : Nat → Option Ab.Loc} {N : Nat → Prop} {w : World} (s : ByteArray) : (AV.c (.str (bytesOf s))).val ι N w (.string s) := ⟨s, rfl, rfl⟩
theorem all_ints : ∀ {cs : List Value}, (∀ v ∈ cs, ∃ z, v = .int .u8 z ∧ 0 ≤ z ∧ z < 256) → ∃ l : List Int, cs = l.map (Value.int .u8) ∧ ∀ x ∈ l, 0 ≤ x ∧ x < 256
 | [], _ => ⟨[], rfl, fun x hx => by cases hx⟩
 | v :: cs, h => by
  obtain ⟨z, rfl, h1, h2⟩ := h v (by simp)
  obtain ⟨l, rfl, hl⟩ := all_ints fun v hv => h v (List.mem_cons_of_mem _ hv)
  exact ⟨z :: l, rfl, fun x hx => by
   rcases List.mem_cons.1 hx with rfl | hx
   ·exact ⟨h1, h2⟩
   ·exact hl x hx⟩
theorem cellsH : Tryz.prog.cellsOf 23 = 32 := by kernel_rfl
theorem cells8 : Tryz.prog.cellsOf 5 = 1 := by kernel_rfl
theorem hash_cells {H : Type} {enc : TypeId × Value → H} {w : World} {fuel base : Nat} {sp : Nat → Bool} {held : Bool} {cs : List Value} {y : DataW H × List MemPlace} (h : DataW.trod enc Tryz.prog w base sp held fuel 23 cs = some y) :
  ∃ l : List Int, cs = l.map (Value.int .u8) ∧ l.length = 32 ∧ ∀ x ∈ l, 0 ≤ x ∧ x < 256 := by
 obtain ⟨xs, m, -, -, hl, hx, hi⟩ := DataW.trod_array Tryz.underlying23 h
 rw [cellsH] at hl
 rw [cells8] at hi
 have key : ∀ v ∈ cs, ∃ z, v = .int .u8 z ∧ 0 ≤ z ∧ z < 256 := fun v hv => by
  obtain ⟨i, hlt, rfl⟩ := List.getElem_of_mem hv
  have h1 := hi i (by omega)
  rw [List.getElem?_eq_getElem (by omega), Nat.mul_one] at h1
  obtain ⟨z, e, _, hz⟩ := DataW.trod_int Tryz.underlying5 h1
  have hd : (cs.drop i).take 1 = [cs[i]] := by
   rw [List.drop_eq_getElem_cons hlt]; rfl
  rw [hd] at e
  injection e with e _
  have := bounds_u8 hz
  exact ⟨z, e, by omega, by omega⟩
 obtain ⟨l, e, hb⟩ := all_ints key
 exact ⟨l, e, by rw [← hl, e, List.length_map], hb⟩
theorem rel_rows {N : Nat → Prop} {w : World} : ∀ {xs : List (List Int)}, (∀ l ∈ xs, l.length = 32 ∧ ∀ x ∈ l, 0 ≤ x ∧ x < 256) → relList 32 (fun a => (Tag.arr .u8 32).rel N w a) xs (xs.map fun l => l.map (Value.int .u8)).flatten
 | [], _ => rfl
 | l :: xs, h => ⟨l.map (Value.int .u8), _, rfl, by rw [List.length_map]; exact (h l (by simp)).1, ⟨rfl, (h l (by simp)).1, fun x hx => okI_u8.2 ((h l (by simp)).2 x hx)⟩, rel_rows fun l hl => h l (List.mem_cons_of_mem _ hl)⟩
theorem flat32 : ∀ {xs : List (List Int)}, (∀ l ∈ xs, l.length = 32 ∧ ∀ x ∈ l, 0 ≤ x ∧ x < 256) → (xs.map fun l => l.map (Value.int .u8)).flatten.length = xs.length * 32
 | [], _ => rfl
 | l :: xs, h => by
  rw [List.map_cons, List.flatten_cons, List.length_append, flat32 fun l hl => h l (List.mem_cons_of_mem _ hl), List.length_map, (h l (by simp)).1, List.length_cons]; omega
theorem open_hashes {H : Type} {enc : TypeId × Value → H} {w : World} {fuel base : Nat} {sp : Nat → Bool} {held : Bool} {a : Option Addr} {len cap : Nat} {y : DataW H × List MemPlace}
  (h : DataW.trod enc Tryz.prog w base sp held fuel 66 [.slice a len cap] = some y) :
  ∃ xs : List (List Int), xs.length = len ∧ (AV.c (.rows 32 (.arr .u8 32) xs)).val (fun _ => none) (fun k => k < w.heap.size) w (.slice a len cap) := by
 rcases Deep.open_slice Tryz.underlying66 h with ⟨hcs, _⟩ | ⟨ad, len', cap', m, n, D, Pl, hcs, _, hl, _, hm, _, hi⟩
 ·simp at hcs
  obtain ⟨rfl, rfl, rfl⟩ := hcs
  exact ⟨[], rfl, [], rfl, none, 0, rfl, Nat.le_refl _, fun h => absurd h (Nat.lt_irrefl 0)⟩
 ·simp at hcs
  obtain ⟨rfl, rfl, rfl⟩ := hcs
  have hlm : len ≤ m := by rw [hm]; split <;> omega
  rw [cellsH] at hi
  have key : ∀ k, k ≤ len → ∃ xs : List (List Int), xs.length = k ∧ (∀ l ∈ xs, l.length = 32 ∧ ∀ x ∈ l, 0 ≤ x ∧ x < 256) ∧ ∀ j u, (xs.map fun l => l.map (Value.int .u8)).flatten[j]? = some u → w.cell? (ad.add j) = some u := by
   intro k
   induction k with
   | zero => exact fun _ => ⟨[], rfl, (fun l hl => by cases hl), fun j u h => by simp at h⟩
   | succ k ih =>
    intro hk
    obtain ⟨xs, h1, h2, h3⟩ := ih (by omega)
    obtain ⟨cs', c1, c2⟩ := hi k (by omega)
    obtain ⟨l, rfl, l1, l2⟩ := hash_cells c2
    obtain ⟨_, g2, g3⟩ := World.cells?_some c1
    refine ⟨xs ++ [l], by simp [h1], fun l' hl' => ?_, fun j u hu => ?_⟩
    ·rcases List.mem_append.1 hl' with hl' | hl'
     ·exact h2 l' hl'
     ·rw [List.mem_singleton.1 hl']; exact ⟨l1, l2⟩
    ·rw [List.map_append, List.flatten_append] at hu
     have hfl := flat32 h2
     rcases Nat.lt_or_ge j (k * 32) with hj | hj
     ·rw [List.getElem?_append_left (by omega)] at hu
      exact h3 j u hu
     ·rw [List.getElem?_append_right (by omega), hfl, h1] at hu
      simp only [List.map_cons, List.map_nil, List.flatten_cons, List.flatten_nil, List.append_nil] at hu
      have hlt : j - k * 32 < 32 := by
       have := (List.getElem?_eq_some_iff.1 hu).1
       rw [List.length_map] at this; omega
      have := g3 (j - k * 32) (by omega)
      rw [hu, add_of_add, show k * 32 + (j - k * 32) = j by omega] at this
      exact this
  obtain ⟨xs, rfl, h2, h3⟩ := key len (Nat.le_refl _)
  refine ⟨xs, rfl, _, rel_rows h2, some ad, cap, rfl, hl, fun h0 => ⟨ad, rfl, ?_, h3⟩⟩
  have h0 : 0 < xs.length := h0
  obtain ⟨cs', c1, c2⟩ := hi 0 (by omega)
  have hb := World.cells?_block c1 (by omega)
  have : (ad.add (0 * 32)).block = ad.block := block_of_add ..
  rw [this] at hb
  exact hb
end Go.Proofs.YtffdoihhjfjgoaaGreatDoor
/- What joinedFacts asks of the program alone. -/
namespace Go.Proofs.YtffdoihhjfjgoaaGreatDoor
open Go
set_option maxRecDepth 100000
theorem cl_laidOut : (laidOutB Tryz.prog) = true := by kernel_rfl
theorem cl_mapsRowed : (mapsRowed Tryz.prog) = true := by kernel_rfl
theorem cl_noStops : ((Tryz.prog.stops == [])) = true := by kernel_rfl
theorem cl_noKnobs : ((Tryz.prog.stopKnobs == [])) = true := by kernel_rfl
theorem cl_heard : (Tryz.prog.stopsHeard) = true := by kernel_rfl
theorem cl_enters : (Tryz.prog.mayEnter) = true := by kernel_rfl
theorem cl_plainKeys : Tryz.prog.plainKeys = true := by kernel_rfl
theorem cl_lifts : Tryz.prog.liftsFinal = false := by kernel_rfl
theorem cl_looks : true = Tryz.prog.looks [] := by kernel_rfl
end Go.Proofs.YtffdoihhjfjgoaaGreatDoor
/- WitnessNil: the row, and its tied card. -/
namespace Go.Proofs.YtffdoihhjfjgoaaGreatDoor
open Go Go.Ab Go.ChangeShapes Go.WideShapes Go.ChangeAt Go.RowKit Go.Chr Go.Joins
open Go.ChangeMaps (open_string)
set_option maxRecDepth 100000
theorem witnessNil_contract (H : Type) (enc : TypeId × Value → H) (W : World) (base : Nat) (args : Array Value) (ds gs : List (DataW H)) (before : List MemPlace)
  (hval0 : ∀ (j : Nat) t v, Tryz.f6.params[j]? = some t → args[j]? = some v → Value.okWide Tryz.prog W .any base t v)
  (hW : DataW.Whole enc Tryz.prog Tryz.f6.params.toList Rows.witnessNilSpec.vars false W args.toList ds gs before) (hL : laidMetH Tryz.prog laidL W) (hsh : W.ShapedOpen Tryz.prog) :
  Calls Tryz.prog 6 args W fun e W' => ∃ v, e = .returned v ∧ Rows.witnessNilSpec.post enc Tryz.prog Tryz.f6 false true false false W args v W' := by
 have hval : ∀ (j : Nat) t v, Tryz.f6.params[j]? = some t → args[j]? = some v → Value.okWide Tryz.prog W .any base t v := hval0
 have hW' := hW
 obtain ⟨p, q, hA0, hV, rfl, hfz, hnd⟩ := hW
 have hA : DataW.TrodAll enc Tryz.prog W 0 (fun _ => true) true Tryz.f6.params.toList args.toList ds p := hA0
 rw [Tryz.params6] at hA hval
 obtain ⟨v0, vs0, d0, ds0, p0, q0, hargs, rfl, rfl, h0, r0⟩ := trodAll_cons hA
 obtain ⟨v1, vs1, d1, ds1, p1, q1, rfl, rfl, rfl, h1, r1⟩ := trodAll_cons r0
 obtain ⟨v2, vs2, d2, ds2, p2, q2, rfl, rfl, rfl, h2, r2⟩ := trodAll_cons r1
 obtain ⟨rfl, rfl, rfl⟩ := trodAll_nil r2
 obtain rfl : args = #[v0, v1, v2] := by cases args; simp_all
 obtain ⟨rfl, rfl⟩ := trodVars_none hV
 have lt0 : ∀ x ∈ p0, x.block < W.heap.size := by obtain ⟨m, hm⟩ := h0; exact DataW.trod_lt m _ _ _ hm
 have k0 := h0
 have lt1 : ∀ x ∈ p1, x.block < W.heap.size := by obtain ⟨m, hm⟩ := h1; exact DataW.trod_lt m _ _ _ hm
 have k1 := h1
 have lt2 : ∀ x ∈ p2, x.block < W.heap.size := by obtain ⟨m, hm⟩ := h2; exact DataW.trod_lt m _ _ _ hm
 have k2 := h2
 obtain ⟨s0, rfl, _, _, _⟩ := open_string Tryz.underlying9 (hval 0 9 v0 rfl rfl) h0
 obtain ⟨s1, rfl, _, _, _⟩ := open_string Tryz.underlying9 (hval 1 9 v1 rfl rfl) h1
 obtain ⟨a2, len2, cap2, rfl⟩ := okWide_slice Tryz.underlying66 (hval 2 66 v2 rfl rfl)
 obtain ⟨fuel2, hf2⟩ := h2
 obtain ⟨l2, hl2, hr2⟩ := open_hashes hf2
 clear hA0 hval0
 have hc := top_calls (modes := [true, true, true]) (v := .c (.bool true)) (args := [.c (.str (bytesOf s0)), .c (.str (bytesOf s1)), .c (.rows 32 (.arr .u8 32) l2)]) witnessNil_ok (by kernel_rfl) (env_of_laid hL hsh) ⟨_, _, rfl, str_val s0, ⟨_, _, rfl, str_val s1, ⟨_, _, rfl, hr2, rfl⟩⟩⟩ (fun k => by kernel_rfl)
 rw [CX_P] at hc
 refine Calls.mono hc fun e W' ⟨u, he, ⟨ι', N', hu⟩, bel⟩ => ?_
 have hu : [u] = [Value.bool true] := hu
 injection hu with hu
 subst hu
 subst he
 exact ⟨_, rfl, _, _, _, [], _, [], hW', trodAll_mk1 (shut_bool Tryz.underlying4 _), (trodAll_cons_mk (Below.trod laidOut (by kernel_rfl) (of_decide_eq_true (by kernel_rfl)) k0 bel lt0) (trodAll_cons_mk (Below.trod laidOut (by kernel_rfl) (of_decide_eq_true (by kernel_rfl)) k1 bel lt1) (trodAll_cons_mk (Below.trod laidOut (by kernel_rfl) (of_decide_eq_true (by kernel_rfl)) k2 bel lt2) trodAll_mk0))), rfl, bel.frame _, fun h => by cases h⟩
theorem witnessNil_laid (os : Os) : laidMet Tryz.prog laidL ((laidWorld os).forCall (fun _ _ => 0) ⟨#[], #[.string ByteArray.empty, .string ByteArray.empty, .slice none 0 0], []⟩).memory :=
 laid_all os _
theorem witnessNil_reads (os : Os) {H : Type} (enc : TypeId × Value → H) : ∃ places, DataW.whole enc Tryz.prog ((laidWorld os).forCall (fun _ _ => 0) ⟨#[], #[.string ByteArray.empty, .string ByteArray.empty, .slice none 0 0], []⟩).memory Tryz.f6.params.toList Rows.witnessNilSpec.vars false (#[.string ByteArray.empty, .string ByteArray.empty, .slice none 0 0] : Array Value).toList 8 = some ([.lit (.string []), .lit (.string []), .nil], [], places) :=
 ⟨[], by kernel_rfl⟩
theorem witnessNil_lifted (os : Os) (started : os.Started) (H : Type) (enc : TypeId × Value → H) (F : Stop.Interp) :
  ReturnsInHanded {} Tryz.checked os 6 .any ((OpenSpec.ofChange Rows.witnessNilSpec).preRow enc Tryz.prog Tryz.f6 Rows.witnessNilRow.domain false Rows.witnessNilRow.laid) (((OpenSpec.ofChange Rows.witnessNilSpec).at F).post enc Tryz.prog Tryz.f6 false true false false) := by
 obtain ⟨places, hx⟩ := witnessNil_reads os enc
 refine returnsInHanded_of_row (C := Tryz.checked) (s := OpenSpec.ofChange Rows.witnessNilSpec) own started (by kernel_rfl) Tryz.func6
  (witness_row_at (enc := enc) (C := Tryz.checked) false (laidWorld os) #[.string ByteArray.empty, .string ByteArray.empty, .slice none 0 0] rfl (by kernel_rfl) (by kernel_rfl) (by kernel_rfl)
   (OpenSpec.preRow_of_cond 8 hx (by kernel_rfl) (fun k hk => by cases hk) (by kernel_rfl) (witnessNil_laid os))) ?_
 intro W base args ds gs before hval hW _ _ _ hL hsh _
 exact witnessNil_contract H enc W base args ds gs before hval hW hL hsh
theorem witnessNil_c0 : (Rows.witnessNilRow.wf (OpenSpec.ofChange (OpenSpec.ofChange Rows.witnessNilSpec).bare)) = true := by kernel_rfl
theorem witnessNil_c3 : (Tryz.f6.params.all (Tryz.prog.readableRec ·)) = true := by kernel_rfl
theorem witnessNil_c4 : (namedTie Tryz.prog Rows.witnessNilRow.named (OpenSpec.ofChange Rows.witnessNilSpec).bare.vars) = true := by kernel_rfl
theorem witnessNil_c5 : ((Rows.witnessNilRow.stops == [])) = true := by kernel_rfl
theorem witnessNil_c7 : ((Rows.witnessNilRow.knobs == [])) = true := by kernel_rfl
theorem witnessNil_c9 : ((Rows.witnessNilRow.inPlace == Tryz.prog.inPlace 6)) = true := by kernel_rfl
theorem witnessNil_c10 : ((Rows.witnessNilRow.unfollowed == Tryz.prog.unfollowed 6)) = true := by kernel_rfl
theorem witnessNil_c11 : ((Rows.witnessNilRow.recurses == Tryz.prog.recurses 6)) = true := by kernel_rfl
theorem witnessNil_c12 : ((Rows.witnessNilRow.named == Tryz.prog.varsNamed 6)) = true := by kernel_rfl
theorem witnessNil_c13 : ((Rows.witnessNilRow.maps == (Tryz.f6.params.toList ++ (OpenSpec.ofChange Rows.witnessNilSpec).bare.plain.varTypes Tryz.prog).any (Tryz.prog.mapsRec ·))) = true := by kernel_rfl
theorem witnessNil_c14 : ((Rows.witnessNilRow.ifaces == (Tryz.f6.params.toList ++ (OpenSpec.ofChange Rows.witnessNilSpec).bare.plain.varTypes Tryz.prog).any (Tryz.prog.ifacesRec ·))) = true := by kernel_rfl
theorem witnessNil_c15 : ((Rows.witnessNilRow.mapsOut == Tryz.prog.mapsAmong Tryz.f6.resultTypes.toList)) = true := by kernel_rfl
theorem witnessNil_c16 : ((Rows.witnessNilRow.loops == (Tryz.f6.params.toList ++ (OpenSpec.ofChange Rows.witnessNilSpec).bare.plain.varTypes Tryz.prog).any (Tryz.prog.loopsFrom ·))) = true := by kernel_rfl
theorem witnessNil_c17 : ((Rows.witnessNilRow.wideKeys == (Tryz.f6.params.toList ++ (OpenSpec.ofChange Rows.witnessNilSpec).bare.plain.varTypes Tryz.prog ++ Tryz.f6.resultTypes.toList).any (Tryz.prog.wideKeysFrom ·))) = true := by kernel_rfl
theorem witnessNil_c18 : ((OpenSpec.ofChange Rows.witnessNilSpec).bare.vars.all (Tryz.prog.varReadable ·)) = true := by kernel_rfl
theorem witnessNil_c19 : (Tryz.f6.resultTypes.all (fun t => Tryz.prog.readableRec t && decide (t < Tryz.prog.types.size))) = true := by kernel_rfl
theorem witnessNil_c20 : ((Rows.witnessNilRow.ifacesOut == Tryz.f6.resultTypes.toList.any (Tryz.prog.ifacesRec ·))) = true := by kernel_rfl
theorem witnessNil_c21 : ((Rows.witnessNilRow.loopsOut == Tryz.f6.resultTypes.toList.any (Tryz.prog.loopsFrom ·))) = true := by kernel_rfl
theorem witnessNil_c22 : ((Rows.witnessNilRow.plainKeys == Tryz.prog.plainKeys)) = true := by rw [cl_plainKeys]; rfl
theorem witnessNil_c23 : (Rows.witnessNilRow.shortTexts.isNone) = true := by kernel_rfl
theorem witnessNil_c26 : ((Rows.witnessNilRow.lifted == Tryz.prog.liftsFinal)) = true := by rw [cl_lifts]; rfl
theorem witnessNil_c27 : ((Tryz.prog.make == some Rows.witnessNilRow.make)) = true := by kernel_rfl
theorem witnessNil_c28 : ((Rows.witnessNilRow.kinds == (if Rows.witnessNilRow.domain.isEmpty then [] else Tryz.f6.params.toList.map fun t => match Tryz.prog.underlying t with | some (.int k) => some k | _ => none))) = true := by kernel_rfl
theorem witnessNil_c29 : ((Rows.witnessNilRow.pinned == Rows.witnessNilRow.pinnedBy)) = true := by kernel_rfl
theorem witnessNil_c30 : ((Rows.witnessNilRow.veiled == (Tryz.f6.params.toList ++ (OpenSpec.ofChange Rows.witnessNilSpec).bare.plain.varTypes Tryz.prog ++ Tryz.f6.resultTypes.toList).any (Tryz.prog.veiledRec ·))) = true := by kernel_rfl
theorem witnessNil_c31 : (Rows.witnessNilRow.veiledFits Tryz.prog Tryz.f6.params.toList (Tryz.f6.params.toList ++ (OpenSpec.ofChange Rows.witnessNilSpec).bare.plain.varTypes Tryz.prog ++ Tryz.f6.resultTypes.toList)) = true := by kernel_rfl
theorem witnessNil_closed : joinedFacts Tryz.prog 6 Tryz.f6 (OpenSpec.ofChange Rows.witnessNilSpec).bare Rows.witnessNilRow = true :=
 joined_mk witnessNil_c0 cl_laidOut cl_mapsRowed witnessNil_c3 witnessNil_c4 witnessNil_c5 cl_noStops witnessNil_c7 cl_noKnobs witnessNil_c9 witnessNil_c10 witnessNil_c11 witnessNil_c12 witnessNil_c13 witnessNil_c14 witnessNil_c15 witnessNil_c16 witnessNil_c17 witnessNil_c18 witnessNil_c19 witnessNil_c20 witnessNil_c21 witnessNil_c22 witnessNil_c23 cl_heard cl_enters witnessNil_c26 witnessNil_c27 witnessNil_c28 witnessNil_c29 witnessNil_c30 witnessNil_c31
theorem witnessNil_nm : Tryz.prog.funcNamed Rows.witnessNilRow.func = some 6 := by kernel_rfl
theorem witnessNil_inst : Tryz.f6.isInstance Tryz.prog Rows.witnessNilRow.origin Rows.witnessNilRow.targs := of_decide_eq_true (by kernel_rfl)
theorem witnessNil_wrap : Tryz.f6.isWrapper Tryz.prog Rows.witnessNilRow.wrapper Rows.witnessNilRow.mainSum := by
 unfold Func.isWrapper; first | (rw [if_pos (by decide +kernel)]; kernel_rfl) | (rw [if_neg (by decide +kernel)]; exact ⟨rfl, rfl⟩)
theorem witnessNil_said : Rows.WitnessNilSaid :=
 OpenClaim.holds_of_cond 6 Tryz.f6 rfl rfl rfl rfl rfl rfl rfl ⟨rfl, rfl, rfl, rfl, rfl⟩ rfl rfl rfl rfl rfl witnessNil_nm Tryz.func6 witnessNil_closed
  witnessNil_inst witnessNil_wrap
  (fun os started H enc _ F => by rw [OpenClaim.pre_eq_preRow]; exact witnessNil_lifted os started H enc F)
theorem witnessNil_plain (f : FuncId) (fn : Func) (hf : Tryz.pinned.checked.prog.funcNamed "chronicle/chroniclelaw23.WitnessNil" = some f) (hfn : Tryz.pinned.checked.prog.funcs[f]? = some fn) :
  true = Tryz.pinned.checked.prog.looks [] ∧ ∀ (j : Nat) t, fn.params[j]? = some t → Tryz.pinned.checked.prog.wantsStandIn t = false := by
 obtain rfl : f = 6 := Option.some.inj ((show Tryz.prog.funcNamed "chronicle/chroniclelaw23.WitnessNil" = some 6 by kernel_rfl).symm.trans hf) |>.symm
 obtain rfl : fn = Tryz.f6 := (Option.some.inj (Tryz.func6.symm.trans hfn)).symm
 refine ⟨cl_looks, fun j t ht => ?_⟩
 rw [Tryz.params6] at ht
 have hm := Array.mem_of_getElem? ht
 simp only [List.mem_toArray, List.mem_cons, List.not_mem_nil, or_false] at hm
 rcases hm with rfl | rfl | rfl
 ·exact (show Tryz.prog.wantsStandIn 9 = false by kernel_rfl)
 ·exact (show Tryz.prog.wantsStandIn 9 = false by kernel_rfl)
 ·exact (show Tryz.prog.wantsStandIn 66 = false by kernel_rfl)
theorem witnessNil_wft : Rows.witnessNilRow.wfByText (OpenSpec.ofChange Rows.witnessNilSpec) = true := by kernel_rfl
theorem witnessNil_main : Tryz.prog.mainIs = some (Rows.witnessNilCard.stood.harness.1, Rows.witnessNilCard.stood.harness.2.toList) := by kernel_rfl
theorem witnessNil_goes : false = Rows.witnessNilRow.goesBy Tryz.prog := by kernel_rfl
theorem witnessNil_card : Rows.WitnessNilCardSaid :=
 Claim7.holds_tied_plain_at .later [] _ _ _ _ witnessNil_said (fun _ h => by cases h) witnessNil_wft (fun _ h => by cases h) witnessNil_row_tie rfl ⟨rfl, rfl⟩ witnessNil_main rfl witnessNil_plain witnessNil_goes
end Go.Proofs.YtffdoihhjfjgoaaGreatDoor
