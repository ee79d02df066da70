import Derived.Test.YtdcganigfihkjaaGreatDoorM12
import Derived.Test.YtdcganigfihkjaaGreatDoorM8
import Derived.Test.YtdcganigfihkjaaGreatDoorM11
/- The layer p256. -/
namespace Go.Proofs.YtdcganigfihkjaaGreatDoor
open Go Go.Ab Go.RowKit Go.Chr
set_option maxRecDepth 100000
noncomputable def G8a : Tab := (81, lift [true, true] pAddS) :: (82, lift [true, true] pSubS) :: (80, lift [true, true] pMulS) :: (21, lift [] pBaseS) :: G7b
theorem G8a_ok : TabOk CX G8a := .cons (lift_ok pAdd_ok _) <| .cons (lift_ok pSub_ok _) <| .cons (lift_ok pMul_ok _) <| .cons (lift_ok pBase_ok _) G7b_ok
abbrev T3 := Nat × Nat × Nat
def cv3 (t : T3) : CV := .pr (.nat two256 t.1) (.pr (.nat two256 t.2.1) (.pr (.nat two256 t.2.2) .nl))
noncomputable def onF (x y : Nat) : Bool := (fbelow 0 x && fbelow 0 y) && Nat.beq (fmul 0 y y) (fadd 0 (fsub 0 (fmul 0 (fmul 0 x x) x) (fadd 0 x (fadd 0 x x))) cvB)
noncomputable def formedF (x y : Nat) (n : Bool) : Bool := bif n then Nat.beq x 0 && Nat.beq y 0 else onF x y
noncomputable def pFormedS : FSpec := fun xs bl => match xs, bl with
 | [.c (.pr (.nat mm1 x) (.pr (.nat mm2 y) (.pr (.bool n) .nl)))], [] => bif Nat.beq mm1 two256 && Nat.beq mm2 two256 then some (none, ⟨.c (.bool (formedF x y n)), [], []⟩) else none
 | _, _ => none
theorem pFormed_ok : FnOk CX 42 pFormedS := by
 refine fnOkF hmo G8a_ok (fn := Tryz.f42) (c := bodyOf' Tryz.f42) (by kernel_rfl) (by kernel_rfl) (by kernel_rfl) ?_
 intro xs bl p o hF hp
 unfold pFormedS at hF
 split at hF
 ·rename_i mm1 x mm2 y n
  obtain ⟨hg, hF⟩ := guard_some hF
  simp only [Bool.and_eq_true] at hg
  have hg0 := beqN hg.1
  have hg1 := beqN hg.2
  subst hg0; subst hg1
  injection hF with hF; injection hF with e1 e2; subst e1; subst e2
  refine ⟨Nat.le_of_ble_eq_true (by kernel_rfl), fun X hX hfa => ⟨[], 999, ?_⟩⟩
  refine kto (q := bif n then some (Out.mk (AV.c (CV.bool (x.beq 0 && (y.beq 0 && n == true)))) [] []) = some (Out.mk (AV.c (CV.bool (formedF x y n))) [] []) else kB 0 ∧ bif !fbelow 0 x then some (Out.mk (AV.c (CV.bool false)) [] []) = some (Out.mk (AV.c (CV.bool (formedF x y n))) [] []) else kB 0 ∧ bif !fbelow 0 y then some (Out.mk (AV.c (CV.bool false)) [] []) = some (Out.mk (AV.c (CV.bool (formedF x y n))) [] []) else some (Out.mk (AV.c (CV.bool ((fmul 0 y y).beq (fadd 0 (fsub 0 (fmul 0 (fmul 0 x x) x) (fadd 0 x (fadd 0 x x))) cvB)))) [] []) = some (Out.mk (AV.c (CV.bool (formedF x y n))) [] [])) (by kernel_rfl) ?_
  refine cond_intro (fun h => ?_) (fun h => ?_)
  ·subst h; simp [formedF]
  ·subst h
   refine ⟨kB0, cond_intro (fun h => ?_) (fun h => ⟨kB0, cond_intro (fun h2 => ?_) (fun h2 => ?_)⟩)⟩
   ·simp at h; simp [formedF, onF, h]
   ·simp at h2; simp [formedF, onF, h2]
   ·simp at h h2; simp [formedF, onF, h, h2]
 ·cases hF
noncomputable def G8b : Tab := (42, lift [true] pFormedS) :: G8a
theorem G8b_ok : TabOk CX G8b := .cons (lift_ok pFormed_ok _) G8a_ok
noncomputable def liftF (x y : Nat) (n : Bool) : T3 := bif n || !onF x y then (0, 1, 0) else (x, y, 1)
noncomputable def pLiftS : FSpec := fun xs bl => match xs, bl with
 | [.c (.pr (.nat mm1 x) (.pr (.nat mm2 y) (.pr (.bool n) .nl)))], [] => bif Nat.beq mm1 two256 && Nat.beq mm2 two256 then some (none, ⟨.c (cv3 (liftF x y n)), [], []⟩) else none
 | _, _ => none
theorem pLift_ok : FnOk CX 48 pLiftS := by
 refine fnOkF hmo G8b_ok (fn := Tryz.f48) (c := bodyOf' Tryz.f48) (by kernel_rfl) (by kernel_rfl) (by kernel_rfl) ?_
 intro xs bl p o hF hp
 unfold pLiftS at hF
 split at hF
 ·rename_i mm1 x mm2 y n
  obtain ⟨hg, hF⟩ := guard_some hF
  simp only [Bool.and_eq_true] at hg
  have hg0 := beqN hg.1
  have hg1 := beqN hg.2
  subst hg0; subst hg1
  injection hF with hF; injection hF with e1 e2; subst e1; subst e2
  refine ⟨Nat.le_of_ble_eq_true (by kernel_rfl), fun X hX hfa => ⟨[], 999, ?_⟩⟩
  refine kto (q := bif n then some (Out.mk (AV.c ((CV.nat two256 0).pr ((CV.nat two256 1).pr ((CV.nat two256 0).pr CV.nl)))) [] []) = some (Out.mk (AV.c (cv3 (liftF x y n))) [] []) else bif !formedF x y n then some (Out.mk (AV.c ((CV.nat two256 0).pr ((CV.nat two256 1).pr ((CV.nat two256 0).pr CV.nl)))) [] []) = some (Out.mk (AV.c (cv3 (liftF x y n))) [] []) else some (Out.mk (AV.c ((CV.nat two256 x).pr ((CV.nat two256 y).pr ((CV.nat two256 1).pr CV.nl)))) [] []) = some (Out.mk (AV.c (cv3 (liftF x y n))) [] [])) (by kernel_rfl) ?_
  refine cond_intro (fun h => ?_) (fun h => cond_intro (fun h2 => ?_) (fun h2 => ?_))
  ·subst h; simp [liftF, cv3]
  ·subst h; simp [formedF] at h2; simp [liftF, cv3, h2]
  ·subst h; simp [formedF] at h2; simp [liftF, cv3, h2]
 ·cases hF
abbrev PtN := Nat × Nat × Bool
def cvP (t : PtN) : CV := .pr (.nat two256 t.1) (.pr (.nat two256 t.2.1) (.pr (.bool t.2.2) .nl))
noncomputable def dropF (t : T3) : PtN := bif Nat.beq t.2.2 0 then (0, 0, true) else (fmul 0 t.1 (finv 0 t.2.2), fmul 0 t.2.1 (finv 0 t.2.2), false)
noncomputable def pDropS : FSpec := fun xs bl => match xs, bl with
 | [.c (.pr (.nat mm1 x) (.pr (.nat mm2 y) (.pr (.nat mm3 z) .nl)))], [] => bif Nat.beq mm1 two256 && Nat.beq mm2 two256 && Nat.beq mm3 two256 then some (none, ⟨.c (cvP (dropF (x, y, z))), [], []⟩) else none
 | _, _ => none
theorem pDrop_ok : FnOk CX 51 pDropS := by
 refine fnOkF hmo G8b_ok (fn := Tryz.f51) (c := bodyOf' Tryz.f51) (by kernel_rfl) (by kernel_rfl) (by kernel_rfl) ?_
 intro xs bl p o hF hp
 unfold pDropS at hF
 split at hF
 ·rename_i mm1 x mm2 y mm3 z
  obtain ⟨hg, hF⟩ := guard_some hF
  simp only [Bool.and_eq_true] at hg
  have hg0 := beqN hg.1.1
  have hg1 := beqN hg.1.2
  have hg2 := beqN hg.2
  subst hg0; subst hg1; subst hg2
  injection hF with hF; injection hF with e1 e2; subst e1; subst e2
  refine ⟨Nat.le_of_ble_eq_true (by kernel_rfl), fun X hX hfa => ⟨[], 999, ?_⟩⟩
  refine kto (q := bif z.beq 0 then some (Out.mk (AV.c ((CV.nat two256 0).pr ((CV.nat two256 0).pr ((CV.bool true).pr CV.nl)))) [] []) = some (Out.mk (AV.c (cvP (dropF (x, y, z)))) [] []) else kB 0 ∧ some (Out.mk (AV.c ((CV.nat two256 (fmul 0 x (finv 0 z))).pr ((CV.nat two256 (fmul 0 y (finv 0 z))).pr ((CV.bool false).pr CV.nl)))) [] []) = some (Out.mk (AV.c (cvP (dropF (x, y, z)))) [] [])) (by kernel_rfl) ?_
  refine cond_intro (fun h => ?_) (fun h => ⟨kB0, ?_⟩)
  ·simp [dropF, h, cvP]
  ·simp [dropF, h, cvP]
 ·cases hF
noncomputable def plsF (p q : T3) : T3 :=
 let mul := fmul 0
 let add := fadd 0
 let sub := fsub 0
 let t0 := mul p.1 q.1
 let t1 := mul p.2.1 q.2.1
 let t2 := mul p.2.2 q.2.2
 let t3 := sub (mul (add p.1 p.2.1) (add q.1 q.2.1)) (add t0 t1)
 let t4 := sub (mul (add p.2.1 p.2.2) (add q.2.1 q.2.2)) (add t1 t2)
 let y := sub (mul (add p.1 p.2.2) (add q.1 q.2.2)) (add t0 t2)
 let x := sub y (mul cvB t2)
 let x := add x (add x x)
 let z := sub t1 x
 let x := add t1 x
 let t2 := add t2 (add t2 t2)
 let y := sub (sub (mul cvB y) t2) t0
 let y := add y (add y y)
 let t0 := sub (add t0 (add t0 t0)) t2
 (sub (mul t3 x) (mul t4 y), add (mul x z) (mul t0 y), add (mul t4 z) (mul t3 t0))
noncomputable def pPlusS : FSpec := fun xs bl => match xs, bl with
 | [.c (.pr (.nat mm1 x) (.pr (.nat mm2 y) (.pr (.nat mm3 z) .nl))), .c (.pr (.nat mm4 u) (.pr (.nat mm5 v) (.pr (.nat mm6 w) .nl)))], [] => bif Nat.beq mm1 two256 && Nat.beq mm2 two256 && Nat.beq mm3 two256 && Nat.beq mm4 two256 && Nat.beq mm5 two256 && Nat.beq mm6 two256 then some (none, ⟨.c (cv3 (plsF (x, y, z) (u, v, w))), [], []⟩) else none
 | _, _ => none
theorem pPlus_ok : FnOk CX 49 pPlusS := by
 refine fnOkF hmo G8b_ok (fn := Tryz.f49) (c := bodyOf' Tryz.f49) (by kernel_rfl) (by kernel_rfl) (by kernel_rfl) ?_
 intro xs bl p o hF hp
 unfold pPlusS at hF
 split at hF
 ·rename_i mm1 x mm2 y mm3 z mm4 u mm5 v mm6 w
  obtain ⟨hg, hF⟩ := guard_some hF
  simp only [Bool.and_eq_true] at hg
  have hg0 := beqN hg.1.1.1.1.1
  have hg1 := beqN hg.1.1.1.1.2
  have hg2 := beqN hg.1.1.1.2
  have hg3 := beqN hg.1.1.2
  have hg4 := beqN hg.1.2
  have hg5 := beqN hg.2
  subst hg0; subst hg1; subst hg2; subst hg3; subst hg4; subst hg5
  injection hF with hF; injection hF with e1 e2; subst e1; subst e2
  refine ⟨Nat.le_of_ble_eq_true (by kernel_rfl), fun X hX hfa => ⟨[], 999, ?_⟩⟩
  exact kto (q := some (Out.mk (.c (cv3 (plsF (x, y, z) (u, v, w)))) [] []) = some (Out.mk (.c (cv3 (plsF (x, y, z) (u, v, w)))) [] [])) (by kernel_rfl) rfl
 ·cases hF
noncomputable def G8c : Tab := (48, lift [true] pLiftS) :: (51, lift [true] pDropS) :: (49, lift [true, true] pPlusS) :: G8b
theorem G8c_ok : TabOk CX G8c := .cons (lift_ok pLift_ok _) <| .cons (lift_ok pDrop_ok _) <| .cons (lift_ok pPlus_ok _) G8b_ok
noncomputable def pickF (P Q : T3) (k : Int) : T3 := bif k == 3 then plsF P Q else bif k == 2 then Q else P
noncomputable def stepF (u v : Nat) (P Q : T3) (i : Nat) (o : T3) : T3 :=
 bif decide (bitI u i + 2 * bitI v i > 0) then plsF (plsF o o) (pickF P Q (bitI u i + 2 * bitI v i)) else plsF o o
noncomputable def bothF (u v : Nat) (P Q : T3) : Nat → T3
 | 0 => (0, 1, 0)
 | n + 1 => stepF u v P Q (255 - n) (bothF u v P Q n)
def ptB (t : PtN) : Blk' := .cells 35 9 (.els [.c (cvP t)])
def triB (t : T3) : Blk' := .cells 75 12 (.els [.c (cv3 t)])
def natB (x : Nat) : Blk' := .cells 27 4 (.els [.c (.nat two256 x)])
noncomputable def tabB (P Q : T3) : Blk' := .cells 78 48 (.els [.c (.pr (cv3 (0, 1, 0)) (.pr (cv3 P) (.pr (cv3 Q) (.pr (cv3 (plsF P Q)) .nl))))])
noncomputable def boI (u v : Nat) (P Q o : T3) (k : Nat) : St :=
 ⟨[(4, .ptr (.l 0) 0 4 0), (6, .ptr (.l 1) 0 4 0), (8, .ptr (.l 2) 0 9 0), (11, .ptr (.l 3) 0 48 0), (12, .ptr (.l 4) 0 12 0), (13, .c (.int .i64 ((255 : Int) - (k : Nat))))], [(0, natB u), (1, natB v), (2, ptB (0, 0, false)), (3, tabB P Q), (4, triB o)], 5, 53⟩
def boF (o : T3) : St := ⟨[(8, .ptr (.l 0) 0 9 0), (12, .ptr (.l 1) 0 12 0)], [(0, ptB (0, 0, false)), (1, triB o)], 2, 53⟩
theorem bit01 (x : Nat) (i : Int) : bitI x i = 0 ∨ bitI x i = 1 := by rw [bitI_eq]; omega
theorem both_l0 {X : Snap} (hX : ∀ b L, X.ι b = some L → b < 0) (u v : Nat) (P Q : T3) : LOk CX X 0 (loopAt 0 Tryz.f18) (loopW 0 [] [4, 6, 8, 11, 12, 13] (boI u v P Q (0, 1, 0) 0) True false (boF (bothF u v P Q 256))) := by
 refine loopW_ok hmo G8c_ok (by kernel_rfl) hX [8, 12] [] (fun k => boI u v P Q (bothF u v P Q k) k) (fun k => k ≤ 256) (fun k => 256 - k) 0 (fun _ => rfl) (fun _ => by omega) ?_
 intro hp k hk hfa
 refine ⟨[], 999, ?_⟩
 refine kto (q := bif decide (255 - (Nat.cast (R := Int) k) ≥ 0) then (0 ≤ 255 - (Nat.cast (R := Int) k) ∧ 255 - (Nat.cast (R := Int) k) ≤ 255) ∧ (0 ≤ 255 - (Nat.cast (R := Int) k) ∧ 255 - (Nat.cast (R := Int) k) ≤ 255) ∧ bif decide (IntKind.i64.wrap (bitI u (255 - (Nat.cast (R := Int) k)) + IntKind.i64.wrap (2 * bitI v (255 - (Nat.cast (R := Int) k)))) > 0) then bif IntKind.i64.wrap (bitI u (255 - (Nat.cast (R := Int) k)) + IntKind.i64.wrap (2 * bitI v (255 - (Nat.cast (R := Int) k)))) == 3 then ∃ (v' : Nat), some (St.mk [(4, AV.ptr (Base.l 0) 0 4 0), (6, AV.ptr (Base.l 1) 0 4 0), (8, AV.ptr (Base.l 2) 0 9 0), (11, AV.ptr (Base.l 3) 0 48 0), (12, AV.ptr (Base.l 4) 0 12 0), (13, AV.c (CV.int IntKind.i64 (IntKind.i64.wrap (255 - (Nat.cast (R := Int) k) - 1))))] [(0, Blk'.cells 27 4 (Body.els [AV.c (CV.nat two256 u)])), (1, Blk'.cells 27 4 (Body.els [AV.c (CV.nat two256 v)])), (2, Blk'.cells 35 9 (Body.els [AV.c ((CV.nat two256 0).pr ((CV.nat two256 0).pr ((CV.bool false).pr CV.nl)))])), (3, Blk'.cells 78 48 (Body.els [AV.c (((CV.nat two256 0).pr ((CV.nat two256 1).pr ((CV.nat two256 0).pr CV.nl))).pr (((CV.nat two256 P.fst).pr ((CV.nat two256 P.snd.fst).pr ((CV.nat two256 P.snd.snd).pr CV.nl))).pr (((CV.nat two256 Q.fst).pr ((CV.nat two256 Q.snd.fst).pr ((CV.nat two256 Q.snd.snd).pr CV.nl))).pr (((CV.nat two256 (plsF P Q).fst).pr ((CV.nat two256 (plsF P Q).snd.fst).pr ((CV.nat two256 (plsF P Q).snd.snd).pr CV.nl))).pr CV.nl))))])), (4, Blk'.cells 75 12 (Body.els [AV.c ((CV.nat two256 (plsF (plsF (bothF u v P Q k) (bothF u v P Q k)) (plsF P Q)).fst).pr ((CV.nat two256 (plsF (plsF (bothF u v P Q k) (bothF u v P Q k)) (plsF P Q)).snd.fst).pr ((CV.nat two256 (plsF (plsF (bothF u v P Q k) (bothF u v P Q k)) (plsF P Q)).snd.snd).pr CV.nl)))]))] 5 53) = some (boI u v P Q (bothF u v P Q v') v') ∧ 256 - v' < 256 - k ∧ v' ≤ 256 else bif IntKind.i64.wrap (bitI u (255 - (Nat.cast (R := Int) k)) + IntKind.i64.wrap (2 * bitI v (255 - (Nat.cast (R := Int) k)))) == 2 then ∃ (v' : Nat), some (St.mk [(4, AV.ptr (Base.l 0) 0 4 0), (6, AV.ptr (Base.l 1) 0 4 0), (8, AV.ptr (Base.l 2) 0 9 0), (11, AV.ptr (Base.l 3) 0 48 0), (12, AV.ptr (Base.l 4) 0 12 0), (13, AV.c (CV.int IntKind.i64 (IntKind.i64.wrap (255 - (Nat.cast (R := Int) k) - 1))))] [(0, Blk'.cells 27 4 (Body.els [AV.c (CV.nat two256 u)])), (1, Blk'.cells 27 4 (Body.els [AV.c (CV.nat two256 v)])), (2, Blk'.cells 35 9 (Body.els [AV.c ((CV.nat two256 0).pr ((CV.nat two256 0).pr ((CV.bool false).pr CV.nl)))])), (3, Blk'.cells 78 48 (Body.els [AV.c (((CV.nat two256 0).pr ((CV.nat two256 1).pr ((CV.nat two256 0).pr CV.nl))).pr (((CV.nat two256 P.fst).pr ((CV.nat two256 P.snd.fst).pr ((CV.nat two256 P.snd.snd).pr CV.nl))).pr (((CV.nat two256 Q.fst).pr ((CV.nat two256 Q.snd.fst).pr ((CV.nat two256 Q.snd.snd).pr CV.nl))).pr (((CV.nat two256 (plsF P Q).fst).pr ((CV.nat two256 (plsF P Q).snd.fst).pr ((CV.nat two256 (plsF P Q).snd.snd).pr CV.nl))).pr CV.nl))))])), (4, Blk'.cells 75 12 (Body.els [AV.c ((CV.nat two256 (plsF (plsF (bothF u v P Q k) (bothF u v P Q k)) Q).fst).pr ((CV.nat two256 (plsF (plsF (bothF u v P Q k) (bothF u v P Q k)) Q).snd.fst).pr ((CV.nat two256 (plsF (plsF (bothF u v P Q k) (bothF u v P Q k)) Q).snd.snd).pr CV.nl)))]))] 5 53) = some (boI u v P Q (bothF u v P Q v') v') ∧ 256 - v' < 256 - k ∧ v' ≤ 256 else bif IntKind.i64.wrap (bitI u (255 - (Nat.cast (R := Int) k)) + IntKind.i64.wrap (2 * bitI v (255 - (Nat.cast (R := Int) k)))) == 1 then ∃ (v' : Nat), some (St.mk [(4, AV.ptr (Base.l 0) 0 4 0), (6, AV.ptr (Base.l 1) 0 4 0), (8, AV.ptr (Base.l 2) 0 9 0), (11, AV.ptr (Base.l 3) 0 48 0), (12, AV.ptr (Base.l 4) 0 12 0), (13, AV.c (CV.int IntKind.i64 (IntKind.i64.wrap (255 - (Nat.cast (R := Int) k) - 1))))] [(0, Blk'.cells 27 4 (Body.els [AV.c (CV.nat two256 u)])), (1, Blk'.cells 27 4 (Body.els [AV.c (CV.nat two256 v)])), (2, Blk'.cells 35 9 (Body.els [AV.c ((CV.nat two256 0).pr ((CV.nat two256 0).pr ((CV.bool false).pr CV.nl)))])), (3, Blk'.cells 78 48 (Body.els [AV.c (((CV.nat two256 0).pr ((CV.nat two256 1).pr ((CV.nat two256 0).pr CV.nl))).pr (((CV.nat two256 P.fst).pr ((CV.nat two256 P.snd.fst).pr ((CV.nat two256 P.snd.snd).pr CV.nl))).pr (((CV.nat two256 Q.fst).pr ((CV.nat two256 Q.snd.fst).pr ((CV.nat two256 Q.snd.snd).pr CV.nl))).pr (((CV.nat two256 (plsF P Q).fst).pr ((CV.nat two256 (plsF P Q).snd.fst).pr ((CV.nat two256 (plsF P Q).snd.snd).pr CV.nl))).pr CV.nl))))])), (4, Blk'.cells 75 12 (Body.els [AV.c ((CV.nat two256 (plsF (plsF (bothF u v P Q k) (bothF u v P Q k)) P).fst).pr ((CV.nat two256 (plsF (plsF (bothF u v P Q k) (bothF u v P Q k)) P).snd.fst).pr ((CV.nat two256 (plsF (plsF (bothF u v P Q k) (bothF u v P Q k)) P).snd.snd).pr CV.nl)))]))] 5 53) = some (boI u v P Q (bothF u v P Q v') v') ∧ 256 - v' < 256 - k ∧ v' ≤ 256 else bif IntKind.i64.wrap (bitI u (255 - (Nat.cast (R := Int) k)) + IntKind.i64.wrap (2 * bitI v (255 - (Nat.cast (R := Int) k)))) == 0 then ∃ (v' : Nat), some (St.mk [(4, AV.ptr (Base.l 0) 0 4 0), (6, AV.ptr (Base.l 1) 0 4 0), (8, AV.ptr (Base.l 2) 0 9 0), (11, AV.ptr (Base.l 3) 0 48 0), (12, AV.ptr (Base.l 4) 0 12 0), (13, AV.c (CV.int IntKind.i64 (IntKind.i64.wrap (255 - (Nat.cast (R := Int) k) - 1))))] [(0, Blk'.cells 27 4 (Body.els [AV.c (CV.nat two256 u)])), (1, Blk'.cells 27 4 (Body.els [AV.c (CV.nat two256 v)])), (2, Blk'.cells 35 9 (Body.els [AV.c ((CV.nat two256 0).pr ((CV.nat two256 0).pr ((CV.bool false).pr CV.nl)))])), (3, Blk'.cells 78 48 (Body.els [AV.c (((CV.nat two256 0).pr ((CV.nat two256 1).pr ((CV.nat two256 0).pr CV.nl))).pr (((CV.nat two256 P.fst).pr ((CV.nat two256 P.snd.fst).pr ((CV.nat two256 P.snd.snd).pr CV.nl))).pr (((CV.nat two256 Q.fst).pr ((CV.nat two256 Q.snd.fst).pr ((CV.nat two256 Q.snd.snd).pr CV.nl))).pr (((CV.nat two256 (plsF P Q).fst).pr ((CV.nat two256 (plsF P Q).snd.fst).pr ((CV.nat two256 (plsF P Q).snd.snd).pr CV.nl))).pr CV.nl))))])), (4, Blk'.cells 75 12 (Body.els [AV.c ((CV.nat two256 (plsF (plsF (bothF u v P Q k) (bothF u v P Q k)) (0, 1, 0)).fst).pr ((CV.nat two256 (plsF (plsF (bothF u v P Q k) (bothF u v P Q k)) (0, 1, 0)).snd.fst).pr ((CV.nat two256 (plsF (plsF (bothF u v P Q k) (bothF u v P Q k)) (0, 1, 0)).snd.snd).pr CV.nl)))]))] 5 53) = some (boI u v P Q (bothF u v P Q v') v') ∧ 256 - v' < 256 - k ∧ v' ≤ 256 else False else ∃ (v' : Nat), some (St.mk [(4, AV.ptr (Base.l 0) 0 4 0), (6, AV.ptr (Base.l 1) 0 4 0), (8, AV.ptr (Base.l 2) 0 9 0), (11, AV.ptr (Base.l 3) 0 48 0), (12, AV.ptr (Base.l 4) 0 12 0), (13, AV.c (CV.int IntKind.i64 (IntKind.i64.wrap (255 - (Nat.cast (R := Int) k) - 1))))] [(0, Blk'.cells 27 4 (Body.els [AV.c (CV.nat two256 u)])), (1, Blk'.cells 27 4 (Body.els [AV.c (CV.nat two256 v)])), (2, Blk'.cells 35 9 (Body.els [AV.c ((CV.nat two256 0).pr ((CV.nat two256 0).pr ((CV.bool false).pr CV.nl)))])), (3, Blk'.cells 78 48 (Body.els [AV.c (((CV.nat two256 0).pr ((CV.nat two256 1).pr ((CV.nat two256 0).pr CV.nl))).pr (((CV.nat two256 P.fst).pr ((CV.nat two256 P.snd.fst).pr ((CV.nat two256 P.snd.snd).pr CV.nl))).pr (((CV.nat two256 Q.fst).pr ((CV.nat two256 Q.snd.fst).pr ((CV.nat two256 Q.snd.snd).pr CV.nl))).pr (((CV.nat two256 (plsF P Q).fst).pr ((CV.nat two256 (plsF P Q).snd.fst).pr ((CV.nat two256 (plsF P Q).snd.snd).pr CV.nl))).pr CV.nl))))])), (4, Blk'.cells 75 12 (Body.els [AV.c ((CV.nat two256 (plsF (bothF u v P Q k) (bothF u v P Q k)).fst).pr ((CV.nat two256 (plsF (bothF u v P Q k) (bothF u v P Q k)).snd.fst).pr ((CV.nat two256 (plsF (bothF u v P Q k) (bothF u v P Q k)).snd.snd).pr CV.nl)))]))] 5 53) = some (boI u v P Q (bothF u v P Q v') v') ∧ 256 - v' < 256 - k ∧ v' ≤ 256 else false = false ∧ some (St.mk [(8, AV.ptr (Base.l 0) 0 9 0), (12, AV.ptr (Base.l 1) 0 12 0)] [(0, Blk'.cells 35 9 (Body.els [AV.c ((CV.nat two256 0).pr ((CV.nat two256 0).pr ((CV.bool false).pr CV.nl)))])), (1, Blk'.cells 75 12 (Body.els [AV.c ((CV.nat two256 (bothF u v P Q k).fst).pr ((CV.nat two256 (bothF u v P Q k).snd.fst).pr ((CV.nat two256 (bothF u v P Q k).snd.snd).pr CV.nl)))]))] 2 53) = some (boF (bothF u v P Q 256))) (by kernel_rfl) ?_
 obtain ⟨o, ho⟩ : ∃ o, o = bothF u v P Q k := ⟨_, rfl⟩
 have hn : bothF u v P Q (k + 1) = stepF u v P Q (255 - k) (bothF u v P Q k) := rfl
 rw [← ho] at hn ⊢
 have e13 : (255 : Int) - (k : Int) - 1 = 255 - ((k + 1 : Nat) : Int) := by omega
 have hk : k ≤ 256 := hk
 refine cond_intro (fun h => ?_) (fun h => ?_)
 ·simp at h
  refine ⟨⟨by omega, by omega⟩, ⟨by omega, by omega⟩, ?_⟩
  have ei : ((255 - k : Nat) : Int) = 255 - (k : Int) := by omega
  unfold stepF at hn
  rw [ei] at hn
  have hu := bit01 u (255 - (k : Int))
  have hv := bit01 v (255 - (k : Int))
  simp (disch := omega) only [wi]
  rw [e13]
  have hk4 : bitI u (255 - (k : Int)) + 2 * bitI v (255 - (k : Int)) = 0 ∨ bitI u (255 - (k : Int)) + 2 * bitI v (255 - (k : Int)) = 1 ∨ bitI u (255 - (k : Int)) + 2 * bitI v (255 - (k : Int)) = 2 ∨ bitI u (255 - (k : Int)) + 2 * bitI v (255 - (k : Int)) = 3 := by omega
  generalize bitI u (255 - (k : Int)) + 2 * bitI v (255 - (k : Int)) = kk at hn hk4 ⊢
  have hm : 256 - (k + 1) < 256 - k ∧ k + 1 ≤ 256 := by omega
  rcases hk4 with rfl | rfl | rfl | rfl
  ·exact cond_no rfl ⟨k + 1, by rw [hn]; rfl, hm⟩
  ·exact cond_at rfl <| cond_no rfl <| cond_no rfl <| cond_at rfl ⟨k + 1, by rw [hn]; rfl, hm⟩
  ·exact cond_at rfl <| cond_no rfl <| cond_at rfl ⟨k + 1, by rw [hn]; rfl, hm⟩
  ·exact cond_at rfl <| cond_at rfl ⟨k + 1, by rw [hn]; rfl, hm⟩
 ·simp at h
  have e : k = 256 := by omega
  subst e
  rw [ho]
  exact ⟨by simp, by kernel_rfl⟩
noncomputable def pBothS : FSpec := fun xs bl => match xs, bl with
 | [.c (.nat mm1 u), .c (.pr (.nat mm2 x1) (.pr (.nat mm3 y1) (.pr (.bool n1) .nl))), .c (.nat mm4 v), .c (.pr (.nat mm5 x2) (.pr (.nat mm6 y2) (.pr (.bool n2) .nl)))], [] => bif Nat.beq mm1 two256 && Nat.beq mm2 two256 && Nat.beq mm3 two256 && Nat.beq mm4 two256 && Nat.beq mm5 two256 && Nat.beq mm6 two256 then some (none, ⟨.c (cvP (dropF (bothF u v (liftF x1 y1 n1) (liftF x2 y2 n2) 256))), [], []⟩) else none
 | _, _ => none
theorem pBoth_ok : FnOk CX 18 pBothS := by
 refine fnOkF hmo G8c_ok (fn := Tryz.f18) (c := bodyOf' Tryz.f18) (by kernel_rfl) (by kernel_rfl) (by kernel_rfl) ?_
 intro xs bl p o hF hp
 unfold pBothS at hF
 split at hF
 ·rename_i mm1 u mm2 x1 mm3 y1 n1 mm4 v mm5 x2 mm6 y2 n2
  obtain ⟨hg, hF⟩ := guard_some hF
  simp only [Bool.and_eq_true] at hg
  have hg0 := beqN hg.1.1.1.1.1
  have hg1 := beqN hg.1.1.1.1.2
  have hg2 := beqN hg.1.1.1.2
  have hg3 := beqN hg.1.1.2
  have hg4 := beqN hg.1.2
  have hg5 := beqN hg.2
  subst hg0; subst hg1; subst hg2; subst hg3; subst hg4; subst hg5
  injection hF with hF; injection hF with e1 e2; subst e1; subst e2
  refine ⟨Nat.le_of_ble_eq_true (by kernel_rfl), fun X hX hfa => ⟨[(0, loopW 0 [] [4, 6, 8, 11, 12, 13] (boI u v (liftF x1 y1 n1) (liftF x2 y2 n2) (0, 1, 0) 0) True false (boF (bothF u v (liftF x1 y1 n1) (liftF x2 y2 n2) 256)))], 999, ?_⟩⟩
  refine kto (q := LOk CX X 0 (loopAt 0 Tryz.f18) (loopW 0 [] [4, 6, 8, 11, 12, 13] (boI u v (liftF x1 y1 n1) (liftF x2 y2 n2) (0, 1, 0) 0) True false (boF (bothF u v (liftF x1 y1 n1) (liftF x2 y2 n2) 256))) ∧ some (St.mk [(4, AV.ptr (Base.l 0) 0 4 0), (6, AV.ptr (Base.l 1) 0 4 0), (8, AV.ptr (Base.l 2) 0 9 0), (11, AV.ptr (Base.l 3) 0 48 0), (12, AV.ptr (Base.l 4) 0 12 0), (13, AV.c (CV.int IntKind.i64 255))] [(0, Blk'.cells 27 4 (Body.els [AV.c (CV.nat two256 u)])), (1, Blk'.cells 27 4 (Body.els [AV.c (CV.nat two256 v)])), (2, Blk'.cells 35 9 (Body.els [AV.c ((CV.nat two256 0).pr ((CV.nat two256 0).pr ((CV.bool false).pr CV.nl)))])), (3, Blk'.cells 78 48 (Body.els [AV.c (((CV.nat two256 0).pr ((CV.nat two256 1).pr ((CV.nat two256 0).pr CV.nl))).pr (((CV.nat two256 (liftF x1 y1 n1).fst).pr ((CV.nat two256 (liftF x1 y1 n1).snd.fst).pr ((CV.nat two256 (liftF x1 y1 n1).snd.snd).pr CV.nl))).pr (((CV.nat two256 (liftF x2 y2 n2).fst).pr ((CV.nat two256 (liftF x2 y2 n2).snd.fst).pr ((CV.nat two256 (liftF x2 y2 n2).snd.snd).pr CV.nl))).pr (((CV.nat two256 (plsF (liftF x1 y1 n1) (liftF x2 y2 n2)).fst).pr ((CV.nat two256 (plsF (liftF x1 y1 n1) (liftF x2 y2 n2)).snd.fst).pr ((CV.nat two256 (plsF (liftF x1 y1 n1) (liftF x2 y2 n2)).snd.snd).pr CV.nl))).pr CV.nl))))])), (4, Blk'.cells 75 12 (Body.els [AV.c ((CV.nat two256 0).pr ((CV.nat two256 1).pr ((CV.nat two256 0).pr CV.nl)))]))] 5 53) = some (boI u v (liftF x1 y1 n1) (liftF x2 y2 n2) (0, 1, 0) 0) ∧ True ∧ some (Out.mk (AV.c ((CV.nat two256 (dropF (bothF u v (liftF x1 y1 n1) (liftF x2 y2 n2) 256)).fst).pr ((CV.nat two256 (dropF (bothF u v (liftF x1 y1 n1) (liftF x2 y2 n2) 256)).snd.fst).pr ((CV.bool (dropF (bothF u v (liftF x1 y1 n1) (liftF x2 y2 n2) 256)).snd.snd).pr CV.nl)))) [] []) = some (Out.mk (AV.c (cvP (dropF (bothF u v (liftF x1 y1 n1) (liftF x2 y2 n2) 256)))) [] [])) (by kernel_rfl) ?_
  exact ⟨both_l0 hX u v _ _, by kernel_rfl, trivial, by kernel_rfl⟩
 ·cases hF
noncomputable def G8 : Tab := (18, lift [true, true, true, true] pBothS) :: G8c
theorem G8_ok : TabOk CX G8 := .cons (lift_ok pBoth_ok _) G8c_ok
noncomputable def bothP (u : Nat) (p : PtN) (v : Nat) (q : PtN) : PtN := dropF (bothF u v (liftF p.1 p.2.1 p.2.2) (liftF q.1 q.2.1 q.2.2) 256)
noncomputable def pMulPS : FSpec := fun xs bl => match xs, bl with
 | [.c (.nat mm1 u), .c (.pr (.nat mm2 x) (.pr (.nat mm3 y) (.pr (.bool n) .nl)))], [] => bif Nat.beq mm1 two256 && Nat.beq mm2 two256 && Nat.beq mm3 two256 then some (none, ⟨.c (cvP (bothP u (x, y, n) 0 (x, y, n))), [], []⟩) else none
 | _, _ => none
theorem pMulP_ok : FnOk CX 27 pMulPS := by
 refine fnOkF hmo G8_ok (fn := Tryz.f27) (c := bodyOf' Tryz.f27) (by kernel_rfl) (by kernel_rfl) (by kernel_rfl) ?_
 intro xs bl p o hF hp
 unfold pMulPS at hF
 split at hF
 ·rename_i mm1 u mm2 x mm3 y n
  obtain ⟨hg, hF⟩ := guard_some hF
  simp only [Bool.and_eq_true] at hg
  have hg0 := beqN hg.1.1
  have hg1 := beqN hg.1.2
  have hg2 := beqN hg.2
  subst hg0; subst hg1; subst hg2
  injection hF with hF; injection hF with e1 e2; subst e1; subst e2
  refine ⟨Nat.le_of_ble_eq_true (by kernel_rfl), fun X hX hfa => ⟨[], 999, ?_⟩⟩
  refine kto (q := some (Out.mk (AV.c ((CV.nat two256 (dropF (bothF u 0 (liftF x y n) (liftF x y n) 256)).fst).pr ((CV.nat two256 (dropF (bothF u 0 (liftF x y n) (liftF x y n) 256)).snd.fst).pr ((CV.bool (dropF (bothF u 0 (liftF x y n) (liftF x y n) 256)).snd.snd).pr CV.nl)))) [] []) = some (Out.mk (AV.c (cvP (bothP u (x, y, n) 0 (x, y, n)))) [] [])) (by kernel_rfl) ?_
  rfl
 ·cases hF
def encP (p : PtN) : List Int := 4 :: (beL p.1 ++ beL p.2.1)
noncomputable def encF (p : PtN) : List Int := bif p.2.2 || !onF p.1 p.2.1 then [0] else encP p
noncomputable def pEncodeS : FSpec := fun xs bl => match xs, bl with
 | [.c (.pr (.nat mm1 x) (.pr (.nat mm2 y) (.pr (.bool n) .nl)))], [] => bif Nat.beq mm1 two256 && Nat.beq mm2 two256 then some (none, ⟨.own 0 1 (encF (x, y, n)).length, [], [byB (encF (x, y, n))]⟩) else none
 | _, _ => none
theorem pEncode_ok : FnOk CX 34 pEncodeS := by
 refine fnOkF hmo G8_ok (fn := Tryz.f34) (c := bodyOf' Tryz.f34) (by kernel_rfl) (by kernel_rfl) (by kernel_rfl) ?_
 intro xs bl p o hF hp
 unfold pEncodeS at hF
 split at hF
 ·rename_i mm1 x mm2 y n
  obtain ⟨hg, hF⟩ := guard_some hF
  simp only [Bool.and_eq_true] at hg
  have hg0 := beqN hg.1
  have hg1 := beqN hg.2
  subst hg0; subst hg1
  injection hF with hF; injection hF with e1 e2; subst e1; subst e2
  refine ⟨Nat.le_of_ble_eq_true (by kernel_rfl), fun X hX hfa => ⟨[], 999, ?_⟩⟩
  refine kto (q := bif n then some (Out.mk (AV.own 0 1 1) [] [Blk'.cells 5 1 (Body.ints IntKind.u8 [0])]) = some (Out.mk (AV.own 0 1 (encF (x, y, n)).length) [] [byB (encF (x, y, n))]) else bif !formedF x y n then some (Out.mk (AV.own 0 1 1) [] [Blk'.cells 5 1 (Body.ints IntKind.u8 [0])]) = some (Out.mk (AV.own 0 1 (encF (x, y, n)).length) [] [byB (encF (x, y, n))]) else (65 ≤ 1000000000 ∧ 3 ≤ 1000000000) ∧ some (Out.mk (AV.own 0 1 65) [] [Blk'.cells 5 1 (Body.ints IntKind.u8 [[4], beL x, beL y].flatten)]) = some (Out.mk (AV.own 0 1 (encF (x, y, n)).length) [] [byB (encF (x, y, n))])) (by kernel_rfl) ?_
  have e3 : ∀ a b c : List Int, [a, b, c].flatten = a ++ (b ++ c) := fun a b c => by simp
  rw [e3]
  refine cond_intro (fun h => ?_) (fun h => cond_intro (fun h2 => ?_) (fun h2 => ⟨⟨by omega, by omega⟩, ?_⟩))
  ·subst h; simp [encF, byB]
  ·subst h; simp [formedF] at h2; simp [encF, byB, h2]
  ·subst h; simp [formedF] at h2
   have e : encF (x, y, false) = encP (x, y, false) := by simp [encF, h2]
   have el : (encP (x, y, false)).length = 65 := by simp [encP, beL_len]
   rw [e, el]; rfl
 ·cases hF
noncomputable def decF (l : List Int) : PtN × Bool :=
 bif l.length == 1 && l.getD 0 0 == 0 then ((0, 0, true), true)
 else bif (l.length == 65 && l.getD 0 0 == 4) && onF (beW ((l.drop 1).take 32)) (beW (l.drop 33)) then ((beW ((l.drop 1).take 32), beW (l.drop 33), false), true) else ((0, 0, true), false)
noncomputable def pDecodeS : FSpec := fun xs bl => match xs, bl with
 | [.c (.ints .u8 l)], [] => some (none, ⟨.t2 (.c (cvP (decF l).1)) (.c (.bool (decF l).2)), [], []⟩)
 | _, _ => none
theorem pDecode_ok : FnOk CX 15 pDecodeS := by
 refine fnOkF hmo G8_ok (fn := Tryz.f15) (c := bodyOf' Tryz.f15) (by kernel_rfl) (by kernel_rfl) (by kernel_rfl) ?_
 intro xs bl p o hF hp
 unfold pDecodeS at hF
 split at hF
 ·rename_i l
  injection hF with hF; injection hF with e1 e2; subst e1; subst e2
  refine ⟨Nat.le_of_ble_eq_true (by kernel_rfl), fun X hX hfa => ⟨[], 999, ?_⟩⟩
  refine kto (q := bif (Nat.cast (R := Int) l.length) == 1 then bif decide (0 < (Nat.cast (R := Int) l.length)) then bif l.getD 0 0 == 0 then some (Out.mk ((AV.c ((CV.nat two256 0).pr ((CV.nat two256 0).pr ((CV.bool true).pr CV.nl)))).t2 (AV.c (CV.bool true))) [] []) = some (Out.mk ((AV.c (cvP (decF l).fst)).t2 (AV.c (CV.bool (decF l).snd))) [] []) else bif (Nat.cast (R := Int) l.length) != 65 then some (Out.mk ((AV.c ((CV.nat two256 0).pr ((CV.nat two256 0).pr ((CV.bool true).pr CV.nl)))).t2 (AV.c (CV.bool false))) [] []) = some (Out.mk ((AV.c (cvP (decF l).fst)).t2 (AV.c (CV.bool (decF l).snd))) [] []) else bif decide (0 < (Nat.cast (R := Int) l.length)) then bif l.getD 0 0 != 4 then some (Out.mk ((AV.c ((CV.nat two256 0).pr ((CV.nat two256 0).pr ((CV.bool true).pr CV.nl)))).t2 (AV.c (CV.bool false))) [] []) = some (Out.mk ((AV.c (cvP (decF l).fst)).t2 (AV.c (CV.bool (decF l).snd))) [] []) else bif bndB l.length (some 1) (some 33) then (List.take 32 (List.drop 1 l)).length = 32 ∧ bif bndB l.length (some 33) none then (List.take (natSub (hiB l.length none) 33) (List.drop 33 l)).length = 32 ∧ bif formedF (beW (List.take 32 (List.drop 1 l))) (beW (List.take (natSub (hiB l.length none) 33) (List.drop 33 l))) false then some (Out.mk ((AV.c ((CV.nat two256 (beW (List.take 32 (List.drop 1 l)))).pr ((CV.nat two256 (beW (List.take (natSub (hiB l.length none) 33) (List.drop 33 l)))).pr ((CV.bool false).pr CV.nl)))).t2 (AV.c (CV.bool true))) [] []) = some (Out.mk ((AV.c (cvP (decF l).fst)).t2 (AV.c (CV.bool (decF l).snd))) [] []) else some (Out.mk ((AV.c ((CV.nat two256 0).pr ((CV.nat two256 0).pr ((CV.bool true).pr CV.nl)))).t2 (AV.c (CV.bool false))) [] []) = some (Out.mk ((AV.c (cvP (decF l).fst)).t2 (AV.c (CV.bool (decF l).snd))) [] []) else False else False else False else False else bif (Nat.cast (R := Int) l.length) != 65 then some (Out.mk ((AV.c ((CV.nat two256 0).pr ((CV.nat two256 0).pr ((CV.bool true).pr CV.nl)))).t2 (AV.c (CV.bool false))) [] []) = some (Out.mk ((AV.c (cvP (decF l).fst)).t2 (AV.c (CV.bool (decF l).snd))) [] []) else bif decide (0 < (Nat.cast (R := Int) l.length)) then bif l.getD 0 0 != 4 then some (Out.mk ((AV.c ((CV.nat two256 0).pr ((CV.nat two256 0).pr ((CV.bool true).pr CV.nl)))).t2 (AV.c (CV.bool false))) [] []) = some (Out.mk ((AV.c (cvP (decF l).fst)).t2 (AV.c (CV.bool (decF l).snd))) [] []) else bif bndB l.length (some 1) (some 33) then (List.take 32 (List.drop 1 l)).length = 32 ∧ bif bndB l.length (some 33) none then (List.take (natSub (hiB l.length none) 33) (List.drop 33 l)).length = 32 ∧ bif formedF (beW (List.take 32 (List.drop 1 l))) (beW (List.take (natSub (hiB l.length none) 33) (List.drop 33 l))) false then some (Out.mk ((AV.c ((CV.nat two256 (beW (List.take 32 (List.drop 1 l)))).pr ((CV.nat two256 (beW (List.take (natSub (hiB l.length none) 33) (List.drop 33 l)))).pr ((CV.bool false).pr CV.nl)))).t2 (AV.c (CV.bool true))) [] []) = some (Out.mk ((AV.c (cvP (decF l).fst)).t2 (AV.c (CV.bool (decF l).snd))) [] []) else some (Out.mk ((AV.c ((CV.nat two256 0).pr ((CV.nat two256 0).pr ((CV.bool true).pr CV.nl)))).t2 (AV.c (CV.bool false))) [] []) = some (Out.mk ((AV.c (cvP (decF l).fst)).t2 (AV.c (CV.bool (decF l).snd))) [] []) else False else False else False) (by kernel_rfl) ?_
  simp only [bndB, loB, hiB, natSub]
  refine cond_intro (fun h1 => ?_) (fun h1 => ?_)
  ·simp at h1
   have h1 : l.length = 1 := by omega
   refine cond_at (by simp; omega) (cond_intro (fun h0 => ?_) (fun h0 => ?_))
   ·have e : decF l = ((0, 0, true), true) := by unfold decF; rw [h0, h1]; rfl
    rw [e]; rfl
   ·refine cond_at (by simp; omega) ?_
    have e : decF l = ((0, 0, true), false) := by unfold decF; rw [h0, h1]; rfl
    rw [e]; rfl
  ·simp at h1
   have h1 : (l.length == 1) = false := by simp; omega
   refine cond_intro (fun h65 => ?_) (fun h65 => ?_)
   ·simp at h65
    have h65 : (l.length == 65) = false := by simp; omega
    have e : decF l = ((0, 0, true), false) := by unfold decF; rw [h65, h1]; rfl
    rw [e]; rfl
   ·simp at h65
    have h65 : l.length = 65 := by omega
    refine cond_at (by simp; omega) (cond_intro (fun h4 => ?_) (fun h4 => ?_))
    ·have h4 : (l.getD 0 0 == 4) = false := by simpa using h4
     have e : decF l = ((0, 0, true), false) := by unfold decF; rw [h65, h4]; rfl
     rw [e]; rfl
    ·have h4 : (l.getD 0 0 == 4) = true := by simpa using h4
     refine cond_at (by simp; omega) ⟨by simp; omega, cond_at (by simp; omega) ⟨by simp; omega, ?_⟩⟩
     rw [List.take_of_length_le (l := List.drop 33 l) (by simp)]
     refine cond_intro (fun h => ?_) (fun h => ?_)
     ·have h : onF (beW (List.take 32 (List.drop 1 l))) (beW (List.drop 33 l)) = true := h
      have e : decF l = ((beW ((l.drop 1).take 32), beW (l.drop 33), false), true) := by unfold decF; rw [h65, h4, h]; rfl
      rw [e]; rfl
     ·have h : onF (beW (List.take 32 (List.drop 1 l))) (beW (List.drop 33 l)) = false := h
      have e : decF l = ((0, 0, true), false) := by unfold decF; rw [h65, h4, h]; rfl
      rw [e]; rfl
 ·cases hF
end Go.Proofs.YtdcganigfihkjaaGreatDoor
/- The layer ecdsa. -/
namespace Go.Proofs.YtdcganigfihkjaaGreatDoor
open Go Go.Ab Go.RowKit Go.Chr
set_option maxRecDepth 100000
noncomputable def G9a : Tab := (27, lift [true, true] pMulPS) :: (34, lift [true] pEncodeS) :: (15, lift [true] pDecodeS) :: (60, lift [false] nextS) :: (95, lift [true] newSS) :: (53, lift [true] shaSumS) :: G8
theorem G9a_ok : TabOk CX G9a := .cons (lift_ok pMulP_ok _) <| .cons (lift_ok pEncode_ok _) <| .cons (lift_ok pDecode_ok _) <| .cons (lift_ok next_ok _) <| .cons (lift_ok newS_ok _) <| .cons (lift_ok shaSum_ok _) G8_ok
noncomputable def withinF (a : Nat) : Bool := bif Nat.beq a 0 then false else fbelow 1 a
theorem kB1 : kB 1 := by unfold kB; omega
noncomputable def withinS : FSpec := fun xs bl => match xs, bl with
 | [.c (.nat mm1 a)], [] => bif Nat.beq mm1 two256 then some (none, ⟨.c (.bool (withinF a)), [], []⟩) else none
 | _, _ => none
theorem within_ok : FnOk CX 16 withinS := by
 refine fnOkF hmo G9a_ok (fn := Tryz.f16) (c := bodyOf' Tryz.f16) (by kernel_rfl) (by kernel_rfl) (by kernel_rfl) ?_
 intro xs bl p o hF hp
 unfold withinS at hF
 split at hF
 ·rename_i mm1 a
  obtain ⟨hg, hF⟩ := guard_some hF
  have hg0 := beqN hg
  subst hg0
  injection hF with hF; injection hF with e1 e2; subst e1; subst e2
  refine ⟨Nat.le_of_ble_eq_true (by kernel_rfl), fun X hX hfa => ⟨[], 999, ?_⟩⟩
  refine kto (q := bif !a.beq 0 then kB 1 ∧ some (Out.mk (AV.c (CV.bool (fbelow 1 a))) [] []) = some (Out.mk (AV.c (CV.bool (withinF a))) [] []) else some (Out.mk (AV.c (CV.bool false)) [] []) = some (Out.mk (AV.c (CV.bool (withinF a))) [] [])) (by kernel_rfl) ?_
  refine cond_intro (fun h => ⟨kB1, ?_⟩) (fun h => ?_)
  ·simp at h; simp [withinF, h]
  ·simp at h; simp [withinF, h]
 ·cases hF
def numF (m : List Int) : Nat := beW (shaF shaK shaH m)
noncomputable def numberS : FSpec := fun xs bl => match xs, bl with
 | [.c (.ints .u8 m)], [] => some (some (m.length ≤ 2000000), ⟨.c (.nat two256 (numF m)), [], []⟩)
 | _, _ => none
theorem number_ok : FnOk CX 20 numberS := by
 refine fnOkF hmo G9a_ok (fn := Tryz.f20) (c := bodyOf' Tryz.f20) (by kernel_rfl) (by kernel_rfl) (by kernel_rfl) ?_
 intro xs bl p o hF hp
 unfold numberS at hF
 split at hF
 ·rename_i m
  injection hF with hF; injection hF with e1 e2; subst e1; subst e2
  have hp : m.length ≤ 2000000 := hp
  refine ⟨Nat.le_of_ble_eq_true (by kernel_rfl), fun X hX hfa => ⟨[], 999, ?_⟩⟩
  refine kto (q := ([m].flatten.length ≤ 1000000000 ∧ 1 ≤ 1000000000) ∧ 32 = 32 ∧ some (Out.mk (AV.c (CV.nat two256 (beW (shaF shaK shaH [m].flatten)))) [] []) = some (Out.mk (AV.c (CV.nat two256 (numF m))) [] [])) (by kernel_rfl) ?_
  have e : [m].flatten = m := by simp
  rw [e]
  exact ⟨⟨by omega, by omega⟩, rfl, rfl⟩
 ·cases hF
noncomputable def G9b : Tab := (16, lift [true] withinS) :: (20, lift [true] numberS) :: G9a
theorem G9b_ok : TabOk CX G9b := .cons (lift_ok within_ok _) <| .cons (lift_ok number_ok _) G9a_ok
def bytesZ : Option (TypeId × Nat × Body) := some (5, 1, .ints .u8 [])
def gPt : PtN := (gX, gY, false)
noncomputable def pubF (d : Nat) : List Int := bif withinF d then encF (bothP d gPt 0 gPt) else []
noncomputable def publicS : FSpec := fun xs bl => match xs, bl with
 | [.c (.nat mm1 d)], [] => bif Nat.beq mm1 two256 then some (none, ⟨.t2 (.own 0 1 (pubF d).length) (.c (.bool (withinF d))), [], [byB (pubF d)]⟩) else none
 | _, _ => none
theorem public_ok : FnOk CX 10 publicS := by
 refine fnOkR [.slot 2 bytesZ] hmo G9b_ok (fn := Tryz.f10) (c := bodyOf' Tryz.f10) (by kernel_rfl) (by kernel_rfl) (by kernel_rfl) ?_
 intro xs bl p o hF hp
 unfold publicS at hF
 split at hF
 ·rename_i mm1 d
  obtain ⟨hg, hF⟩ := guard_some hF
  have hg0 := beqN hg
  subst hg0
  injection hF with hF; injection hF with e1 e2; subst e1; subst e2
  refine ⟨Nat.le_of_ble_eq_true (by kernel_rfl), fun X hX hfa => ⟨[], 999, ?_⟩⟩
  refine kto (q := bif !withinF d then some (Out.mk ((AV.own 0 1 0).t2 (AV.c (CV.bool false))) [] [Blk'.cells 5 1 (Body.ints IntKind.u8 [])]) = some (Out.mk ((AV.own 0 1 (pubF d).length).t2 (AV.c (CV.bool (withinF d)))) [] [byB (pubF d)]) else some (Out.mk ((AV.own 0 1 (encF (bothP d (gX, gY, false) 0 (gX, gY, false))).length).t2 (AV.c (CV.bool true))) [] [Blk'.cells 5 1 (Body.ints IntKind.u8 (encF (bothP d (gX, gY, false) 0 (gX, gY, false))))]) = some (Out.mk ((AV.own 0 1 (pubF d).length).t2 (AV.c (CV.bool (withinF d)))) [] [byB (pubF d)])) (by kernel_rfl) ?_
  refine cond_intro (fun h => ?_) (fun h => ?_)
  ·simp at h; simp [pubF, h, byB]
  ·simp at h; simp [pubF, h, byB, gPt]
 ·cases hF
noncomputable def seedF (d : Nat) (m : List Int) : List Int := beL d ++ beL (ffold 1 (numF m))
noncomputable def streamES : FSpec := fun xs bl => match xs, bl with
 | [.c (.nat mm1 d), .c (.ints .u8 m)], [] => bif Nat.beq mm1 two256 then some (some (m.length ≤ 2000000), ⟨.ptr (.l 0) 0 65 0, [], [stB (nwK (seedF d m)) (nwV (seedF d m)) false]⟩) else none
 | _, _ => none
theorem streamE_ok : FnOk CX 59 streamES := by
 refine fnOkF hmo G9b_ok (fn := Tryz.f59) (c := bodyOf' Tryz.f59) (by kernel_rfl) (by kernel_rfl) (by kernel_rfl) ?_
 intro xs bl p o hF hp
 unfold streamES at hF
 split at hF
 ·rename_i mm1 d m
  obtain ⟨hg, hF⟩ := guard_some hF
  have hg0 := beqN hg
  subst hg0
  injection hF with hF; injection hF with e1 e2; subst e1; subst e2
  have hp : m.length ≤ 2000000 := hp
  refine ⟨Nat.le_of_ble_eq_true (by kernel_rfl), fun X hX hfa => ⟨[], 999, ?_⟩⟩
  refine kto (q := m.length ≤ 2000000 ∧ kB 1 ∧ (64 ≤ 10000000 ∧ 2 ≤ 10000000) ∧ some (Out.mk (AV.ptr (Base.l 0) 0 65 0) [] [Blk'.cells 113 65 (Body.els [AV.c ((CV.arr IntKind.u8 32 (nwK [beL d, beL (ffold 1 (numF m))].flatten)).pr ((CV.arr IntKind.u8 32 (nwV [beL d, beL (ffold 1 (numF m))].flatten)).pr ((CV.bool false).pr CV.nl)))])]) = some (Out.mk (AV.ptr (Base.l 0) 0 65 0) [] [stB (nwK (seedF d m)) (nwV (seedF d m)) false])) (by kernel_rfl) ?_
  have e : [beL d, beL (ffold 1 (numF m))].flatten = seedF d m := by simp [seedF]
  rw [e]
  exact ⟨hp, kB1, ⟨by omega, by omega⟩, rfl⟩
 ·cases hF
noncomputable def G9c : Tab := (10, lift [true] publicS) :: (59, lift [true, true] streamES) :: G9b
theorem G9c_ok : TabOk CX G9c := .cons (lift_ok public_ok _) <| .cons (lift_ok streamE_ok _) G9b_ok
def stN (k v : List Int) (n : Nat) : List Int × List Int := match n with
 | 0 => (k, v)
 | n + 1 => (nxK (stN k v n).1 (stN k v n).2 (n != 0), nxV (stN k v n).1 (stN k v n).2 (n != 0))
noncomputable def nonN (k v : List Int) : Nat → List Nat
 | 0 => []
 | n + 1 => bif withinF (beW (stN k v (n + 1)).2) then nonN k v n ++ [beW (stN k v (n + 1)).2] else nonN k v n
theorem stN_succ (k v : List Int) (i : Nat) : stN k v (i + 1) = (nxK (stN k v i).1 (stN k v i).2 (i != 0), nxV (stN k v i).1 (stN k v i).2 (i != 0)) := rfl
theorem nonN_yes {k v : List Int} {i : Nat} (h : withinF (beW (nxV (stN k v i).1 (stN k v i).2 (i != 0))) = true) : nonN k v (i + 1) = nonN k v i ++ [beW (nxV (stN k v i).1 (stN k v i).2 (i != 0))] := by
 show (bif withinF (beW (nxV (stN k v i).1 (stN k v i).2 (i != 0))) then _ else _) = _
 rw [h]; rfl
theorem nonN_no {k v : List Int} {i : Nat} (h : withinF (beW (nxV (stN k v i).1 (stN k v i).2 (i != 0))) = false) : nonN k v (i + 1) = nonN k v i := by
 show (bif withinF (beW (nxV (stN k v i).1 (stN k v i).2 (i != 0))) then _ else _) = _
 rw [h]; rfl
theorem nonN_len (k v : List Int) (i : Nat) : (nonN k v i).length ≤ i := by
 induction i with
 | zero => exact Nat.le_refl _
 | succ i ih =>
  cases h : withinF (beW (nxV (stN k v i).1 (stN k v i).2 (i != 0))) with
  | true => rw [nonN_yes h]; simp; exact ih
  | false => rw [nonN_no h]; omega
def natsB (l : List Nat) : Blk' := .cells 27 4 (.rows (.nat two256) l)
def natsZ : Option (TypeId × Nat × Body) := some (27, 4, .rows (.nat two256) [])
noncomputable def noI (k v : List Int) (i : Nat) : St :=
 ⟨[(5, .ptr (.l 0) 0 65 0), (6, .own 1 4 (nonN k v i).length), (13, .c (.int .i64 (i : Nat)))], [(0, stB (stN k v i).1 (stN k v i).2 (i != 0)), (1, natsB (nonN k v i))], 2, 30⟩
def noF (l : List Nat) : St := ⟨[(6, .own 0 4 l.length)], [(0, natsB l)], 1, 30⟩
theorem nonces_l0 {X : Snap} (hX : ∀ b L, X.ι b = some L → b < 0) (k v : List Int) (L : List Nat) (hL : L = nonN k v 8) : LOk CX X 0 (loopAt 0 Tryz.f26) (loopW 0 [.slot 6 natsZ] [5, 6, 13] (noI k v 0) True false (noF L)) := by
 refine loopW_ok hmo G9c_ok (by kernel_rfl) hX [6] [] (noI k v) (fun i => i ≤ 8) (fun i => 8 - i) 0 (fun _ => rfl) (fun _ => by omega) ?_
 intro hp i hi hfa
 refine ⟨[], 999, ?_⟩
 refine kto (q := bif decide ((Nat.cast (R := Int) i) < 8) then 32 = 32 ∧ bif withinF (beW (nxV (stN k v i).fst (stN k v i).snd (i != 0))) then bif (((Body.rows (Tag.nat two256) (nonN k v i)).len + 1) * 32).ble 140737488355328 && ((Body.rows (Tag.nat two256) (nonN k v i)).len + 1).ble 4611686018427387904 then ∃ (v' : Nat), some (St.mk [(5, AV.ptr (Base.l 0) 0 65 0), (6, AV.own 1 4 (Body.rows (Tag.nat two256) (nonN k v i ++ [beW (nxV (stN k v i).fst (stN k v i).snd (i != 0))])).len), (13, AV.c (CV.int IntKind.i64 (IntKind.i64.wrap ((Nat.cast (R := Int) i) + 1))))] [(0, Blk'.cells 113 65 (Body.els [AV.c ((CV.arr IntKind.u8 32 (nxK (stN k v i).fst (stN k v i).snd (i != 0))).pr ((CV.arr IntKind.u8 32 (nxV (stN k v i).fst (stN k v i).snd (i != 0))).pr ((CV.bool true).pr CV.nl)))])), (1, Blk'.cells 27 4 (Body.rows (Tag.nat two256) (nonN k v i ++ [beW (nxV (stN k v i).fst (stN k v i).snd (i != 0))])))] 2 30) = some (noI k v v') ∧ 8 - v' < 8 - i ∧ v' ≤ 8 else False else ∃ (v' : Nat), some (St.mk [(5, AV.ptr (Base.l 0) 0 65 0), (6, AV.own 1 4 (nonN k v i).length), (13, AV.c (CV.int IntKind.i64 (IntKind.i64.wrap ((Nat.cast (R := Int) i) + 1))))] [(0, Blk'.cells 113 65 (Body.els [AV.c ((CV.arr IntKind.u8 32 (nxK (stN k v i).fst (stN k v i).snd (i != 0))).pr ((CV.arr IntKind.u8 32 (nxV (stN k v i).fst (stN k v i).snd (i != 0))).pr ((CV.bool true).pr CV.nl)))])), (1, Blk'.cells 27 4 (Body.rows (Tag.nat two256) (nonN k v i)))] 2 30) = some (noI k v v') ∧ 8 - v' < 8 - i ∧ v' ≤ 8 else false = false ∧ some (St.mk [(6, AV.own 0 4 (nonN k v i).length)] [(0, Blk'.cells 27 4 (Body.rows (Tag.nat two256) (nonN k v i)))] 1 30) = some (noF L)) (by kernel_rfl) ?_
 have hi : i ≤ 8 := hi
 have hl := nonN_len k v i
 refine cond_intro (fun h => ?_) (fun h => ?_)
 ·simp at h
  have hm : 8 - (i + 1) < 8 - i ∧ i + 1 ≤ 8 := by omega
  have e13 : (i : Int) + 1 = ((i + 1 : Nat) : Int) := by omega
  have ew : IntKind.i64.wrap ((i : Int) + 1) = ((i + 1 : Nat) : Int) := by rw [wi (by omega), e13]
  rw [ew]
  refine ⟨rfl, cond_intro (fun h1 => ?_) (fun h1 => ?_)⟩
  ·refine cond_at ?_ ⟨i + 1, ?_, hm⟩
   ·have e : (Body.rows (Tag.nat two256) (nonN k v i)).len = (nonN k v i).length := rfl
    rw [e]
    simp only [Bool.and_eq_true, Nat.ble_eq]; omega
   ·unfold noI; rw [nonN_yes h1, stN_succ]; rfl
  ·exact ⟨i + 1, by unfold noI; rw [nonN_no h1, stN_succ]; rfl, hm⟩
 ·simp at h
  have e : i = 8 := by omega
  subst e
  rw [hL]
  exact ⟨rfl, rfl⟩
noncomputable def noncesF (d : Nat) (m : List Int) : List Nat := shut (nonN (nwK (seedF d m)) (nwV (seedF d m)) 8)
theorem noncesF_eq (d : Nat) (m : List Int) : noncesF d m = nonN (nwK (seedF d m)) (nwV (seedF d m)) 8 := shut_eq _
noncomputable def noncesS : FSpec := fun xs bl => match xs, bl with
 | [.c (.nat mm1 d), .c (.ints .u8 m)], [] => bif Nat.beq mm1 two256 then some (some (m.length ≤ 2000000), ⟨.own 0 4 (noncesF d m).length, [], [natsB (noncesF d m)]⟩) else none
 | _, _ => none
theorem nonces_ok : FnOk CX 26 noncesS := by
 refine fnOkF hmo G9c_ok (fn := Tryz.f26) (c := bodyOf' Tryz.f26) (by kernel_rfl) (by kernel_rfl) (by kernel_rfl) ?_
 intro xs bl p o hF hp
 unfold noncesS at hF
 split at hF
 ·rename_i mm1 d m
  obtain ⟨hg, hF⟩ := guard_some hF
  have hg0 := beqN hg
  subst hg0
  injection hF with hF; injection hF with e1 e2; subst e1; subst e2
  have hp : m.length ≤ 2000000 := hp
  refine ⟨Nat.le_of_ble_eq_true (by kernel_rfl), fun X hX hfa => ⟨[(0, loopW 0 [.slot 6 natsZ] [5, 6, 13] (noI (nwK (seedF d m)) (nwV (seedF d m)) 0) True false (noF (noncesF d m)))], 999, ?_⟩⟩
  refine kto (q := m.length ≤ 2000000 ∧ LOk CX X 0 (loopAt 0 Tryz.f26) (loopW 0 [Path.slot 6 natsZ] [5, 6, 13] (noI (nwK (seedF d m)) (nwV (seedF d m)) 0) True false (noF (noncesF d m))) ∧ some (St.mk [(5, AV.ptr (Base.l 0) 0 65 0), (6, AV.own 1 4 0), (13, AV.c (CV.int IntKind.i64 0))] [(0, Blk'.cells 113 65 (Body.els [AV.c ((CV.arr IntKind.u8 32 (nwK (seedF d m))).pr ((CV.arr IntKind.u8 32 (nwV (seedF d m))).pr ((CV.bool false).pr CV.nl)))])), (1, Blk'.cells 27 4 (Body.rows (Tag.nat two256) []))] 2 30) = some (noI (nwK (seedF d m)) (nwV (seedF d m)) 0) ∧ True ∧ some (Out.mk (AV.own 0 4 (noncesF d m).length) [] [Blk'.cells 27 4 (Body.rows (Tag.nat two256) (noncesF d m))]) = some (Out.mk (AV.own 0 4 (noncesF d m).length) [] [natsB (noncesF d m)])) (by kernel_rfl) ?_
  exact ⟨hp, nonces_l0 hX _ _ _ (noncesF_eq d m), by kernel_rfl, trivial, by kernel_rfl⟩
 ·cases hF
noncomputable def G9d : Tab := (26, lift [true, true] noncesS) :: G9c
theorem G9d_ok : TabOk CX G9d := .cons (lift_ok nonces_ok _) G9c_ok
noncomputable def sigR (k : Nat) : Nat := ffold 1 (bothP k gPt 0 gPt).1
noncomputable def sigS (d z k : Nat) : Nat := fmul 1 (fadd 1 z (fmul 1 (sigR k) d)) (finv 1 k)
noncomputable def sigOk (d z k : Nat) : Bool := !Nat.beq (sigR k) 0 && !Nat.beq (sigS d z k) 0
noncomputable def sigAt (d z : Nat) (l : List Nat) : Option Nat := l.find? (sigOk d z)
theorem sig_first {d z : Nat} {l : List Nat} {i c : Nat} (hi : i < l.length) (hc : l[i]? = some c) (ok : sigOk d z c = true) (hno : ∀ j k, j < i → l[j]? = some k → sigOk d z k = false) : sigAt d z l = some c := by
 induction l generalizing i with
 | nil => cases hi
 | cons a l ih =>
  cases i with
  | zero =>
   injection hc with hc; subst hc
   unfold sigAt; rw [List.find?_cons_of_pos ok]
  | succ i =>
   have ha : sigOk d z a = false := hno 0 a (by omega) rfl
   unfold sigAt
   rw [List.find?_cons_of_neg (by rw [ha]; simp)]
   exact ih (by simp at hi; omega) (by simpa using hc) (fun j k hj hk => hno (j + 1) k (by omega) (by simpa using hk))
noncomputable def sigL (d z : Nat) (l : List Nat) : List Int := match sigAt d z l with
 | some k => derEn (sigR k) (sigS d z k)
 | none => []
noncomputable def siI (d z : Nat) (l : List Nat) (i : Nat) : St :=
 ⟨[(2, .ptr (.l 0) 0 4 0), (6, .ptr (.l 1) 0 4 0), (18, .own 2 4 l.length), (19, .c (.int .i64 (l.length : Nat))), (20, .c (.int .i64 (i : Nat)))], [(0, natB d), (1, natB z), (2, natsB l)], 3, 49⟩
def siR (s : List Int) : St := ⟨[(4, .own 0 1 s.length), (5, .c (.bool true))], [(0, byB s)], 1, 49⟩
def siF : St := ⟨[], [], 0, 49⟩
theorem sign_l0 {X : Snap} (hX : ∀ b L, X.ι b = some L → b < 0) (d z : Nat) (l : List Nat) : LOk CX X 0 (loopAt 0 Tryz.f8) (loopR 0 [] [2, 6, 18, 19, 20] (siI d z l 0) (l.length ≤ 8) (sigAt d z l).isSome siF (siR (sigL d z l))) := by
 refine loopR_ok hmo G9d_ok (by kernel_rfl) hX [] [] [4, 5] (siI d z l) (fun i => i ≤ l.length ∧ ∀ j k, j < i → l[j]? = some k → sigOk d z k = false) (fun i => l.length - i) 0 (fun _ => rfl) (fun _ => ⟨by omega, fun j k h => by omega⟩) ?_
 intro hp i hi hfa
 refine ⟨[], 999, ?_⟩
 refine kto (q := bif decide ((Nat.cast (R := Int) i) < (Nat.cast (R := Int) l.length)) then bif decide ((Nat.cast (R := Int) i) < (Nat.cast (R := Int) l.length)) then kB 1 ∧ kB 1 ∧ kB 1 ∧ kB 1 ∧ kB 1 ∧ bif !(ffold 1 (bothP (l.getD (Nat.cast (R := Int) i).toNat 0) (gX, gY, false) 0 (gX, gY, false)).fst).beq 0 then bif !(fmul 1 (fadd 1 z (fmul 1 (ffold 1 (bothP (l.getD (Nat.cast (R := Int) i).toNat 0) (gX, gY, false) 0 (gX, gY, false)).fst) d)) (finv 1 (l.getD (Nat.cast (R := Int) i).toNat 0))).beq 0 then (sigAt d z l).isSome = true ∧ some (St.mk [(4, AV.own 0 1 (derEn (ffold 1 (bothP (l.getD (Nat.cast (R := Int) i).toNat 0) (gX, gY, false) 0 (gX, gY, false)).fst) (fmul 1 (fadd 1 z (fmul 1 (ffold 1 (bothP (l.getD (Nat.cast (R := Int) i).toNat 0) (gX, gY, false) 0 (gX, gY, false)).fst) d)) (finv 1 (l.getD (Nat.cast (R := Int) i).toNat 0)))).length), (5, AV.c (CV.bool true))] [(0, Blk'.cells 5 1 (Body.ints IntKind.u8 (derEn (ffold 1 (bothP (l.getD (Nat.cast (R := Int) i).toNat 0) (gX, gY, false) 0 (gX, gY, false)).fst) (fmul 1 (fadd 1 z (fmul 1 (ffold 1 (bothP (l.getD (Nat.cast (R := Int) i).toNat 0) (gX, gY, false) 0 (gX, gY, false)).fst) d)) (finv 1 (l.getD (Nat.cast (R := Int) i).toNat 0))))))] 1 49) = some (siR (sigL d z l)) else ∃ (v' : Nat), some (St.mk [(2, AV.ptr (Base.l 0) 0 4 0), (6, AV.ptr (Base.l 1) 0 4 0), (18, AV.own 2 4 l.length), (19, AV.c (CV.int IntKind.i64 (Nat.cast (R := Int) l.length))), (20, AV.c (CV.int IntKind.i64 (IntKind.i64.wrap ((Nat.cast (R := Int) i) + 1))))] [(0, Blk'.cells 27 4 (Body.els [AV.c (CV.nat two256 d)])), (1, Blk'.cells 27 4 (Body.els [AV.c (CV.nat two256 z)])), (2, Blk'.cells 27 4 (Body.rows (Tag.nat two256) l))] 3 49) = some (siI d z l v') ∧ l.length - v' < l.length - i ∧ v' ≤ l.length ∧ ∀ (j k : Nat), j < v' → l[j]? = some k → sigOk d z k = false else ∃ (v' : Nat), some (St.mk [(2, AV.ptr (Base.l 0) 0 4 0), (6, AV.ptr (Base.l 1) 0 4 0), (18, AV.own 2 4 l.length), (19, AV.c (CV.int IntKind.i64 (Nat.cast (R := Int) l.length))), (20, AV.c (CV.int IntKind.i64 (IntKind.i64.wrap ((Nat.cast (R := Int) i) + 1))))] [(0, Blk'.cells 27 4 (Body.els [AV.c (CV.nat two256 d)])), (1, Blk'.cells 27 4 (Body.els [AV.c (CV.nat two256 z)])), (2, Blk'.cells 27 4 (Body.rows (Tag.nat two256) l))] 3 49) = some (siI d z l v') ∧ l.length - v' < l.length - i ∧ v' ≤ l.length ∧ ∀ (j k : Nat), j < v' → l[j]? = some k → sigOk d z k = false else False else (sigAt d z l).isSome = false ∧ some (St.mk [] [] 0 49) = some siF) (by kernel_rfl) ?_
 have hi : i ≤ l.length ∧ ∀ j k, j < i → l[j]? = some k → sigOk d z k = false := hi
 obtain ⟨hi, hno⟩ := hi
 have hp : l.length ≤ 8 := hp
 refine cond_intro (fun h => ?_) (fun h => ?_)
 ·simp at h
  have hlt : i < l.length := by omega
  refine cond_at (by simp; omega) ⟨kB1, kB1, kB1, kB1, kB1, ?_⟩
  have e13 : (i : Int) + 1 = ((i + 1 : Nat) : Int) := by omega
  have ew : IntKind.i64.wrap ((i : Int) + 1) = ((i + 1 : Nat) : Int) := by rw [wi (by omega), e13]
  rw [ew]
  have eg : l.getD ((i : Int)).toNat 0 = l[i] := by
   rw [Int.toNat_natCast, List.getD_eq_getElem?_getD, List.getElem?_eq_getElem hlt]; rfl
  have ei : l[i]? = some l[i] := List.getElem?_eq_getElem hlt
  rw [eg]
  generalize hc : l[i] = c at ei ⊢
  have hm : l.length - (i + 1) < l.length - i ∧ i + 1 ≤ l.length := by omega
  have next : sigOk d z c = false → i + 1 ≤ l.length ∧ ∀ j k, j < i + 1 → l[j]? = some k → sigOk d z k = false := by
   intro hf
   refine ⟨hm.2, fun j k hj hk => ?_⟩
   by_cases hji : j = i
   ·subst hji; rw [ei] at hk; injection hk with hk; subst hk; exact hf
   ·exact hno j k (by omega) hk
  refine cond_intro (fun h1 => ?_) (fun h1 => ?_)
  ·refine cond_intro (fun h2 => ?_) (fun h2 => ?_)
   ·have ok : sigOk d z c = true := by
     show (!Nat.beq (ffold 1 (bothP c (gX, gY, false) 0 (gX, gY, false)).1) 0 && !Nat.beq (fmul 1 (fadd 1 z (fmul 1 (ffold 1 (bothP c (gX, gY, false) 0 (gX, gY, false)).1) d)) (finv 1 c)) 0) = true
     rw [h1, h2]; rfl
    have ea : sigAt d z l = some c := sig_first hlt ei ok hno
    refine ⟨by rw [ea]; rfl, ?_⟩
    unfold sigL; rw [ea]; rfl
   ·have hf : sigOk d z c = false := by
     show (!Nat.beq (ffold 1 (bothP c (gX, gY, false) 0 (gX, gY, false)).1) 0 && !Nat.beq (fmul 1 (fadd 1 z (fmul 1 (ffold 1 (bothP c (gX, gY, false) 0 (gX, gY, false)).1) d)) (finv 1 c)) 0) = false
     rw [h1, h2]; rfl
    exact ⟨i + 1, rfl, hm.1, next hf⟩
  ·have hf : sigOk d z c = false := by
     show (!Nat.beq (ffold 1 (bothP c (gX, gY, false) 0 (gX, gY, false)).1) 0 && !Nat.beq (fmul 1 (fadd 1 z (fmul 1 (ffold 1 (bothP c (gX, gY, false) 0 (gX, gY, false)).1) d)) (finv 1 c)) 0) = false
     rw [h1]; rfl
   exact ⟨i + 1, rfl, hm.1, next hf⟩
 ·simp at h
  have e : i = l.length := by omega
  subst e
  refine ⟨?_, rfl⟩
  have ea : sigAt d z l = none := by
   unfold sigAt
   rw [List.find?_eq_none]
   intro k hk
   obtain ⟨j, hj, hk⟩ := List.getElem_of_mem hk
   rw [hno j k hj (by rw [← hk]; exact List.getElem?_eq_getElem hj)]
   simp
  rw [ea]; rfl
noncomputable def signF (d : Nat) (m : List Int) : List Int := bif withinF d then sigL d (numF m) (noncesF d m) else []
noncomputable def signB (d : Nat) (m : List Int) : Bool := bif withinF d then (sigAt d (numF m) (noncesF d m)).isSome else false
noncomputable def signS : FSpec := fun xs bl => match xs, bl with
 | [.c (.nat mm1 d), .c (.ints .u8 m)], [] => bif Nat.beq mm1 two256 then some (some (m.length ≤ 2000000), ⟨.t2 (.own 0 1 (signF d m).length) (.c (.bool (signB d m))), [], [byB (signF d m)]⟩) else none
 | _, _ => none
theorem sign_ok : FnOk CX 8 signS := by
 refine fnOkR [.slot 4 bytesZ] hmo G9d_ok (fn := Tryz.f8) (c := bodyOf' Tryz.f8) (by kernel_rfl) (by kernel_rfl) (by kernel_rfl) ?_
 intro xs bl p o hF hp
 unfold signS at hF
 split at hF
 ·rename_i mm1 d m
  obtain ⟨hg, hF⟩ := guard_some hF
  have hg0 := beqN hg
  subst hg0
  injection hF with hF; injection hF with e1 e2; subst e1; subst e2
  have hp : m.length ≤ 2000000 := hp
  refine ⟨Nat.le_of_ble_eq_true (by kernel_rfl), fun X hX hfa => ⟨[(0, loopR 0 [] [2, 6, 18, 19, 20] (siI d (numF m) (noncesF d m) 0) ((noncesF d m).length ≤ 8) (sigAt d (numF m) (noncesF d m)).isSome siF (siR (sigL d (numF m) (noncesF d m))))], 999, ?_⟩⟩
  refine kto (q := bif !withinF d then some (Out.mk ((AV.own 0 1 0).t2 (AV.c (CV.bool false))) [] [Blk'.cells 5 1 (Body.ints IntKind.u8 [])]) = some (Out.mk ((AV.own 0 1 (signF d m).length).t2 (AV.c (CV.bool (signB d m)))) [] [byB (signF d m)]) else m.length ≤ 2000000 ∧ m.length ≤ 2000000 ∧ LOk CX X 0 (loopAt 0 Tryz.f8) (loopR 0 [] [2, 6, 18, 19, 20] (siI d (numF m) (noncesF d m) 0) ((noncesF d m).length ≤ 8) (sigAt d (numF m) (noncesF d m)).isSome siF (siR (sigL d (numF m) (noncesF d m)))) ∧ some (St.mk [(2, AV.ptr (Base.l 0) 0 4 0), (6, AV.ptr (Base.l 1) 0 4 0), (18, AV.own 2 4 (noncesF d m).length), (19, AV.c (CV.int IntKind.i64 (Nat.cast (R := Int) (noncesF d m).length))), (20, AV.c (CV.int IntKind.i64 0))] [(0, Blk'.cells 27 4 (Body.els [AV.c (CV.nat two256 d)])), (1, Blk'.cells 27 4 (Body.els [AV.c (CV.nat two256 (numF m))])), (2, Blk'.cells 27 4 (Body.rows (Tag.nat two256) (noncesF d m)))] 3 49) = some (siI d (numF m) (noncesF d m) 0) ∧ (noncesF d m).length ≤ 8 ∧ bif (sigAt d (numF m) (noncesF d m)).isSome then some (Out.mk ((AV.own 0 1 (sigL d (numF m) (noncesF d m)).length).t2 (AV.c (CV.bool true))) [] [Blk'.cells 5 1 (Body.ints IntKind.u8 (sigL d (numF m) (noncesF d m)))]) = some (Out.mk ((AV.own 0 1 (signF d m).length).t2 (AV.c (CV.bool (signB d m)))) [] [byB (signF d m)]) else some (Out.mk ((AV.own 0 1 0).t2 (AV.c (CV.bool false))) [] [Blk'.cells 5 1 (Body.ints IntKind.u8 [])]) = some (Out.mk ((AV.own 0 1 (signF d m).length).t2 (AV.c (CV.bool (signB d m)))) [] [byB (signF d m)])) (by kernel_rfl) ?_
  refine cond_intro (fun h => ?_) (fun h => ?_)
  ·simp at h; simp [signF, signB, h, byB]
  ·simp at h
   refine ⟨hp, hp, sign_l0 hX _ _ _, by kernel_rfl, by rw [noncesF_eq]; exact nonN_len _ _ 8, ?_⟩
   refine cond_intro (fun h1 => ?_) (fun h1 => ?_)
   ·simp [signF, signB, h, h1, byB]
   ·have e : sigL d (numF m) (noncesF d m) = [] := by
     unfold sigL
     cases ha : sigAt d (numF m) (noncesF d m) with
     | none => rfl
     | some k => rw [ha] at h1; cases h1
    simp [signF, signB, h, h1, e, byB]
 ·cases hF
noncomputable def rightF (q : PtN) (z r s : Nat) : Bool :=
 let p := bothP (fmul 1 z (finv 1 s)) gPt (fmul 1 r (finv 1 s)) q
 bif p.2.2 then false else Nat.beq (ffold 1 p.1) r
noncomputable def verF (pub m sig : List Int) : Bool :=
 bif !(derDe sig).2.2 then false else bif !(decF pub).2 then false else bif (decF pub).1.2.2 then false else bif !withinF (derDe sig).1 then false else bif !withinF (derDe sig).2.1 then false else
 rightF (decF pub).1 (numF m) (derDe sig).1 (derDe sig).2.1
noncomputable def verifyS : FSpec := fun xs bl => match xs, bl with
 | [.c (.ints .u8 pub), .c (.ints .u8 m), .c (.ints .u8 sig)], [] => some (some (m.length ≤ 2000000 ∧ sig.length ≤ 1000), ⟨.c (.bool (verF pub m sig)), [], []⟩)
 | _, _ => none
theorem verify_ok : FnOk CX 6 verifyS := by
 refine fnOkF hmo G9d_ok (fn := Tryz.f6) (c := bodyOf' Tryz.f6) (by kernel_rfl) (by kernel_rfl) (by kernel_rfl) ?_
 intro xs bl p o hF hp
 unfold verifyS at hF
 split at hF
 ·rename_i pub m sig
  injection hF with hF; injection hF with e1 e2; subst e1; subst e2
  have hp : m.length ≤ 2000000 ∧ sig.length ≤ 1000 := hp
  refine ⟨Nat.le_of_ble_eq_true (by kernel_rfl), fun X hX hfa => ⟨[], 999, ?_⟩⟩
  refine kto (q := sig.length ≤ 1000 ∧ bif !(derDe sig).snd.snd then some (Out.mk (AV.c (CV.bool false)) [] []) = some (Out.mk (AV.c (CV.bool (verF pub m sig))) [] []) else bif !(decF pub).snd then some (Out.mk (AV.c (CV.bool false)) [] []) = some (Out.mk (AV.c (CV.bool (verF pub m sig))) [] []) else bif (decF pub).fst.snd.snd then some (Out.mk (AV.c (CV.bool false)) [] []) = some (Out.mk (AV.c (CV.bool (verF pub m sig))) [] []) else bif !withinF (derDe sig).fst then some (Out.mk (AV.c (CV.bool false)) [] []) = some (Out.mk (AV.c (CV.bool (verF pub m sig))) [] []) else bif !withinF (derDe sig).snd.fst then some (Out.mk (AV.c (CV.bool false)) [] []) = some (Out.mk (AV.c (CV.bool (verF pub m sig))) [] []) else kB 1 ∧ m.length ≤ 2000000 ∧ kB 1 ∧ kB 1 ∧ bif !(dropF (bothF (fmul 1 (numF m) (finv 1 (derDe sig).snd.fst)) (fmul 1 (derDe sig).fst (finv 1 (derDe sig).snd.fst)) (liftF gX gY false) (liftF (decF pub).fst.fst (decF pub).fst.snd.fst (decF pub).fst.snd.snd) 256)).snd.snd then kB 1 ∧ some (Out.mk (AV.c (CV.bool ((ffold 1 (dropF (bothF (fmul 1 (numF m) (finv 1 (derDe sig).snd.fst)) (fmul 1 (derDe sig).fst (finv 1 (derDe sig).snd.fst)) (liftF gX gY false) (liftF (decF pub).fst.fst (decF pub).fst.snd.fst (decF pub).fst.snd.snd) 256)).fst).beq (derDe sig).fst))) [] []) = some (Out.mk (AV.c (CV.bool (verF pub m sig))) [] []) else some (Out.mk (AV.c (CV.bool false)) [] []) = some (Out.mk (AV.c (CV.bool (verF pub m sig))) [] [])) (by kernel_rfl) ?_
  refine ⟨hp.2, ?_⟩
  have hv : verF pub m sig = bif !(derDe sig).2.2 then false else bif !(decF pub).2 then false else bif (decF pub).1.2.2 then false else bif !withinF (derDe sig).1 then false else bif !withinF (derDe sig).2.1 then false else rightF (decF pub).1 (numF m) (derDe sig).1 (derDe sig).2.1 := rfl
  rw [hv]
  refine cond_intro (fun h1 => ?_) (fun h1 => ?_)
  ·rw [h1]; rfl
  rw [h1]
  refine cond_intro (fun h2 => ?_) (fun h2 => ?_)
  ·rw [h2]; rfl
  rw [h2]
  refine cond_intro (fun h3 => ?_) (fun h3 => ?_)
  ·rw [h3]; rfl
  rw [h3]
  refine cond_intro (fun h4 => ?_) (fun h4 => ?_)
  ·rw [h4]; rfl
  rw [h4]
  refine cond_intro (fun h5 => ?_) (fun h5 => ?_)
  ·rw [h5]; rfl
  rw [h5]
  refine ⟨kB1, hp.1, kB1, kB1, ?_⟩
  have hr : rightF (decF pub).1 (numF m) (derDe sig).1 (derDe sig).2.1 = bif (dropF (bothF (fmul 1 (numF m) (finv 1 (derDe sig).2.1)) (fmul 1 (derDe sig).1 (finv 1 (derDe sig).2.1)) (liftF gX gY false) (liftF (decF pub).1.1 (decF pub).1.2.1 (decF pub).1.2.2) 256)).2.2 then false else Nat.beq (ffold 1 (dropF (bothF (fmul 1 (numF m) (finv 1 (derDe sig).2.1)) (fmul 1 (derDe sig).1 (finv 1 (derDe sig).2.1)) (liftF gX gY false) (liftF (decF pub).1.1 (decF pub).1.2.1 (decF pub).1.2.2) 256)).1) (derDe sig).1 := rfl
  rw [h3] at hr
  simp only [cond_false, hr]
  refine cond_intro (fun h6 => ?_) (fun h6 => ?_)
  ·simp only [Bool.not_eq_true'] at h6
   rw [h6]; exact ⟨kB1, rfl⟩
  ·simp only [Bool.not_eq_false'] at h6
   rw [h6]; rfl
 ·cases hF
end Go.Proofs.YtdcganigfihkjaaGreatDoor
/- Contract of ref01.Less. -/
namespace Go.Proofs.YtdcganigfihkjaaGreatDoor
open Go.RowKit Go.Chr
set_option maxRecDepth 100000 in
set_option maxHeartbeats 1000000 in
theorem refLess_any (x y : Nat) (w : World) (hx : x < 115792089237316195423570985008687907853269984665640564039457584007913129639936) (hy : y < 115792089237316195423570985008687907853269984665640564039457584007913129639936) :
  Calls Tryz.prog 100 #[nat4 x, nat4 y] w (RetV w (.bool (decide (x < y)))) := by
 have HX := Lib.hid hx; have HY := Lib.hid hy
 clear hx hy
 go_enter Tryz.func100, Tryz.ntmps100
 go_wp2
 go_loopw [5] (fun i wr => ∃ k : Nat, k ≤ 4 ∧ i = .int .i64 ((k : Int) - 1) ∧ (∀ j, k ≤ j → j < 4 → lb x j = lb y j) ∧ IB wr w.heap.size 27 .u64 (lbs x) ∧ IB wr (w.heap.size + 1) 27 .u64 (lbs y) ∧ Below w.heap.size w wr) (fun i _ => (intOf i + 1).toNat)
 case atStart =>
  have h0 := (IB.new w 27 .u64 (lbs x)).alloc (.cells (natC y) 27)
  have h1 := (IB.new (w.alloc (.cells (natC x) 27)) 27 .u64 (lbs y))
  rw [World.size_alloc] at h1
  exact ⟨4, by omega, rfl, fun j h1 h2 => by omega, h0, h1, ((Below.refl _ _).alloc (Nat.le_refl _) _).alloc (by simp) _⟩
 case round =>
  obtain ⟨k, hk, rfl, he, hA, hB, hbel⟩ := hrel
  rcases k with _ | k
  ·have hxy : x = y := lb_inj HX.out HY.out (he 0 (by omega) (by omega)) (he 1 (by omega) (by omega)) (he 2 (by omega) (by omega)) (he 3 (by omega) (by omega))
   have hc : decide (x < y) = false := by rw [hxy]; simp
   have HBL := Lib.hid hbel
   clear he hA hB hbel hxy
   have HC := Lib.hid hc
   clear hc
   go_wp2
   go_ret
   exact ⟨by rw [HC.out]; rfl, HBL.out⟩
  ·have q1 := hA.cell (i := k) (by simp; omega)
   have q2 := hB.cell (i := k) (by simp; omega)
   rw [lbs_getD _ (by omega)] at q1 q2
   have ek : ((k + 1 : Nat) : Int) - 1 = (k : Int) := by omega
   rw [ek]
   have i1 : (k : Int) < 4 := by omega
   have i0 : (0 : Int) ≤ k := by omega
   have d0 : decide ((0 : Int) ≤ k) = true := by simp
   have HA := Lib.hid hA; have HB := Lib.hid hB; have HBL := Lib.hid hbel; have HE := Lib.hid he
   clear hA hB hbel he ek
   by_cases hq : lb x k = lb y k
   ·have dn : (lb x k != lb y k) = false := by simp [hq]
    have HQ := Lib.hid hq
    clear hq
    go_wp2
    go_region
    go_wp2
    go_roundw
    case rel => exact ⟨k, by omega, by go_num, fun j h1 h2 => by
     by_cases hj : j = k
     ·rw [hj]; exact HQ.out
     ·exact HE.out j (by omega) h2, HA.out.drew, HB.out.drew, HBL.out.drew⟩
    case measure => simp [intOf]
   ·have dn : (lb x k != lb y k) = true := by simpa using hq
    have hres : decide (lb x k < lb y k) = decide (x < y) := by
     by_cases h1 : lb x k < lb y k
     ·have h2 := lt_at HX.out HY.out (by omega) (fun j a b => HE.out j (by omega) b) h1
      simp [h1, h2]
     ·have h2 : lb y k < lb x k := by omega
      have h3 := lt_at HY.out HX.out (by omega) (fun j a b => (HE.out j (by omega) b).symm) h2
      have h4 : ¬ x < y := by omega
      simp [h1, h4]
    have HQ := Lib.hid hq; have HRS := Lib.hid hres
    clear hq hres
    go_wp2
    go_region
    go_wp2
    go_region
    all_goals
     go_wp2
     go_ret
     exact ⟨by rw [← HRS.out]; rfl, HBL.out.drew.drew⟩
end Go.Proofs.YtdcganigfihkjaaGreatDoor
/- The references of the layers limb, codec and der, as contracts of the abstract machine. -/
namespace Go.Proofs.YtdcganigfihkjaaGreatDoor
open Go Go.Ab Go.RowKit Go.Chr
set_option maxRecDepth 100000
theorem natL_bd (x : Nat) : ∀ b ∈ [lb x 0, lb x 1, lb x 2, lb x 3], 0 ≤ b ∧ b < 2 ^ 64 := by
 intro b hb
 simp only [List.mem_cons, List.not_mem_nil, or_false] at hb
 have e : (2 : Int) ^ 64 = 18446744073709551616 := by decide
 rw [e]
 rcases hb with rfl | rfl | rfl | rfl
 ·exact ⟨lb_nn x 0, lb_lt x 0⟩
 ·exact ⟨lb_nn x 1, lb_lt x 1⟩
 ·exact ⟨lb_nn x 2, lb_lt x 2⟩
 ·exact ⟨lb_nn x 3, lb_lt x 3⟩
theorem refPutBig_c : CallOkO CX 5 .u8 36 putBigS := by
 intro cs p l hF hp N w vs hE hv
 unfold putBigS at hF
 split at hF
 ·rename_i m x
  injection hF with hF; injection hF with e1 e2; subst e1; subst e2
  obtain ⟨u1, rfl, h1⟩ := cs1 hv
  obtain ⟨rfl, hx, hm⟩ := rel_nat h1
  have h := refPutBig_any (lb x 0) (lb x 1) (lb x 2) (lb x 3) w (natL_bd x)
  rw [leB_leL] at h
  exact retB_outs (by kernel_rfl) h (fun b hb => leL_ok x b (List.mem_reverse.1 hb))
 ·cases hF
theorem refEncode_c : CallOkO CX 5 .u8 33 derEncodeS := by
 intro cs p l hF hp N w vs hE hv
 unfold derEncodeS at hF
 split at hF
 ·rename_i m x m2 y
  injection hF with hF; injection hF with e1 e2; subst e1; subst e2
  obtain ⟨u1, u2, rfl, h1, h2⟩ := cs2 hv
  obtain ⟨rfl, hx, hm⟩ := rel_nat h1
  obtain ⟨rfl, hy, hm⟩ := rel_nat h2
  have h := refEncode_any (lb x 0) (lb x 1) (lb x 2) (lb x 3) (lb y 0) (lb y 1) (lb y 2) (lb y 3) w (natL_bd x) (natL_bd y)
  rw [leB_leL, leB_leL] at h
  exact retB_outs (by kernel_rfl) h (derEn_ok x y)
 ·cases hF
theorem refBig_c : CallOk CX 56 bigS := by
 intro cs p v hF hp N w vs hE hv
 unfold bigS at hF
 split at hF
 ·rename_i l
  injection hF with hF; injection hF with e1 e2; subst e1; subst e2
  obtain ⟨u1, rfl, h1⟩ := cs1 hv
  obtain ⟨hr, hb⟩ := ints_ri hE.1 h1
  have hb := fun x hx => okI_u8.1 (hb x hx)
  rw [CX_P]
  refine callOuts_of (by kernel_rfl) (Calls.mono (refBig_any u1 l w hr hb hp) ?_)
  rintro e w' ⟨rfl, hB⟩
  exact ⟨_, rfl, hB, _, _, rfl, limbs_val (beW_ok hb), bool_val⟩
 ·cases hF
noncomputable def sameB (l m : List Int) : Bool := shut (decide (l = m))
theorem sameB_eq (l m : List Int) : sameB l m = decide (l = m) := shut_eq _
noncomputable def refSameS : CSpec := fun cs => match cs with
 | [.ints .u8 l, .ints .u8 m] => some (some (l.length ≤ 1000000000 ∧ m.length ≤ 1000000000), .c (.bool (sameB l m)))
 | _ => none
theorem refSame_c : CallOk CX 11 refSameS := by
 intro cs p v hF hp N w vs hE hv
 unfold refSameS at hF
 split at hF
 ·rename_i l m
  injection hF with hF; injection hF with e1 e2; subst e1; subst e2
  obtain ⟨u1, u2, rfl, h1, h2⟩ := cs2 hv
  obtain ⟨hr, hb⟩ := ints_ri hE.1 h1
  obtain ⟨hr2, hb2⟩ := ints_ri hE.1 h2
  rw [CX_P, sameB_eq]
  refine callOuts_of (by kernel_rfl) (Calls.mono (refSame_any u1 u2 l m w hr hr2 hp.1 hp.2) ?_)
  rintro e w' ⟨rfl, hB⟩
  exact ⟨_, rfl, hB, bool_val⟩
 ·cases hF
noncomputable def refLessS : CSpec := fun cs => match cs with
 | [.nat _ x, .nat _ y] => some (none, .c (.bool (lless x y)))
 | _ => none
theorem refLess_c : CallOk CX 100 refLessS := by
 intro cs p v hF hp N w vs hE hv
 unfold refLessS at hF
 split at hF
 ·rename_i m1 x m2 y
  injection hF with hF; injection hF with e1 e2; subst e1; subst e2
  obtain ⟨u1, u2, rfl, h1, h2⟩ := cs2 hv
  obtain ⟨rfl, hx, hm⟩ := rel_nat h1
  obtain ⟨rfl, hy, hm'⟩ := rel_nat h2
  refine retV_outs (by kernel_rfl) (refLess_any x y w (by omega) (by omega)) ?_
  rw [lless_eq]; exact bool_val
 ·cases hF
end Go.Proofs.YtdcganigfihkjaaGreatDoor
/- The references ref03.Below and ref08, as the machine walks them. -/
namespace Go.Proofs.YtdcganigfihkjaaGreatDoor
open Go Go.Ab Go.RowKit Go.Chr
set_option maxRecDepth 100000
noncomputable def G10a : Tab := (36, flatO 5 .u8 putBigS) :: (33, flatO 5 .u8 derEncodeS) :: (56, flatC bigS) :: (11, flatC refSameS) :: (100, flatC refLessS) :: (10, lift [true] publicS) :: (8, lift [true, true] signS) :: (6, lift [true, true, true] verifyS) :: G9d
theorem G10a_ok : TabOk CX G10a := .cons (flatO_ok refPutBig_c) <| .cons (flatO_ok refEncode_c) <| .cons (flatC_ok refBig_c) <| .cons (flatC_ok refSame_c) <| .cons (flatC_ok refLess_c) <| .cons (lift_ok public_ok _) <| .cons (lift_ok sign_ok _) <| .cons (lift_ok verify_ok _) G9d_ok
def modR0 (k : Int) : Nat := bif k == 0 then 115792089210356248762697446949407573530086143415290314195533631308867097853951 else bif k == 1 then 115792089210356248762697446949407573529996955224135760342422259061068512044369 else bif k == 2 then 57896044618658097711785492504343953926634992332820282019728792003956564819949 else bif k == 3 then 7237005577332262213973186563042994240857116359379907606001950938285454250989 else 0
noncomputable def modR (k : Int) : Nat := shut (modR0 k)
theorem modR_eq (k : Int) : modR k = modR0 k := shut_eq _
noncomputable def rModS : FSpec := fun xs bl => match xs, bl with
 | [.c (.int .i64 k)], [] => some (none, ⟨.c (.nat two256 (modR k)), [], []⟩)
 | _, _ => none
theorem rMod_ok : FnOk CX 101 rModS := by
 refine fnOkF hmo G10a_ok (fn := Tryz.f101) (c := bodyOf' Tryz.f101) (by kernel_rfl) (by kernel_rfl) (by kernel_rfl) ?_
 intro xs bl p o hF hp
 unfold rModS at hF
 split at hF
 ·rename_i k
  injection hF with hF; injection hF with e1 e2; subst e1; subst e2
  refine ⟨Nat.le_of_ble_eq_true (by kernel_rfl), fun X hX hfa => ⟨[], 999, ?_⟩⟩
  refine kto (q := bif k == 0 then some (Out.mk (AV.c (CV.nat two256 p0)) [] []) = some (Out.mk (AV.c (CV.nat two256 (modR k))) [] []) else bif k == 1 then some (Out.mk (AV.c (CV.nat two256 p1)) [] []) = some (Out.mk (AV.c (CV.nat two256 (modR k))) [] []) else bif k == 2 then some (Out.mk (AV.c (CV.nat two256 p2)) [] []) = some (Out.mk (AV.c (CV.nat two256 (modR k))) [] []) else bif k == 3 then some (Out.mk (AV.c (CV.nat two256 p3)) [] []) = some (Out.mk (AV.c (CV.nat two256 (modR k))) [] []) else some (Out.mk (AV.c (CV.nat two256 0)) [] []) = some (Out.mk (AV.c (CV.nat two256 (modR k))) [] [])) (by kernel_rfl) ?_
  rw [modR_eq]
  unfold modR0
  refine cond_intro (fun h => by rw [h]; rfl) (fun h => ?_)
  rw [h]
  refine cond_intro (fun h => by rw [h]; rfl) (fun h => ?_)
  rw [h]
  refine cond_intro (fun h => by rw [h]; rfl) (fun h => ?_)
  rw [h]
  exact cond_intro (fun h => by rw [h]; rfl) (fun h => by rw [h]; rfl)
 ·cases hF
noncomputable def rAddS : FSpec := fun xs bl => match xs, bl with
 | [.c (.nat mm1 x), .c (.nat mm2 y)], [] => bif Nat.beq mm1 two256 && Nat.beq mm2 two256 then some (none, ⟨.c (.nat two256 (fadd 0 x y)), [], []⟩) else none
 | _, _ => none
theorem rAdd_ok : FnOk CX 70 rAddS := by
 refine fnOkF hmo G10a_ok (fn := Tryz.f70) (c := bodyOf' Tryz.f70) (by kernel_rfl) (by kernel_rfl) (by kernel_rfl) ?_
 intro xs bl p o hF hp
 unfold rAddS at hF
 split at hF
 ·rename_i mm1 x mm2 y
  obtain ⟨hg, hF⟩ := guard_some hF
  simp only [Bool.and_eq_true] at hg
  have hg0 := beqN hg.1
  have hg1 := beqN hg.2
  subst hg0; subst hg1
  injection hF with hF; injection hF with e1 e2; subst e1; subst e2
  refine ⟨Nat.le_of_ble_eq_true (by kernel_rfl), fun X hX hfa => ⟨[], 999, ?_⟩⟩
  refine kto (q := kB 0 ∧ some (Out.mk (AV.c (CV.nat two256 (fadd 0 x y))) [] []) = some (Out.mk (AV.c (CV.nat two256 (fadd 0 x y))) [] [])) (by kernel_rfl) ?_
  exact ⟨kB0, rfl⟩
 ·cases hF
noncomputable def rSubS : FSpec := fun xs bl => match xs, bl with
 | [.c (.nat mm1 x), .c (.nat mm2 y)], [] => bif Nat.beq mm1 two256 && Nat.beq mm2 two256 then some (none, ⟨.c (.nat two256 (fsub 0 x y)), [], []⟩) else none
 | _, _ => none
theorem rSub_ok : FnOk CX 71 rSubS := by
 refine fnOkF hmo G10a_ok (fn := Tryz.f71) (c := bodyOf' Tryz.f71) (by kernel_rfl) (by kernel_rfl) (by kernel_rfl) ?_
 intro xs bl p o hF hp
 unfold rSubS at hF
 split at hF
 ·rename_i mm1 x mm2 y
  obtain ⟨hg, hF⟩ := guard_some hF
  simp only [Bool.and_eq_true] at hg
  have hg0 := beqN hg.1
  have hg1 := beqN hg.2
  subst hg0; subst hg1
  injection hF with hF; injection hF with e1 e2; subst e1; subst e2
  refine ⟨Nat.le_of_ble_eq_true (by kernel_rfl), fun X hX hfa => ⟨[], 999, ?_⟩⟩
  refine kto (q := kB 0 ∧ some (Out.mk (AV.c (CV.nat two256 (fsub 0 x y))) [] []) = some (Out.mk (AV.c (CV.nat two256 (fsub 0 x y))) [] [])) (by kernel_rfl) ?_
  exact ⟨kB0, rfl⟩
 ·cases hF
noncomputable def rMulS : FSpec := fun xs bl => match xs, bl with
 | [.c (.nat mm1 x), .c (.nat mm2 y)], [] => bif Nat.beq mm1 two256 && Nat.beq mm2 two256 then some (none, ⟨.c (.nat two256 (fmul 0 x y)), [], []⟩) else none
 | _, _ => none
theorem rMul_ok : FnOk CX 72 rMulS := by
 refine fnOkF hmo G10a_ok (fn := Tryz.f72) (c := bodyOf' Tryz.f72) (by kernel_rfl) (by kernel_rfl) (by kernel_rfl) ?_
 intro xs bl p o hF hp
 unfold rMulS at hF
 split at hF
 ·rename_i mm1 x mm2 y
  obtain ⟨hg, hF⟩ := guard_some hF
  simp only [Bool.and_eq_true] at hg
  have hg0 := beqN hg.1
  have hg1 := beqN hg.2
  subst hg0; subst hg1
  injection hF with hF; injection hF with e1 e2; subst e1; subst e2
  refine ⟨Nat.le_of_ble_eq_true (by kernel_rfl), fun X hX hfa => ⟨[], 999, ?_⟩⟩
  refine kto (q := kB 0 ∧ some (Out.mk (AV.c (CV.nat two256 (fmul 0 x y))) [] []) = some (Out.mk (AV.c (CV.nat two256 (fmul 0 x y))) [] [])) (by kernel_rfl) ?_
  exact ⟨kB0, rfl⟩
 ·cases hF
noncomputable def rBS : FSpec := fun xs bl => match xs, bl with
 | [], [] => some (none, ⟨.c (.nat two256 cvB), [], []⟩)
 | _, _ => none
theorem rB_ok : FnOk CX 74 rBS := by
 refine fnOkF hmo G10a_ok (fn := Tryz.f74) (c := bodyOf' Tryz.f74) (by kernel_rfl) (by kernel_rfl) (by kernel_rfl) ?_
 intro xs bl p o hF hp
 unfold rBS at hF
 split at hF
 ·skip
  injection hF with hF; injection hF with e1 e2; subst e1; subst e2
  refine ⟨Nat.le_of_ble_eq_true (by kernel_rfl), fun X hX hfa => ⟨[], 999, ?_⟩⟩
  refine kto (q := some (Out.mk (AV.c (CV.nat two256 41058363725152142129326129780047268409114441015993725554835256314039467401291)) [] []) = some (Out.mk (AV.c (CV.nat two256 cvB)) [] [])) (by kernel_rfl) ?_
  rfl
 ·cases hF
noncomputable def rNoneS : FSpec := fun xs bl => match xs, bl with
 | [], [] => some (none, ⟨.c (cvP (0, 0, true)), [], []⟩)
 | _, _ => none
theorem rNone_ok : FnOk CX 55 rNoneS := by
 refine fnOkF hmo G10a_ok (fn := Tryz.f55) (c := bodyOf' Tryz.f55) (by kernel_rfl) (by kernel_rfl) (by kernel_rfl) ?_
 intro xs bl p o hF hp
 unfold rNoneS at hF
 split at hF
 ·skip
  injection hF with hF; injection hF with e1 e2; subst e1; subst e2
  refine ⟨Nat.le_of_ble_eq_true (by kernel_rfl), fun X hX hfa => ⟨[], 999, ?_⟩⟩
  refine kto (q := some (Out.mk (AV.c ((CV.nat two256 0).pr ((CV.nat two256 0).pr ((CV.bool true).pr CV.nl)))) [] []) = some (Out.mk (AV.c (cvP (0, 0, true))) [] [])) (by kernel_rfl) ?_
  rfl
 ·cases hF
noncomputable def rBaseS : FSpec := fun xs bl => match xs, bl with
 | [], [] => some (none, ⟨.c (cvP (gX, gY, false)), [], []⟩)
 | _, _ => none
theorem rBase_ok : FnOk CX 13 rBaseS := by
 refine fnOkF hmo G10a_ok (fn := Tryz.f13) (c := bodyOf' Tryz.f13) (by kernel_rfl) (by kernel_rfl) (by kernel_rfl) ?_
 intro xs bl p o hF hp
 unfold rBaseS at hF
 split at hF
 ·skip
  injection hF with hF; injection hF with e1 e2; subst e1; subst e2
  refine ⟨Nat.le_of_ble_eq_true (by kernel_rfl), fun X hX hfa => ⟨[], 999, ?_⟩⟩
  refine kto (q := some (Out.mk (AV.c ((CV.nat two256 48439561293906451759052585252797914202762949526041747995844080717082404635286).pr ((CV.nat two256 36134250956749795798585127919587881956611106672985015071877198253568414405109).pr ((CV.bool false).pr CV.nl)))) [] []) = some (Out.mk (AV.c (cvP (gX, gY, false))) [] [])) (by kernel_rfl) ?_
  rfl
 ·cases hF
noncomputable def G10b : Tab := (101, lift [true] rModS) :: (70, lift [true, true] rAddS) :: (71, lift [true, true] rSubS) :: (72, lift [true, true] rMulS) :: (74, lift [] rBS) :: (55, lift [] rNoneS) :: (13, lift [] rBaseS) :: G10a
theorem G10b_ok : TabOk CX G10b := .cons (lift_ok rMod_ok _) <| .cons (lift_ok rAdd_ok _) <| .cons (lift_ok rSub_ok _) <| .cons (lift_ok rMul_ok _) <| .cons (lift_ok rB_ok _) <| .cons (lift_ok rNone_ok _) <| .cons (lift_ok rBase_ok _) G10a_ok
theorem below_modR {k : Int} (h : kB k) (x : Nat) : lless x (modR k) = fbelow k x := by
 rw [lless_eq, fbelow_eq]
 have e : modR k = pI k := by
  have h1 := h.1; have h2 := h.2
  have hk : k = 0 ∨ k = 1 ∨ k = 2 ∨ k = 3 := by omega
  rw [modR_eq]
  rcases hk with rfl | rfl | rfl | rfl <;> rfl
 rw [e]
noncomputable def rBelowS : FSpec := fun xs bl => match xs, bl with
 | [.c (.int .i64 k), .c (.nat mm1 x)], [] => bif Nat.beq mm1 two256 then some (some (kB k), ⟨.c (.bool (fbelow k x)), [], []⟩) else none
 | _, _ => none
theorem rBelow_ok : FnOk CX 63 rBelowS := by
 refine fnOkF hmo G10b_ok (fn := Tryz.f63) (c := bodyOf' Tryz.f63) (by kernel_rfl) (by kernel_rfl) (by kernel_rfl) ?_
 intro xs bl p o hF hp
 unfold rBelowS at hF
 split at hF
 ·rename_i k mm1 x
  obtain ⟨hg, hF⟩ := guard_some hF
  have hg0 := beqN hg
  subst hg0
  injection hF with hF; injection hF with e1 e2; subst e1; subst e2
  have hp : kB k := hp
  refine ⟨Nat.le_of_ble_eq_true (by kernel_rfl), fun X hX hfa => ⟨[], 999, ?_⟩⟩
  refine kto (q := some (Out.mk (AV.c (CV.bool (lless x (modR k)))) [] []) = some (Out.mk (AV.c (CV.bool (fbelow k x))) [] [])) (by kernel_rfl) ?_
  rw [below_modR hp]
 ·cases hF
def kT (n : Int) : Prop := 0 ≤ n ∧ n ≤ 100
noncomputable def timesF (x : Nat) : Nat → Nat
 | 0 => 0
 | n + 1 => fadd 0 (timesF x n) x
noncomputable def tiI (n : Int) (x : Nat) (i : Nat) : St :=
 ⟨[(0, .c (.int .i64 n)), (3, .ptr (.l 0) 0 4 0), (4, .ptr (.l 1) 0 4 0), (5, .ptr (.l 2) 0 4 0), (6, .c (.int .i64 (i : Nat)))], [(0, natB x), (1, natB 0), (2, natB (timesF x i))], 3, 16⟩
noncomputable def tiF (y : Nat) : St := ⟨[(4, .ptr (.l 0) 0 4 0), (5, .ptr (.l 1) 0 4 0)], [(0, natB 0), (1, natB y)], 2, 16⟩
theorem times_l0 {X : Snap} (hX : ∀ b L, X.ι b = some L → b < 0) (n : Int) (x : Nat) : LOk CX X 0 (loopAt 0 Tryz.f73) (loopW 0 [] [0, 3, 4, 5, 6] (tiI n x 0) (kT n) false (tiF (timesF x n.toNat))) := by
 refine loopW_ok hmo G10b_ok (by kernel_rfl) hX [4, 5] [] (tiI n x) (fun i => i ≤ n.toNat) (fun i => n.toNat - i) 0 (fun _ => rfl) (fun _ => by omega) ?_
 intro hp i hi hfa
 refine ⟨[], 999, ?_⟩
 refine kto (q := bif decide ((Nat.cast (R := Int) i) < n) then ∃ (v' : Nat), some (St.mk [(0, AV.c (CV.int IntKind.i64 n)), (3, AV.ptr (Base.l 0) 0 4 0), (4, AV.ptr (Base.l 1) 0 4 0), (5, AV.ptr (Base.l 2) 0 4 0), (6, AV.c (CV.int IntKind.i64 (IntKind.i64.wrap ((Nat.cast (R := Int) i) + 1))))] [(0, Blk'.cells 27 4 (Body.els [AV.c (CV.nat two256 x)])), (1, Blk'.cells 27 4 (Body.els [AV.c (CV.nat two256 0)])), (2, Blk'.cells 27 4 (Body.els [AV.c (CV.nat two256 (fadd 0 (timesF x i) x))]))] 3 16) = some (tiI n x v') ∧ n.toNat - v' < n.toNat - i ∧ v' ≤ n.toNat else false = false ∧ some (St.mk [(4, AV.ptr (Base.l 0) 0 4 0), (5, AV.ptr (Base.l 1) 0 4 0)] [(0, Blk'.cells 27 4 (Body.els [AV.c (CV.nat two256 0)])), (1, Blk'.cells 27 4 (Body.els [AV.c (CV.nat two256 (timesF x i))]))] 2 16) = some (tiF (timesF x n.toNat))) (by kernel_rfl) ?_
 have hi : i ≤ n.toNat := hi
 obtain ⟨hp1, hp2⟩ : 0 ≤ n ∧ n ≤ 100 := hp
 refine cond_intro (fun h => ?_) (fun h => ?_)
 ·simp at h
  have hm : n.toNat - (i + 1) < n.toNat - i ∧ i + 1 ≤ n.toNat := by omega
  have e13 : (i : Int) + 1 = ((i + 1 : Nat) : Int) := by omega
  have ew : IntKind.i64.wrap ((i : Int) + 1) = ((i + 1 : Nat) : Int) := by rw [wi (by omega), e13]
  rw [ew]
  exact ⟨i + 1, rfl, hm⟩
 ·simp at h
  have e : i = n.toNat := by omega
  subst e
  exact ⟨rfl, rfl⟩
noncomputable def rTimesS : FSpec := fun xs bl => match xs, bl with
 | [.c (.int .i64 n), .c (.nat mm1 x)], [] => bif Nat.beq mm1 two256 then some (some (kT n), ⟨.c (.nat two256 (timesF x n.toNat)), [], []⟩) else none
 | _, _ => none
theorem rTimes_ok : FnOk CX 73 rTimesS := by
 refine fnOkF hmo G10b_ok (fn := Tryz.f73) (c := bodyOf' Tryz.f73) (by kernel_rfl) (by kernel_rfl) (by kernel_rfl) ?_
 intro xs bl p o hF hp
 unfold rTimesS at hF
 split at hF
 ·rename_i n mm1 x
  obtain ⟨hg, hF⟩ := guard_some hF
  have hg0 := beqN hg
  subst hg0
  injection hF with hF; injection hF with e1 e2; subst e1; subst e2
  have hp : kT n := hp
  refine ⟨Nat.le_of_ble_eq_true (by kernel_rfl), fun X hX hfa => ⟨[(0, loopW 0 [] [0, 3, 4, 5, 6] (tiI n x 0) (kT n) false (tiF (timesF x n.toNat)))], 999, ?_⟩⟩
  refine kto (q := LOk CX X 0 (loopAt 0 Tryz.f73) (loopW 0 [] [0, 3, 4, 5, 6] (tiI n x 0) (kT n) false (tiF (timesF x n.toNat))) ∧ some (St.mk [(0, AV.c (CV.int IntKind.i64 n)), (3, AV.ptr (Base.l 0) 0 4 0), (4, AV.ptr (Base.l 1) 0 4 0), (5, AV.ptr (Base.l 2) 0 4 0), (6, AV.c (CV.int IntKind.i64 0))] [(0, Blk'.cells 27 4 (Body.els [AV.c (CV.nat two256 x)])), (1, Blk'.cells 27 4 (Body.els [AV.c (CV.nat two256 0)])), (2, Blk'.cells 27 4 (Body.els [AV.c (CV.nat two256 0)]))] 3 16) = some (tiI n x 0) ∧ kT n ∧ some (Out.mk (AV.c (CV.nat two256 (timesF x n.toNat))) [] []) = some (Out.mk (AV.c (CV.nat two256 (timesF x n.toNat))) [] [])) (by kernel_rfl) ?_
  exact ⟨times_l0 hX n x, by kernel_rfl, hp, rfl⟩
 ·cases hF
noncomputable def G10c : Tab := (63, lift [true, true] rBelowS) :: (73, lift [true, true] rTimesS) :: G10b
theorem G10c_ok : TabOk CX G10c := .cons (lift_ok rBelow_ok _) <| .cons (lift_ok rTimes_ok _) G10b_ok
theorem three_times (x : Nat) : fadd 0 (fadd 0 (fadd 0 0 x) x) x = fadd 0 x (fadd 0 x x) := by
 simp only [fadd_eq]
 generalize pI 0 = p
 simp only [Nat.zero_add, Nat.mod_add_mod, Nat.add_mod_mod, Nat.add_assoc]
theorem mulC (x y : Nat) : fmul 0 x y = fmul 0 y x := by rw [fmul_eq, fmul_eq, Nat.mul_comm]
noncomputable def rFormedS : FSpec := fun xs bl => match xs, bl with
 | [.c (.pr (.nat mm1 x) (.pr (.nat mm2 y) (.pr (.bool n) .nl)))], [] => bif Nat.beq mm1 two256 && Nat.beq mm2 two256 then some (none, ⟨.c (.bool (formedF x y n)), [], []⟩) else none
 | _, _ => none
theorem rFormed_ok : FnOk CX 35 rFormedS := by
 refine fnOkF hmo G10c_ok (fn := Tryz.f35) (c := bodyOf' Tryz.f35) (by kernel_rfl) (by kernel_rfl) (by kernel_rfl) ?_
 intro xs bl p o hF hp
 unfold rFormedS at hF
 split at hF
 ·rename_i mm1 x mm2 y n
  obtain ⟨hg, hF⟩ := guard_some hF
  simp only [Bool.and_eq_true] at hg
  have hg0 := beqN hg.1
  have hg1 := beqN hg.2
  subst hg0; subst hg1
  injection hF with hF; injection hF with e1 e2; subst e1; subst e2
  refine ⟨Nat.le_of_ble_eq_true (by kernel_rfl), fun X hX hfa => ⟨[], 999, ?_⟩⟩
  refine kto (q := bif n then some (Out.mk (AV.c (CV.bool (x.beq 0 && (y.beq 0 && n == true)))) [] []) = some (Out.mk (AV.c (CV.bool (formedF x y n))) [] []) else kB 0 ∧ bif !fbelow 0 x then some (Out.mk (AV.c (CV.bool false)) [] []) = some (Out.mk (AV.c (CV.bool (formedF x y n))) [] []) else kB 0 ∧ bif !fbelow 0 y then some (Out.mk (AV.c (CV.bool false)) [] []) = some (Out.mk (AV.c (CV.bool (formedF x y n))) [] []) else kT 3 ∧ some (Out.mk (AV.c (CV.bool ((fmul 0 y y).beq (fadd 0 (fsub 0 (fmul 0 x (fmul 0 x x)) (timesF x 3)) cvB)))) [] []) = some (Out.mk (AV.c (CV.bool (formedF x y n))) [] [])) (by kernel_rfl) ?_
  refine cond_intro (fun h => ?_) (fun h => ?_)
  ·subst h; simp [formedF]
  ·subst h
   refine ⟨kB0, cond_intro (fun h => ?_) (fun h => ⟨kB0, cond_intro (fun h2 => ?_) (fun h2 => ⟨⟨by omega, by omega⟩, ?_⟩)⟩)⟩
   ·simp at h; simp [formedF, onF, h]
   ·simp at h2; simp [formedF, onF, h2]
   ·simp at h h2
    have e : timesF x 3 = fadd 0 x (fadd 0 x x) := three_times x
    rw [e, mulC x (fmul 0 x x)]
    simp [formedF, onF, h, h2]
 ·cases hF
noncomputable def G10d : Tab := (35, lift [true] rFormedS) :: G10c
theorem G10d_ok : TabOk CX G10d := .cons (lift_ok rFormed_ok _) G10c_ok
noncomputable def rEncodeS : FSpec := fun xs bl => match xs, bl with
 | [.c (.pr (.nat mm1 x) (.pr (.nat mm2 y) (.pr (.bool n) .nl)))], [] => bif Nat.beq mm1 two256 && Nat.beq mm2 two256 then some (none, ⟨.own 0 1 (encF (x, y, n)).length, [], [byB (encF (x, y, n))]⟩) else none
 | _, _ => none
theorem rEncode_ok : FnOk CX 12 rEncodeS := by
 refine fnOkF hmo G10d_ok (fn := Tryz.f12) (c := bodyOf' Tryz.f12) (by kernel_rfl) (by kernel_rfl) (by kernel_rfl) ?_
 intro xs bl p o hF hp
 unfold rEncodeS at hF
 split at hF
 ·rename_i mm1 x mm2 y n
  obtain ⟨hg, hF⟩ := guard_some hF
  simp only [Bool.and_eq_true] at hg
  have hg0 := beqN hg.1
  have hg1 := beqN hg.2
  subst hg0; subst hg1
  injection hF with hF; injection hF with e1 e2; subst e1; subst e2
  refine ⟨Nat.le_of_ble_eq_true (by kernel_rfl), fun X hX hfa => ⟨[], 999, ?_⟩⟩
  refine kto (q := bif n then some (Out.mk (AV.own 0 1 1) [] [Blk'.cells 5 1 (Body.ints IntKind.u8 [0])]) = some (Out.mk (AV.own 0 1 (encF (x, y, n)).length) [] [byB (encF (x, y, n))]) else bif !formedF x y n then some (Out.mk (AV.own 0 1 1) [] [Blk'.cells 5 1 (Body.ints IntKind.u8 [0])]) = some (Out.mk (AV.own 0 1 (encF (x, y, n)).length) [] [byB (encF (x, y, n))]) else some (Out.mk (AV.own 0 1 65) [] [Blk'.cells 5 1 (Body.ints IntKind.u8 ([4] ++ beL x ++ beL y))]) = some (Out.mk (AV.own 0 1 (encF (x, y, n)).length) [] [byB (encF (x, y, n))])) (by kernel_rfl) ?_
  refine cond_intro (fun h => ?_) (fun h => cond_intro (fun h2 => ?_) (fun h2 => ?_))
  ·subst h; simp [encF, byB]
  ·subst h; simp [formedF] at h2; simp [encF, byB, h2]
  ·subst h; simp [formedF] at h2
   have e : encF (x, y, false) = encP (x, y, false) := by simp [encF, h2]
   have el : (encP (x, y, false)).length = 65 := by simp [encP, beL_len]
   rw [e, el]; rfl
 ·cases hF
noncomputable def rDecodeS : FSpec := fun xs bl => match xs, bl with
 | [.c (.ints .u8 l)], [] => some (none, ⟨.t2 (.c (cvP (decF l).1)) (.c (.bool (decF l).2)), [], []⟩)
 | _, _ => none
theorem rDecode_ok : FnOk CX 24 rDecodeS := by
 refine fnOkF hmo G10d_ok (fn := Tryz.f24) (c := bodyOf' Tryz.f24) (by kernel_rfl) (by kernel_rfl) (by kernel_rfl) ?_
 intro xs bl p o hF hp
 unfold rDecodeS at hF
 split at hF
 ·rename_i l
  injection hF with hF; injection hF with e1 e2; subst e1; subst e2
  refine ⟨Nat.le_of_ble_eq_true (by kernel_rfl), fun X hX hfa => ⟨[], 999, ?_⟩⟩
  refine kto (q := bif (Nat.cast (R := Int) l.length) == 1 then bif decide (0 < (Nat.cast (R := Int) l.length)) then bif l.getD 0 0 == 0 then some (Out.mk ((AV.c ((CV.nat two256 0).pr ((CV.nat two256 0).pr ((CV.bool true).pr CV.nl)))).t2 (AV.c (CV.bool true))) [] []) = some (Out.mk ((AV.c (cvP (decF l).fst)).t2 (AV.c (CV.bool (decF l).snd))) [] []) else bif (Nat.cast (R := Int) l.length) != 65 then some (Out.mk ((AV.c ((CV.nat two256 0).pr ((CV.nat two256 0).pr ((CV.bool true).pr CV.nl)))).t2 (AV.c (CV.bool false))) [] []) = some (Out.mk ((AV.c (cvP (decF l).fst)).t2 (AV.c (CV.bool (decF l).snd))) [] []) else bif bndB l.length (some 1) (some 33) then (List.take 32 (List.drop 1 l)).length = 32 ∧ bif bndB l.length (some 33) (some 65) then (List.take 32 (List.drop 33 l)).length = 32 ∧ bif decide (0 < (Nat.cast (R := Int) l.length)) then bif l.getD 0 0 != 4 then some (Out.mk ((AV.c ((CV.nat two256 0).pr ((CV.nat two256 0).pr ((CV.bool true).pr CV.nl)))).t2 (AV.c (CV.bool false))) [] []) = some (Out.mk ((AV.c (cvP (decF l).fst)).t2 (AV.c (CV.bool (decF l).snd))) [] []) else bif !formedF (beW (List.take 32 (List.drop 1 l))) (beW (List.take 32 (List.drop 33 l))) false then some (Out.mk ((AV.c ((CV.nat two256 0).pr ((CV.nat two256 0).pr ((CV.bool true).pr CV.nl)))).t2 (AV.c (CV.bool false))) [] []) = some (Out.mk ((AV.c (cvP (decF l).fst)).t2 (AV.c (CV.bool (decF l).snd))) [] []) else some (Out.mk ((AV.c ((CV.nat two256 (beW (List.take 32 (List.drop 1 l)))).pr ((CV.nat two256 (beW (List.take 32 (List.drop 33 l)))).pr ((CV.bool false).pr CV.nl)))).t2 (AV.c (CV.bool true))) [] []) = some (Out.mk ((AV.c (cvP (decF l).fst)).t2 (AV.c (CV.bool (decF l).snd))) [] []) else False else False else False else False else bif (Nat.cast (R := Int) l.length) != 65 then some (Out.mk ((AV.c ((CV.nat two256 0).pr ((CV.nat two256 0).pr ((CV.bool true).pr CV.nl)))).t2 (AV.c (CV.bool false))) [] []) = some (Out.mk ((AV.c (cvP (decF l).fst)).t2 (AV.c (CV.bool (decF l).snd))) [] []) else bif bndB l.length (some 1) (some 33) then (List.take 32 (List.drop 1 l)).length = 32 ∧ bif bndB l.length (some 33) (some 65) then (List.take 32 (List.drop 33 l)).length = 32 ∧ bif decide (0 < (Nat.cast (R := Int) l.length)) then bif l.getD 0 0 != 4 then some (Out.mk ((AV.c ((CV.nat two256 0).pr ((CV.nat two256 0).pr ((CV.bool true).pr CV.nl)))).t2 (AV.c (CV.bool false))) [] []) = some (Out.mk ((AV.c (cvP (decF l).fst)).t2 (AV.c (CV.bool (decF l).snd))) [] []) else bif !formedF (beW (List.take 32 (List.drop 1 l))) (beW (List.take 32 (List.drop 33 l))) false then some (Out.mk ((AV.c ((CV.nat two256 0).pr ((CV.nat two256 0).pr ((CV.bool true).pr CV.nl)))).t2 (AV.c (CV.bool false))) [] []) = some (Out.mk ((AV.c (cvP (decF l).fst)).t2 (AV.c (CV.bool (decF l).snd))) [] []) else some (Out.mk ((AV.c ((CV.nat two256 (beW (List.take 32 (List.drop 1 l)))).pr ((CV.nat two256 (beW (List.take 32 (List.drop 33 l)))).pr ((CV.bool false).pr CV.nl)))).t2 (AV.c (CV.bool true))) [] []) = some (Out.mk ((AV.c (cvP (decF l).fst)).t2 (AV.c (CV.bool (decF l).snd))) [] []) else False else False else False) (by kernel_rfl) ?_
  simp only [bndB]
  refine cond_intro (fun h1 => ?_) (fun h1 => ?_)
  ·simp at h1
   have h1 : l.length = 1 := by omega
   refine cond_at (by simp; omega) (cond_intro (fun h0 => ?_) (fun h0 => ?_))
   ·have e : decF l = ((0, 0, true), true) := by unfold decF; rw [h0, h1]; rfl
    rw [e]; rfl
   ·refine cond_at (by simp; omega) ?_
    have e : decF l = ((0, 0, true), false) := by unfold decF; rw [h0, h1]; rfl
    rw [e]; rfl
  ·simp at h1
   have h1 : (l.length == 1) = false := by simp; omega
   refine cond_intro (fun h65 => ?_) (fun h65 => ?_)
   ·simp at h65
    have h65 : (l.length == 65) = false := by simp; omega
    have e : decF l = ((0, 0, true), false) := by unfold decF; rw [h65, h1]; rfl
    rw [e]; rfl
   ·simp at h65
    have h65 : l.length = 65 := by omega
    refine cond_at (by simp [loB, hiB]; omega) ⟨by simp; omega, cond_at (by simp [loB, hiB]; omega) ⟨by simp; omega, cond_at (by simp; omega) ?_⟩⟩
    rw [List.take_of_length_le (l := List.drop 33 l) (by simp; omega)]
    refine cond_intro (fun h4 => ?_) (fun h4 => ?_)
    ·have h4 : (l.getD 0 0 == 4) = false := by simpa using h4
     have e : decF l = ((0, 0, true), false) := by unfold decF; rw [h65, h4]; rfl
     rw [e]; rfl
    ·have h4 : (l.getD 0 0 == 4) = true := by simpa using h4
     refine cond_intro (fun h => ?_) (fun h => ?_)
     ·have h : onF (beW (List.take 32 (List.drop 1 l))) (beW (List.drop 33 l)) = false := by simpa [formedF] using h
      have e : decF l = ((0, 0, true), false) := by unfold decF; rw [h65, h4, h]; rfl
      rw [e]; rfl
     ·have h : onF (beW (List.take 32 (List.drop 1 l))) (beW (List.drop 33 l)) = true := by simpa [formedF] using h
      have e : decF l = ((beW ((l.drop 1).take 32), beW (l.drop 33), false), true) := by unfold decF; rw [h65, h4, h]; rfl
      rw [e]; rfl
 ·cases hF
end Go.Proofs.YtdcganigfihkjaaGreatDoor
/- What p256 computes at numbers that are known: forms that the kernel evaluates. -/
namespace Go.Proofs.YtdcganigfihkjaaGreatDoor
open Go Go.Ab Go.RowKit Go.Chr
set_option maxRecDepth 100000
theorem natOf_mod {l : List Int} (hl : l.length = 4) (hr : ∀ x ∈ l, okI .u64 x) {z : Nat} (h : l = natL z) : natOf l = z % two256 := by
 obtain ⟨h1, h2⟩ := natOf_rel hl hr
 have hm : z % two256 < two256 := Nat.mod_lt _ (by decide)
 have e : natL (natOf l) = natL (z % two256) := by
  rw [h2, h]; unfold natL two256
  rw [lb_modK z (i := 0) (by omega), lb_modK z (i := 1) (by omega), lb_modK z (i := 2) (by omega), lb_modK z (i := 3) (by omega)]
 have := natL_inj h1 hm
 rw [e] at this
 simp at this
 exact this
def powC (m : Nat) : Nat → Nat → Nat → Nat
 | 0, _, _ => 1 % m
 | f + 1, b, e => bif Nat.beq (e % 2) 1 then b * powC m f (b * b % m) (e / 2) % m else powC m f (b * b % m) (e / 2)
theorem powC_eq (m : Nat) : ∀ f b e, e < 2 ^ f → powC m f b e = b ^ e % m := by
  intro f
  induction f with
  | zero => intro b e h; have : e = 0 := by simpa using h
            subst this; simp [powC]
  | succ f ih =>
    intro b e h
    have he : e / 2 < 2 ^ f := by rw [Nat.pow_succ] at h; omega
    have h2 : (b * b % m) ^ (e / 2) % m = b ^ (2 * (e / 2)) % m := by
      rw [← Nat.pow_mod, Nat.pow_mul]; congr 2; exact (Nat.pow_two b).symm
    simp only [powC]
    rw [ih _ _ he, h2]
    by_cases ho : e % 2 = 1
    · have e2 : e = 2 * (e / 2) + 1 := by omega
      rw [ho]
      conv => rhs; rw [e2, Nat.pow_succ, Nat.mul_comm]
      show b * (b ^ (2 * (e / 2)) % m) % m = _
      rw [Nat.mul_mod, Nat.mod_mod, ← Nat.mul_mod]
    · have e0 : e % 2 = 0 := by omega
      have e2 : e = 2 * (e / 2) := by omega
      rw [e0]
      show b ^ (2 * (e / 2)) % m = _
      rw [← e2]
def mC (x y : Nat) : Nat := x * y % 115792089210356248762697446949407573530086143415290314195533631308867097853951
def aC (x y : Nat) : Nat := (x + y) % 115792089210356248762697446949407573530086143415290314195533631308867097853951
def sC (x y : Nat) : Nat := subM 115792089210356248762697446949407573530086143415290314195533631308867097853951 x y
theorem mC_eq : fmul 0 = mC := by funext x y; rw [fmul_eq]; rfl
theorem aC_eq : fadd 0 = aC := by funext x y; rw [fadd_eq]; rfl
theorem sC_eq : fsub 0 = sC := by funext x y; rw [fsub_eq]; rfl
def iC (x : Nat) : Nat := powC 115792089210356248762697446949407573530086143415290314195533631308867097853951 256 x 115792089210356248762697446949407573530086143415290314195533631308867097853949
theorem iC_eq : finv 0 = iC := by
 funext x
 rw [finv_eq]
 unfold iC invI
 have e1 : pI 0 - 2 = 115792089210356248762697446949407573530086143415290314195533631308867097853949 := by kernel_rfl
 have e2 : pI 0 = 115792089210356248762697446949407573530086143415290314195533631308867097853951 := by kernel_rfl
 rw [powC_eq _ _ _ _ (Nat.le_of_ble_eq_true (by kernel_rfl)), e1, e2]
def plsC (p q : T3) : T3 :=
 let mul := mC
 let add := aC
 let sub := sC
 let t0 := mul p.1 q.1
 let t1 := mul p.2.1 q.2.1
 let t2 := mul p.2.2 q.2.2
 let t3 := sub (mul (add p.1 p.2.1) (add q.1 q.2.1)) (add t0 t1)
 let t4 := sub (mul (add p.2.1 p.2.2) (add q.2.1 q.2.2)) (add t1 t2)
 let y := sub (mul (add p.1 p.2.2) (add q.1 q.2.2)) (add t0 t2)
 let x := sub y (mul cvB t2)
 let x := add x (add x x)
 let z := sub t1 x
 let x := add t1 x
 let t2 := add t2 (add t2 t2)
 let y := sub (sub (mul cvB y) t2) t0
 let y := add y (add y y)
 let t0 := sub (add t0 (add t0 t0)) t2
 (sub (mul t3 x) (mul t4 y), add (mul x z) (mul t0 y), add (mul t4 z) (mul t3 t0))
theorem plsC_eq : plsF = plsC := by
 funext p q
 unfold plsF
 rw [mC_eq, aC_eq, sC_eq]
 rfl
def stC (u v : Nat) (P Q : T3) (i : Nat) (o : T3) : T3 :=
 bif Nat.beq (u / 2 ^ i % 2) 0 then (bif Nat.beq (v / 2 ^ i % 2) 0 then plsC o o else plsC (plsC o o) Q) else (bif Nat.beq (v / 2 ^ i % 2) 0 then plsC (plsC o o) P else plsC (plsC o o) (plsC P Q))
theorem stC_eq (u v : Nat) (P Q : T3) (i : Nat) (o : T3) : stepF u v P Q i o = stC u v P Q i o := by
 unfold stepF stC pickF
 rw [bitI_eq, bitI_eq, plsC_eq, Int.toNat_natCast]
 have h1 : u / 2 ^ i % 2 = 0 ∨ u / 2 ^ i % 2 = 1 := by omega
 have h2 : v / 2 ^ i % 2 = 0 ∨ v / 2 ^ i % 2 = 1 := by omega
 rcases h1 with h1 | h1 <;> rcases h2 with h2 | h2 <;> rw [h1, h2] <;> rfl
def boC (u v : Nat) (P Q : T3) : Nat → T3
 | 0 => (0, 1, 0)
 | n + 1 => stC u v P Q (255 - n) (boC u v P Q n)
theorem boC_eq (u v : Nat) (P Q : T3) (n : Nat) : bothF u v P Q n = boC u v P Q n := by
 induction n with
 | zero => rfl
 | succ n ih =>
  show stepF u v P Q (255 - n) (bothF u v P Q n) = _
  rw [ih, stC_eq]; rfl
def onC (x y : Nat) : Bool := (Nat.blt x 115792089210356248762697446949407573530086143415290314195533631308867097853951 && Nat.blt y 115792089210356248762697446949407573530086143415290314195533631308867097853951) && Nat.beq (mC y y) (aC (sC (mC (mC x x) x) (aC x (aC x x))) cvB)
theorem onC_eq (x y : Nat) : onF x y = onC x y := by
 unfold onF onC
 rw [mC_eq, aC_eq, sC_eq, fbelow_eq, fbelow_eq, blt_dec, blt_dec]
 rfl
def drC (t : T3) : PtN := bif Nat.beq t.2.2 0 then (0, 0, true) else (mC t.1 (iC t.2.2), mC t.2.1 (iC t.2.2), false)
theorem drC_eq (t : T3) : dropF t = drC t := by
 unfold dropF drC
 rw [mC_eq, iC_eq]
theorem onG : onF gX gY = true := by rw [onC_eq]; kernel_rfl
theorem liftG : liftF gX gY false = (gX, gY, 1) := by unfold liftF; rw [onG]; rfl
theorem one_base : bothP 1 gPt 0 gPt = gPt := by
 unfold bothP
 show dropF (bothF 1 0 (liftF gX gY false) (liftF gX gY false) 256) = gPt
 rw [liftG, boC_eq, drC_eq]
 have h : (Nat.beq (drC (boC 1 0 (gX, gY, 1) (gX, gY, 1) 256)).1 gX && Nat.beq (drC (boC 1 0 (gX, gY, 1) (gX, gY, 1) 256)).2.1 gY && !(drC (boC 1 0 (gX, gY, 1) (gX, gY, 1) 256)).2.2) = true := by kernel_rfl
 generalize drC (boC 1 0 (gX, gY, 1) (gX, gY, 1) 256) = r at h ⊢
 simp only [Bool.and_eq_true, Bool.not_eq_true', Nat.beq_eq] at h
 obtain ⟨⟨h1, h2⟩, h3⟩ := h
 obtain ⟨a, b, c⟩ := r
 simp only at h1 h2 h3
 subst h1; subst h2; subst h3; rfl
theorem within_one : withinF 1 = true := by
 unfold withinF
 rw [fbelow_eq]
 have h : Nat.blt 1 (pI 1) = true := by kernel_rfl
 rw [blt_dec] at h
 rw [h]; rfl
theorem pub_one : pubF 1 = encF gPt := by
 unfold pubF; rw [within_one, one_base]; rfl
end Go.Proofs.YtdcganigfihkjaaGreatDoor
/- The law's awake. -/
namespace Go.Proofs.YtdcganigfihkjaaGreatDoor
open Go Go.Ab Go.RowKit Go.Chr
set_option maxRecDepth 100000
noncomputable def G11a : Tab := (12, lift [true] rEncodeS) :: (24, lift [true] rDecodeS) :: G10d
theorem G11a_ok : TabOk CX G11a := .cons (lift_ok rEncode_ok _) <| .cons (lift_ok rDecode_ok _) G10d_ok
theorem encF_len (p : PtN) : (encF p).length ≤ 65 := by
 unfold encF
 cases p.2.2 || !onF p.1 p.2.1 with
 | true => simp
 | false => simp [encP, beL_len]
noncomputable def awakeS : FSpec := fun xs bl => match xs, bl with
 | [], [] => some (none, ⟨.c (.bool true), [], []⟩)
 | _, _ => none
theorem awake_ok : FnOk CX 5 awakeS := by
 refine fnOkF hmo G11a_ok (fn := Tryz.f5) (c := bodyOf' Tryz.f5) (by kernel_rfl) (by kernel_rfl) (by kernel_rfl) ?_
 intro xs bl p o hF hp
 unfold awakeS at hF
 split at hF
 ·skip
  injection hF with hF; injection hF with e1 e2; subst e1; subst e2
  refine ⟨Nat.le_of_ble_eq_true (by kernel_rfl), fun X hX hfa => ⟨[], 999, ?_⟩⟩
  refine kto (q := bif withinF 1 then ((pubF 1).length ≤ 1000000000 ∧ (encF (gX, 36134250956749795798585127919587881956611106672985015071877198253568414405109, false)).length ≤ 1000000000) ∧ some (Out.mk (AV.c (CV.bool (sameB (pubF 1) (encF (gX, 36134250956749795798585127919587881956611106672985015071877198253568414405109, false))))) [] []) = some (Out.mk (AV.c (CV.bool true)) [] []) else some (Out.mk (AV.c (CV.bool false)) [] []) = some (Out.mk (AV.c (CV.bool true)) [] [])) (by kernel_rfl) ?_
  have e : encF (gX, 36134250956749795798585127919587881956611106672985015071877198253568414405109, false) = pubF 1 := pub_one.symm
  rw [e]
  have hl : (pubF 1).length ≤ 1000000000 := by rw [pub_one]; have := encF_len gPt; omega
  exact cond_at within_one ⟨⟨hl, hl⟩, by rw [sameB_eq]; simp⟩
 ·cases hF
theorem signF_len (d : Nat) (m : List Int) : (signF d m).length ≤ 72 := by
 unfold signF
 cases withinF d with
 | false => simp
 | true =>
  show (sigL d (numF m) (noncesF d m)).length ≤ 72
  unfold sigL
  cases sigAt d (numF m) (noncesF d m) with
  | none => simp
  | some k => exact (derE_len _ _ (beL_ne _) (beL_ne _) (beL_len _) (beL_len _)).2
end Go.Proofs.YtdcganigfihkjaaGreatDoor
