import Derived.Test.YtdcganigfihkjaaGreatDoorM13
import Derived.Test.YtdcganigfihkjaaGreatDoorM6
import Derived.Test.YtdcganigfihkjaaGreatDoorM7
/- The reference ref05 (SHA-256). -/
namespace Go.Proofs.YtdcganigfihkjaaGreatDoor
open Go Go.Ab Go.RowKit Go.Chr
set_option maxRecDepth 100000
noncomputable def rTurnedS : FSpec := fun xs bl => match xs, bl with
 | [.c (.int .u32 x), .c (.int .u32 n)], [] => some (none, ⟨.c (.int .u32 (turn32 x n)), [], []⟩)
 | _, _ => none
theorem rTurned_ok : FnOk CX 126 rTurnedS := by
 refine fnOkF hmo G11a_ok (fn := Tryz.f126) (c := bodyOf' Tryz.f126) (by kernel_rfl) (by kernel_rfl) (by kernel_rfl) ?_
 intro xs bl p o hF hp
 unfold rTurnedS at hF
 split at hF
 ·rename_i x n
  injection hF with hF; injection hF with e1 e2; subst e1; subst e2
  refine ⟨Nat.le_of_ble_eq_true (by kernel_rfl), fun X hX hfa => ⟨[], 999, ?_⟩⟩
  refine kto (q := some (Out.mk (AV.c (CV.int IntKind.u32 (ior IntKind.u32 (ishr IntKind.u32 x n) (ishl IntKind.u32 x (IntKind.u32.wrap (32 - n)))))) [] []) = some (Out.mk (AV.c (CV.int IntKind.u32 (turn32 x n))) [] [])) (by kernel_rfl) ?_
  rfl
 ·cases hF
noncomputable def rStartS : FSpec := fun xs bl => match xs, bl with
 | [], [] => some (none, ⟨.c (.arr .u32 8 shaH), [], []⟩)
 | _, _ => none
theorem rStart_ok : FnOk CX 115 rStartS := by
 refine fnOkF hmo G11a_ok (fn := Tryz.f115) (c := bodyOf' Tryz.f115) (by kernel_rfl) (by kernel_rfl) (by kernel_rfl) ?_
 intro xs bl p o hF hp
 unfold rStartS at hF
 split at hF
 ·skip
  injection hF with hF; injection hF with e1 e2; subst e1; subst e2
  refine ⟨Nat.le_of_ble_eq_true (by kernel_rfl), fun X hX hfa => ⟨[], 999, ?_⟩⟩
  refine kto (q := some (Out.mk (AV.c (CV.arr IntKind.u32 8 (((((((((List.replicate 8 0).set 0 1779033703).set 1 3144134277).set 2 1013904242).set 3 2773480762).set 4 1359893119).set 5 2600822924).set 6 528734635).set 7 1541459225))) [] []) = some (Out.mk (AV.c (CV.arr IntKind.u32 8 shaH)) [] [])) (by kernel_rfl) ?_
  rfl
 ·cases hF
noncomputable def rKS : FSpec := fun xs bl => match xs, bl with
 | [], [] => some (none, ⟨.c (.arr .u32 64 shaK), [], []⟩)
 | _, _ => none
theorem rK_ok : FnOk CX 125 rKS := by
 refine fnOkF hmo G11a_ok (fn := Tryz.f125) (c := bodyOf' Tryz.f125) (by kernel_rfl) (by kernel_rfl) (by kernel_rfl) ?_
 intro xs bl p o hF hp
 unfold rKS at hF
 split at hF
 ·skip
  injection hF with hF; injection hF with e1 e2; subst e1; subst e2
  refine ⟨Nat.le_of_ble_eq_true (by kernel_rfl), fun X hX hfa => ⟨[], 999, ?_⟩⟩
  exact kto (q := some (Out.mk (.c (.arr .u32 64 shaK)) [] []) = some (Out.mk (.c (.arr .u32 64 shaK)) [] [])) (by kernel_rfl) rfl
 ·cases hF
noncomputable def G15a : Tab := (126, lift [true, true] rTurnedS) :: (115, lift [] rStartS) :: (125, lift [] rKS) :: G11a
theorem G15a_ok : TabOk CX G15a := .cons (lift_ok rTurned_ok _) <| .cons (lift_ok rStart_ok _) <| .cons (lift_ok rK_ok _) G11a_ok
def w64 (ws : List Int) : Blk' := .cells 135 64 (.els [.c (.arr .u32 64 ws)])
def wdI (ls : List (Nat × AV)) (ws : List Int) : St := ⟨(2, .ptr (.l 0) 0 64 0) :: (3, .ptr (.l 1) 0 64 0) :: ls, [(0, w64 (List.replicate 64 0)), (1, w64 ws)], 2, 78⟩
def wdJ (l : List Int) (t i : Nat) : St := wdI [(0, .c (.ints .u8 l)), (4, .c (.int .i64 t)), (5, .c (.int .i64 i))] ((ws0 l t).set t (pwd l t i))
def wdK (l : List Int) (t : Nat) : St := wdI [(0, .c (.ints .u8 l)), (4, .c (.int .i64 t))] ((ws0 l t).set t (pwd l t 4))
theorem words_l2 {X : Snap} (hX : ∀ b L, X.ι b = some L → b < 0) (l : List Int) (t : Nat) : LOk CX X 2 (loopAt 2 Tryz.f124) (loopW 0 [] [2, 3, 0, 4, 5] (wdJ l t 0) (l.length = 64 ∧ t < 16) false (wdK l t)) := by
 refine loopW_ok hmo G15a_ok (by kernel_rfl) hX [2, 3, 0, 4] [] (wdJ l t) (fun i => i ≤ 4) (fun i => 4 - i) 0 (fun _ => rfl) (fun _ => by omega) ?_
 intro hp i hi hfa
 refine ⟨[], 999, ?_⟩
 refine kto (q := bif decide ((Nat.cast (R := Int) i) < 4) then bif decide ((Nat.cast (R := Int) t) < (Nat.cast (R := Int) 64)) then bif decide (0 ≤ IntKind.i64.wrap (IntKind.i64.wrap (4 * (Nat.cast (R := Int) t)) + (Nat.cast (R := Int) i))) && decide (IntKind.i64.wrap (IntKind.i64.wrap (4 * (Nat.cast (R := Int) t)) + (Nat.cast (R := Int) i)) < (Nat.cast (R := Int) l.length)) then bif decide ((Nat.cast (R := Int) t) < (Nat.cast (R := Int) 64)) then ∃ (v' : Nat), some (St.mk [(2, AV.ptr (Base.l 0) 0 64 0), (3, AV.ptr (Base.l 1) 0 64 0), (0, AV.c (CV.ints IntKind.u8 l)), (4, AV.c (CV.int IntKind.i64 (Nat.cast (R := Int) t))), (5, AV.c (CV.int IntKind.i64 (IntKind.i64.wrap ((Nat.cast (R := Int) i) + 1))))] [(0, Blk'.cells 135 64 (Body.els [AV.c (CV.arr IntKind.u32 64 (List.replicate 64 0))])), (1, Blk'.cells 135 64 (Body.els [AV.c (CV.arr IntKind.u32 64 (((ws0 l t).set t (pwd l t i)).set (0 + (Nat.cast (R := Int) t).toNat * 1) (IntKind.u32.wrap (IntKind.u32.wrap (((ws0 l t).set t (pwd l t i)).getD (0 + (Nat.cast (R := Int) t).toNat * 1) 0 * 256) + IntKind.u32.wrap (l.getD (IntKind.i64.wrap (IntKind.i64.wrap (4 * (Nat.cast (R := Int) t)) + (Nat.cast (R := Int) i))).toNat 0)))))]))] 2 78) = some (wdJ l t v') ∧ 4 - v' < 4 - i ∧ v' ≤ 4 else False else False else False else false = false ∧ some (St.mk [(2, AV.ptr (Base.l 0) 0 64 0), (3, AV.ptr (Base.l 1) 0 64 0), (0, AV.c (CV.ints IntKind.u8 l)), (4, AV.c (CV.int IntKind.i64 (Nat.cast (R := Int) t)))] [(0, Blk'.cells 135 64 (Body.els [AV.c (CV.arr IntKind.u32 64 (List.replicate 64 0))])), (1, Blk'.cells 135 64 (Body.els [AV.c (CV.arr IntKind.u32 64 ((ws0 l t).set t (pwd l t i)))]))] 2 78) = some (wdK l t)) (by kernel_rfl) ?_
 obtain ⟨hl, ht⟩ : l.length = 64 ∧ t < 16 := hp
 have hw := ws0_len l t
 simp (disch := omega) only [wi, Nat.mul_one, Nat.zero_add, Int.toNat_natCast]
 refine cond_intro (fun h => ?_) (fun h => ?_)
 ·simp at h
  refine cond_at (by simp; omega) <| cond_at (by simp; omega) <| cond_at (by simp; omega) ⟨i + 1, ?_, by omega, by omega⟩
  have e1 : (4 * (t : Int) + (i : Int)).toNat = 4 * t + i := by omega
  rw [e1, getD_set (by omega), List.set_set]
  rfl
 ·simp at h
  have e : i = 4 := by omega
  subst e; exact ⟨by simp, by kernel_rfl⟩
theorem words_l0 {X : Snap} (hX : ∀ b L, X.ι b = some L → b < 0) (l : List Int) : LOk CX X 0 (loopAt 0 Tryz.f124) (loopW 0 [] [2, 3, 0, 4] (wdI [(0, .c (.ints .u8 l)), (4, .c (.int .i64 0))] (ws0 l 0)) (l.length = 64) false (wdI [] (ws0 l 16))) := by
 refine loopW_ok hmo G15a_ok (by kernel_rfl) hX [2, 3] [] (fun t : Nat => wdI [(0, .c (.ints .u8 l)), (4, .c (.int .i64 t))] (ws0 l t)) (fun t => t ≤ 16) (fun t => 16 - t) 0 (fun _ => rfl) (fun _ => by omega) ?_
 intro hp t ht hfa
 refine ⟨[(2, loopW 0 [] [2, 3, 0, 4, 5] (wdJ l t 0) (l.length = 64 ∧ t < 16) false (wdK l t))], 999, ?_⟩
 refine kto (q := bif decide ((Nat.cast (R := Int) t) < 16) then LOk CX X 2 (loopAt 2 Tryz.f124) (loopW 0 [] [2, 3, 0, 4, 5] (wdJ l t 0) (l.length = 64 ∧ t < 16) false (wdK l t)) ∧ some (St.mk [(2, AV.ptr (Base.l 0) 0 64 0), (3, AV.ptr (Base.l 1) 0 64 0), (0, AV.c (CV.ints IntKind.u8 l)), (4, AV.c (CV.int IntKind.i64 (Nat.cast (R := Int) t))), (5, AV.c (CV.int IntKind.i64 0))] [(0, Blk'.cells 135 64 (Body.els [AV.c (CV.arr IntKind.u32 64 (List.replicate 64 0))])), (1, Blk'.cells 135 64 (Body.els [AV.c (CV.arr IntKind.u32 64 (ws0 l t))]))] 2 78) = some (wdJ l t 0) ∧ (l.length = 64 ∧ t < 16) ∧ ∃ (v' : Nat), some (St.mk [(2, AV.ptr (Base.l 0) 0 64 0), (3, AV.ptr (Base.l 1) 0 64 0), (0, AV.c (CV.ints IntKind.u8 l)), (4, AV.c (CV.int IntKind.i64 (IntKind.i64.wrap ((Nat.cast (R := Int) t) + 1))))] [(0, Blk'.cells 135 64 (Body.els [AV.c (CV.arr IntKind.u32 64 (List.replicate 64 0))])), (1, Blk'.cells 135 64 (Body.els [AV.c (CV.arr IntKind.u32 64 ((ws0 l t).set t (pwd l t 4)))]))] 2 78) = some (wdI [(0, AV.c (CV.ints IntKind.u8 l)), (4, AV.c (CV.int IntKind.i64 (Nat.cast (R := Int) v')))] (ws0 l v')) ∧ 16 - v' < 16 - t ∧ v' ≤ 16 else false = false ∧ some (St.mk [(2, AV.ptr (Base.l 0) 0 64 0), (3, AV.ptr (Base.l 1) 0 64 0)] [(0, Blk'.cells 135 64 (Body.els [AV.c (CV.arr IntKind.u32 64 (List.replicate 64 0))])), (1, Blk'.cells 135 64 (Body.els [AV.c (CV.arr IntKind.u32 64 (ws0 l t))]))] 2 78) = some (wdI [] (ws0 l 16))) (by kernel_rfl) ?_
 have hp : l.length = 64 := hp
 have hw := ws0_len l t
 have hb : ∀ x ∈ l, okI .u8 x := (hfa.sl 0 _ rfl).1
 simp (disch := omega) only [wi]
 refine cond_intro (fun h => ?_) (fun h => ?_)
 ·simp at h
  refine ⟨words_l2 hX l t, ?_, ⟨hp, by omega⟩, t + 1, ?_, by omega, by omega⟩
  ·have e : (ws0 l t).set t 0 = ws0 l t := set_same (by omega) (ws0_at l t t (Nat.le_refl _) (by omega))
   have e2 : wdJ l t 0 = wdI [(0, .c (.ints .u8 l)), (4, .c (.int .i64 t)), (5, .c (.int .i64 0))] ((ws0 l t).set t 0) := rfl
   rw [e2, e]; rfl
  ·rw [pwd_word hb t]; rfl
 ·simp at h
  have e : t = 16 := by omega
  subst e; exact ⟨by simp, by kernel_rfl⟩
theorem words_l4 {X : Snap} (hX : ∀ b L, X.ι b = some L → b < 0) (l : List Int) : LOk CX X 4 (loopAt 4 Tryz.f124) (loopW 0 [] [2, 3, 6] (wdI [(6, .c (.int .i64 16))] (wsN l 0)) True false (wdI [] (wsN l 48))) := by
 refine loopW_ok hmo G15a_ok (by kernel_rfl) hX [2, 3] [] (fun t : Nat => wdI [(6, .c (.int .i64 ((16 + t : Nat) : Int)))] (wsN l t)) (fun t => t ≤ 48) (fun t => 48 - t) 0 (fun _ => rfl) (fun _ => by omega) ?_
 intro hp t ht hfa
 refine ⟨[], 999, ?_⟩
 refine kto (q := bif decide ((Nat.cast (R := Int) (16 + t)) < 64) then bif decide (0 ≤ IntKind.i64.wrap ((Nat.cast (R := Int) (16 + t)) - 15)) && decide (IntKind.i64.wrap ((Nat.cast (R := Int) (16 + t)) - 15) < (Nat.cast (R := Int) 64)) then bif decide (0 ≤ IntKind.i64.wrap ((Nat.cast (R := Int) (16 + t)) - 2)) && decide (IntKind.i64.wrap ((Nat.cast (R := Int) (16 + t)) - 2) < (Nat.cast (R := Int) 64)) then bif decide (0 ≤ IntKind.i64.wrap ((Nat.cast (R := Int) (16 + t)) - 7)) && decide (IntKind.i64.wrap ((Nat.cast (R := Int) (16 + t)) - 7) < (Nat.cast (R := Int) 64)) then bif decide (0 ≤ IntKind.i64.wrap ((Nat.cast (R := Int) (16 + t)) - 16)) && decide (IntKind.i64.wrap ((Nat.cast (R := Int) (16 + t)) - 16) < (Nat.cast (R := Int) 64)) then bif decide ((Nat.cast (R := Int) (16 + t)) < (Nat.cast (R := Int) 64)) then ∃ (v' : Nat), some (St.mk [(2, AV.ptr (Base.l 0) 0 64 0), (3, AV.ptr (Base.l 1) 0 64 0), (6, AV.c (CV.int IntKind.i64 (IntKind.i64.wrap ((Nat.cast (R := Int) (16 + t)) + 1))))] [(0, Blk'.cells 135 64 (Body.els [AV.c (CV.arr IntKind.u32 64 (List.replicate 64 0))])), (1, Blk'.cells 135 64 (Body.els [AV.c (CV.arr IntKind.u32 64 ((wsN l t).set (0 + (Nat.cast (R := Int) (16 + t)).toNat * 1) (IntKind.u32.wrap (IntKind.u32.wrap (IntKind.u32.wrap (ixor IntKind.u32 (ixor IntKind.u32 (turn32 ((wsN l t).getD (0 + (IntKind.i64.wrap ((Nat.cast (R := Int) (16 + t)) - 2)).toNat * 1) 0) 17) (turn32 ((wsN l t).getD (0 + (IntKind.i64.wrap ((Nat.cast (R := Int) (16 + t)) - 2)).toNat * 1) 0) 19)) (IntKind.u32.wrap (((wsN l t).getD (0 + (IntKind.i64.wrap ((Nat.cast (R := Int) (16 + t)) - 2)).toNat * 1) 0).tdiv 1024)) + (wsN l t).getD (0 + (IntKind.i64.wrap ((Nat.cast (R := Int) (16 + t)) - 7)).toNat * 1) 0) + ixor IntKind.u32 (ixor IntKind.u32 (turn32 ((wsN l t).getD (0 + (IntKind.i64.wrap ((Nat.cast (R := Int) (16 + t)) - 15)).toNat * 1) 0) 7) (turn32 ((wsN l t).getD (0 + (IntKind.i64.wrap ((Nat.cast (R := Int) (16 + t)) - 15)).toNat * 1) 0) 18)) (IntKind.u32.wrap (((wsN l t).getD (0 + (IntKind.i64.wrap ((Nat.cast (R := Int) (16 + t)) - 15)).toNat * 1) 0).tdiv 8))) + (wsN l t).getD (0 + (IntKind.i64.wrap ((Nat.cast (R := Int) (16 + t)) - 16)).toNat * 1) 0))))]))] 2 78) = some (wdI [(6, AV.c (CV.int IntKind.i64 (Nat.cast (R := Int) (16 + v'))))] (wsN l v')) ∧ 48 - v' < 48 - t ∧ v' ≤ 48 else False else False else False else False else False else false = false ∧ some (St.mk [(2, AV.ptr (Base.l 0) 0 64 0), (3, AV.ptr (Base.l 1) 0 64 0)] [(0, Blk'.cells 135 64 (Body.els [AV.c (CV.arr IntKind.u32 64 (List.replicate 64 0))])), (1, Blk'.cells 135 64 (Body.els [AV.c (CV.arr IntKind.u32 64 (wsN l t))]))] 2 78) = some (wdI [] (wsN l 48))) (by kernel_rfl) ?_
 have hb : ∀ x ∈ wsN l t, okI .u32 x := (hfa.h 1 _ rfl 0 _ rfl).2
 simp (disch := omega) only [wi, Nat.mul_one, Nat.zero_add, Int.toNat_natCast]
 refine cond_intro (fun h => ?_) (fun h => ?_)
 ·simp at h
  refine cond_at (by simp; omega) <| cond_at (by simp; omega) <| cond_at (by simp; omega) <| cond_at (by simp; omega) <| cond_at (by simp; omega) ⟨t + 1, ?_, by omega, by omega⟩
  have e1 : (((16 + t : Nat) : Int) - 15).toNat = 16 + t - 15 := by omega
  have e2 : (((16 + t : Nat) : Int) - 2).toNat = 16 + t - 2 := by omega
  have e3 : (((16 + t : Nat) : Int) - 7).toNat = 16 + t - 7 := by omega
  have e4 : (((16 + t : Nat) : Int) - 16).toNat = 16 + t - 16 := by omega
  rw [e1, e2, e3, e4, quo_8 (u32_at hb _), quo_1024 (u32_at hb _), turn_7, turn_17, turn_18, turn_19]
  show _ = _
  kernel_rfl
 ·simp at h
  have e : t = 48 := by omega
  subst e; exact ⟨by simp, by kernel_rfl⟩
noncomputable def rWordsS : FSpec := fun xs bl => match xs, bl with
 | [.c (.ints .u8 l)], [] => some (some (l.length = 64), ⟨.c (.arr .u32 64 (wsN l 48)), [], []⟩)
 | _, _ => none
theorem rWords_ok : FnOk CX 124 rWordsS := by
 refine fnOkF hmo G15a_ok (fn := Tryz.f124) (c := bodyOf' Tryz.f124) (by kernel_rfl) (by kernel_rfl) (by kernel_rfl) ?_
 intro xs bl p o hF hp
 unfold rWordsS at hF
 split at hF
 ·rename_i l
  injection hF with hF; injection hF with e1 e2; subst e1; subst e2
  have hp : l.length = 64 := hp
  refine ⟨Nat.le_of_ble_eq_true (by kernel_rfl), fun X hX hfa => ⟨[(0, loopW 0 [] [2, 3, 0, 4] (wdI [(0, .c (.ints .u8 l)), (4, .c (.int .i64 0))] (ws0 l 0)) (l.length = 64) false (wdI [] (ws0 l 16))), (4, loopW 0 [] [2, 3, 6] (wdI [(6, .c (.int .i64 16))] (wsN l 0)) True false (wdI [] (wsN l 48)))], 999, ?_⟩⟩
  refine kto (q := LOk CX X 0 (loopAt 0 Tryz.f124) (loopW 0 [] [2, 3, 0, 4] (wdI [(0, AV.c (CV.ints IntKind.u8 l)), (4, AV.c (CV.int IntKind.i64 0))] (ws0 l 0)) (l.length = 64) false (wdI [] (ws0 l 16))) ∧ some (St.mk [(2, AV.ptr (Base.l 0) 0 64 0), (3, AV.ptr (Base.l 1) 0 64 0), (0, AV.c (CV.ints IntKind.u8 l)), (4, AV.c (CV.int IntKind.i64 0))] [(0, Blk'.cells 135 64 (Body.els [AV.c (CV.arr IntKind.u32 64 (List.replicate 64 0))])), (1, Blk'.cells 135 64 (Body.els [AV.c (CV.arr IntKind.u32 64 (List.replicate 64 0))]))] 2 78) = some (wdI [(0, AV.c (CV.ints IntKind.u8 l)), (4, AV.c (CV.int IntKind.i64 0))] (ws0 l 0)) ∧ l.length = 64 ∧ LOk CX X 4 (loopAt 4 Tryz.f124) (loopW 0 [] [2, 3, 6] (wdI [(6, AV.c (CV.int IntKind.i64 16))] (wsN l 0)) True false (wdI [] (wsN l 48))) ∧ some (St.mk [(2, AV.ptr (Base.l 0) 0 64 0), (3, AV.ptr (Base.l 1) 0 64 0), (6, AV.c (CV.int IntKind.i64 16))] [(0, Blk'.cells 135 64 (Body.els [AV.c (CV.arr IntKind.u32 64 (List.replicate 64 0))])), (1, Blk'.cells 135 64 (Body.els [AV.c (CV.arr IntKind.u32 64 (ws0 l 16))]))] 2 78) = some (wdI [(6, AV.c (CV.int IntKind.i64 16))] (wsN l 0)) ∧ True ∧ some (Out.mk (AV.c (CV.arr IntKind.u32 64 (wsN l 48))) [] []) = some (Out.mk (AV.c (CV.arr IntKind.u32 64 (wsN l 48))) [] [])) (by kernel_rfl) ?_
  exact ⟨words_l0 hX l, by kernel_rfl, hp, words_l4 hX l, by kernel_rfl, trivial, by kernel_rfl⟩
 ·cases hF
noncomputable def G15b : Tab := (124, lift [true] rWordsS) :: G15a
theorem G15b_ok : TabOk CX G15b := .cons (lift_ok rWords_ok _) G15a_ok
def s8 (v : List Int) : Blk' := .cells 100 8 (.els [.c (.arr .u32 8 v)])
def tkR (h l : List Int) (v : List Int) (t : Nat) : St := ⟨[(2, .ptr (.l 0) 0 8 0), (4, .ptr (.l 1) 0 8 0), (5, .ptr (.l 2) 0 64 0), (6, .ptr (.l 3) 0 64 0), (7, .ptr (.l 4) 0 8 0), (8, .c (.int .i64 t))], [(0, s8 h), (1, s8 (List.replicate 8 0)), (2, w64 (wsN l 48)), (3, w64 shaK), (4, s8 v)], 5, 121⟩
def tkS (h v : List Int) (ls : List (Nat × AV)) : St := ⟨(2, .ptr (.l 0) 0 8 0) :: (4, .ptr (.l 1) 0 8 0) :: (7, .ptr (.l 2) 0 8 0) :: ls, [(0, s8 h), (1, s8 (List.replicate 8 0)), (2, s8 v)], 3, 121⟩
theorem rtake_l0 {X : Snap} (hX : ∀ b L, X.ι b = some L → b < 0) (h l : List Int) : LOk CX X 0 (loopAt 0 Tryz.f117) (loopW 0 [] [2, 4, 5, 6, 7, 8] (tkR h l h 0) (h.length = 8) false (tkS h (rN32 shaK (wsN l 48) h 64) [])) := by
 refine loopW_ok hmo G15b_ok (by kernel_rfl) hX [2, 4, 7] [] (fun t : Nat => tkR h l (rN32 shaK (wsN l 48) h t) t) (fun t => t ≤ 64) (fun t => 64 - t) 0 (fun _ => rfl) (fun _ => by omega) ?_
 intro hp t ht hfa
 refine ⟨[], 999, ?_⟩
 refine kto (q := bif decide ((Nat.cast (R := Int) t) < 64) then bif decide ((Nat.cast (R := Int) t) < (Nat.cast (R := Int) 64)) then bif decide ((Nat.cast (R := Int) t) < (Nat.cast (R := Int) 64)) then ∃ (v' : Nat), some (St.mk [(2, AV.ptr (Base.l 0) 0 8 0), (4, AV.ptr (Base.l 1) 0 8 0), (5, AV.ptr (Base.l 2) 0 64 0), (6, AV.ptr (Base.l 3) 0 64 0), (7, AV.ptr (Base.l 4) 0 8 0), (8, AV.c (CV.int IntKind.i64 (IntKind.i64.wrap ((Nat.cast (R := Int) t) + 1))))] [(0, Blk'.cells 100 8 (Body.els [AV.c (CV.arr IntKind.u32 8 h)])), (1, Blk'.cells 100 8 (Body.els [AV.c (CV.arr IntKind.u32 8 (List.replicate 8 0))])), (2, Blk'.cells 135 64 (Body.els [AV.c (CV.arr IntKind.u32 64 (wsN l 48))])), (3, Blk'.cells 135 64 (Body.els [AV.c (CV.arr IntKind.u32 64 shaK)])), (4, Blk'.cells 100 8 (Body.els [AV.c (CV.arr IntKind.u32 8 (((((((((List.replicate 8 0).set 0 (IntKind.u32.wrap (IntKind.u32.wrap (IntKind.u32.wrap (IntKind.u32.wrap (IntKind.u32.wrap ((rN32 shaK (wsN l 48) h t).getD 7 0 + ixor IntKind.u32 (ixor IntKind.u32 (turn32 ((rN32 shaK (wsN l 48) h t).getD 4 0) 6) (turn32 ((rN32 shaK (wsN l 48) h t).getD 4 0) 11)) (turn32 ((rN32 shaK (wsN l 48) h t).getD 4 0) 25)) + ior IntKind.u32 (iand IntKind.u32 ((rN32 shaK (wsN l 48) h t).getD 4 0) ((rN32 shaK (wsN l 48) h t).getD 5 0)) (iand IntKind.u32 (IntKind.u32.wrap (4294967295 - (rN32 shaK (wsN l 48) h t).getD 4 0)) ((rN32 shaK (wsN l 48) h t).getD 6 0))) + shaK.getD (0 + (Nat.cast (R := Int) t).toNat * 1) 0) + (wsN l 48).getD (0 + (Nat.cast (R := Int) t).toNat * 1) 0) + IntKind.u32.wrap (ixor IntKind.u32 (ixor IntKind.u32 (turn32 ((rN32 shaK (wsN l 48) h t).getD 0 0) 2) (turn32 ((rN32 shaK (wsN l 48) h t).getD 0 0) 13)) (turn32 ((rN32 shaK (wsN l 48) h t).getD 0 0) 22) + ior IntKind.u32 (ior IntKind.u32 (iand IntKind.u32 ((rN32 shaK (wsN l 48) h t).getD 0 0) ((rN32 shaK (wsN l 48) h t).getD 1 0)) (iand IntKind.u32 ((rN32 shaK (wsN l 48) h t).getD 0 0) ((rN32 shaK (wsN l 48) h t).getD 2 0))) (iand IntKind.u32 ((rN32 shaK (wsN l 48) h t).getD 1 0) ((rN32 shaK (wsN l 48) h t).getD 2 0)))))).set 1 ((rN32 shaK (wsN l 48) h t).getD 0 0)).set 2 ((rN32 shaK (wsN l 48) h t).getD 1 0)).set 3 ((rN32 shaK (wsN l 48) h t).getD 2 0)).set 4 (IntKind.u32.wrap ((rN32 shaK (wsN l 48) h t).getD 3 0 + IntKind.u32.wrap (IntKind.u32.wrap (IntKind.u32.wrap (IntKind.u32.wrap ((rN32 shaK (wsN l 48) h t).getD 7 0 + ixor IntKind.u32 (ixor IntKind.u32 (turn32 ((rN32 shaK (wsN l 48) h t).getD 4 0) 6) (turn32 ((rN32 shaK (wsN l 48) h t).getD 4 0) 11)) (turn32 ((rN32 shaK (wsN l 48) h t).getD 4 0) 25)) + ior IntKind.u32 (iand IntKind.u32 ((rN32 shaK (wsN l 48) h t).getD 4 0) ((rN32 shaK (wsN l 48) h t).getD 5 0)) (iand IntKind.u32 (IntKind.u32.wrap (4294967295 - (rN32 shaK (wsN l 48) h t).getD 4 0)) ((rN32 shaK (wsN l 48) h t).getD 6 0))) + shaK.getD (0 + (Nat.cast (R := Int) t).toNat * 1) 0) + (wsN l 48).getD (0 + (Nat.cast (R := Int) t).toNat * 1) 0)))).set 5 ((rN32 shaK (wsN l 48) h t).getD 4 0)).set 6 ((rN32 shaK (wsN l 48) h t).getD 5 0)).set 7 ((rN32 shaK (wsN l 48) h t).getD 6 0)))]))] 5 121) = some (tkR h l (rN32 shaK (wsN l 48) h v') v') ∧ 64 - v' < 64 - t ∧ v' ≤ 64 else False else False else false = false ∧ some (St.mk [(2, AV.ptr (Base.l 0) 0 8 0), (4, AV.ptr (Base.l 1) 0 8 0), (7, AV.ptr (Base.l 2) 0 8 0)] [(0, Blk'.cells 100 8 (Body.els [AV.c (CV.arr IntKind.u32 8 h)])), (1, Blk'.cells 100 8 (Body.els [AV.c (CV.arr IntKind.u32 8 (List.replicate 8 0))])), (2, Blk'.cells 100 8 (Body.els [AV.c (CV.arr IntKind.u32 8 (rN32 shaK (wsN l 48) h t))]))] 3 121) = some (tkS h (rN32 shaK (wsN l 48) h 64) [])) (by kernel_rfl) ?_
 simp (disch := omega) only [wi, Nat.mul_one, Nat.zero_add, Int.toNat_natCast]
 refine cond_intro (fun h => ?_) (fun h => ?_)
 ·simp at h
  refine cond_at (by simp; omega) <| cond_at (by simp; omega) ⟨t + 1, ?_, by omega, by omega⟩
  rw [turn_2, turn_6, turn_11, turn_13, turn_22, turn_25, ch_eq, maj_eq]
  kernel_rfl
 ·simp at h
  have e : t = 64 := by omega
  subst e; exact ⟨by simp, by kernel_rfl⟩
noncomputable def rTakeS : FSpec := fun xs bl => match xs, bl with
 | [.c (.arr .u32 8 h), .c (.ints .u8 l)], [] => some (some (l.length = 64), ⟨.c (.arr .u32 8 (shaTake shaK h l)), [], []⟩)
 | _, _ => none
theorem rTake_ok : FnOk CX 117 rTakeS := by
 refine fnOkF hmo G15b_ok (fn := Tryz.f117) (c := bodyOf' Tryz.f117) (by kernel_rfl) (by kernel_rfl) (by kernel_rfl) ?_
 intro xs bl p o hF hp
 unfold rTakeS at hF
 split at hF
 ·rename_i h l
  injection hF with hF; injection hF with e1 e2; subst e1; subst e2
  have hp : l.length = 64 := hp
  refine ⟨Nat.le_of_ble_eq_true (by kernel_rfl), fun X hX hfa => ⟨[(0, loopW 0 [] [2, 4, 5, 6, 7, 8] (tkR h l h 0) (h.length = 8) false (tkS h (rN32 shaK (wsN l 48) h 64) []))], 999, ?_⟩⟩
  have hl : h.length = 8 := (hfa.sl 0 _ rfl).1.1
  have e : ∃ a0 a1 a2 a3 a4 a5 a6 a7, h = [a0, a1, a2, a3, a4, a5, a6, a7] := list8 hl
  obtain ⟨a0, a1, a2, a3, a4, a5, a6, a7, rfl⟩ := e
  refine kto (q := l.length = 64 ∧ LOk CX X 0 (loopAt 0 Tryz.f117) (loopW 0 [] [2, 4, 5, 6, 7, 8] (tkR [a0, a1, a2, a3, a4, a5, a6, a7] l [a0, a1, a2, a3, a4, a5, a6, a7] 0) ([a0, a1, a2, a3, a4, a5, a6, a7].length = 8) false (tkS [a0, a1, a2, a3, a4, a5, a6, a7] (rN32 shaK (wsN l 48) [a0, a1, a2, a3, a4, a5, a6, a7] 64) [])) ∧ some (St.mk [(2, AV.ptr (Base.l 0) 0 8 0), (4, AV.ptr (Base.l 1) 0 8 0), (5, AV.ptr (Base.l 2) 0 64 0), (6, AV.ptr (Base.l 3) 0 64 0), (7, AV.ptr (Base.l 4) 0 8 0), (8, AV.c (CV.int IntKind.i64 0))] [(0, Blk'.cells 100 8 (Body.els [AV.c (CV.arr IntKind.u32 8 [a0, a1, a2, a3, a4, a5, a6, a7])])), (1, Blk'.cells 100 8 (Body.els [AV.c (CV.arr IntKind.u32 8 (List.replicate 8 0))])), (2, Blk'.cells 135 64 (Body.els [AV.c (CV.arr IntKind.u32 64 (wsN l 48))])), (3, Blk'.cells 135 64 (Body.els [AV.c (CV.arr IntKind.u32 64 shaK)])), (4, Blk'.cells 100 8 (Body.els [AV.c (CV.arr IntKind.u32 8 [a0, a1, a2, a3, a4, a5, a6, a7])]))] 5 121) = some (tkR [a0, a1, a2, a3, a4, a5, a6, a7] l [a0, a1, a2, a3, a4, a5, a6, a7] 0) ∧ 8 = 8 ∧ some (Out.mk (AV.c (CV.arr IntKind.u32 8 (((((((([a0, a1, a2, a3, a4, a5, a6, a7].set 0 (IntKind.u32.wrap ([a0, a1, a2, a3, a4, a5, a6, a7].getD 0 0 + (rN32 shaK (wsN l 48) [a0, a1, a2, a3, a4, a5, a6, a7] 64).getD 0 0))).set 1 (IntKind.u32.wrap (([a0, a1, a2, a3, a4, a5, a6, a7].set 0 (IntKind.u32.wrap ([a0, a1, a2, a3, a4, a5, a6, a7].getD 0 0 + (rN32 shaK (wsN l 48) [a0, a1, a2, a3, a4, a5, a6, a7] 64).getD 0 0))).getD 1 0 + (rN32 shaK (wsN l 48) [a0, a1, a2, a3, a4, a5, a6, a7] 64).getD 1 0))).set 2 (IntKind.u32.wrap ((([a0, a1, a2, a3, a4, a5, a6, a7].set 0 (IntKind.u32.wrap ([a0, a1, a2, a3, a4, a5, a6, a7].getD 0 0 + (rN32 shaK (wsN l 48) [a0, a1, a2, a3, a4, a5, a6, a7] 64).getD 0 0))).set 1 (IntKind.u32.wrap (([a0, a1, a2, a3, a4, a5, a6, a7].set 0 (IntKind.u32.wrap ([a0, a1, a2, a3, a4, a5, a6, a7].getD 0 0 + (rN32 shaK (wsN l 48) [a0, a1, a2, a3, a4, a5, a6, a7] 64).getD 0 0))).getD 1 0 + (rN32 shaK (wsN l 48) [a0, a1, a2, a3, a4, a5, a6, a7] 64).getD 1 0))).getD 2 0 + (rN32 shaK (wsN l 48) [a0, a1, a2, a3, a4, a5, a6, a7] 64).getD 2 0))).set 3 (IntKind.u32.wrap (((([a0, a1, a2, a3, a4, a5, a6, a7].set 0 (IntKind.u32.wrap ([a0, a1, a2, a3, a4, a5, a6, a7].getD 0 0 + (rN32 shaK (wsN l 48) [a0, a1, a2, a3, a4, a5, a6, a7] 64).getD 0 0))).set 1 (IntKind.u32.wrap (([a0, a1, a2, a3, a4, a5, a6, a7].set 0 (IntKind.u32.wrap ([a0, a1, a2, a3, a4, a5, a6, a7].getD 0 0 + (rN32 shaK (wsN l 48) [a0, a1, a2, a3, a4, a5, a6, a7] 64).getD 0 0))).getD 1 0 + (rN32 shaK (wsN l 48) [a0, a1, a2, a3, a4, a5, a6, a7] 64).getD 1 0))).set 2 (IntKind.u32.wrap ((([a0, a1, a2, a3, a4, a5, a6, a7].set 0 (IntKind.u32.wrap ([a0, a1, a2, a3, a4, a5, a6, a7].getD 0 0 + (rN32 shaK (wsN l 48) [a0, a1, a2, a3, a4, a5, a6, a7] 64).getD 0 0))).set 1 (IntKind.u32.wrap (([a0, a1, a2, a3, a4, a5, a6, a7].set 0 (IntKind.u32.wrap ([a0, a1, a2, a3, a4, a5, a6, a7].getD 0 0 + (rN32 shaK (wsN l 48) [a0, a1, a2, a3, a4, a5, a6, a7] 64).getD 0 0))).getD 1 0 + (rN32 shaK (wsN l 48) [a0, a1, a2, a3, a4, a5, a6, a7] 64).getD 1 0))).getD 2 0 + (rN32 shaK (wsN l 48) [a0, a1, a2, a3, a4, a5, a6, a7] 64).getD 2 0))).getD 3 0 + (rN32 shaK (wsN l 48) [a0, a1, a2, a3, a4, a5, a6, a7] 64).getD 3 0))).set 4 (IntKind.u32.wrap ((((([a0, a1, a2, a3, a4, a5, a6, a7].set 0 (IntKind.u32.wrap ([a0, a1, a2, a3, a4, a5, a6, a7].getD 0 0 + (rN32 shaK (wsN l 48) [a0, a1, a2, a3, a4, a5, a6, a7] 64).getD 0 0))).set 1 (IntKind.u32.wrap (([a0, a1, a2, a3, a4, a5, a6, a7].set 0 (IntKind.u32.wrap ([a0, a1, a2, a3, a4, a5, a6, a7].getD 0 0 + (rN32 shaK (wsN l 48) [a0, a1, a2, a3, a4, a5, a6, a7] 64).getD 0 0))).getD 1 0 + (rN32 shaK (wsN l 48) [a0, a1, a2, a3, a4, a5, a6, a7] 64).getD 1 0))).set 2 (IntKind.u32.wrap ((([a0, a1, a2, a3, a4, a5, a6, a7].set 0 (IntKind.u32.wrap ([a0, a1, a2, a3, a4, a5, a6, a7].getD 0 0 + (rN32 shaK (wsN l 48) [a0, a1, a2, a3, a4, a5, a6, a7] 64).getD 0 0))).set 1 (IntKind.u32.wrap (([a0, a1, a2, a3, a4, a5, a6, a7].set 0 (IntKind.u32.wrap ([a0, a1, a2, a3, a4, a5, a6, a7].getD 0 0 + (rN32 shaK (wsN l 48) [a0, a1, a2, a3, a4, a5, a6, a7] 64).getD 0 0))).getD 1 0 + (rN32 shaK (wsN l 48) [a0, a1, a2, a3, a4, a5, a6, a7] 64).getD 1 0))).getD 2 0 + (rN32 shaK (wsN l 48) [a0, a1, a2, a3, a4, a5, a6, a7] 64).getD 2 0))).set 3 (IntKind.u32.wrap (((([a0, a1, a2, a3, a4, a5, a6, a7].set 0 (IntKind.u32.wrap ([a0, a1, a2, a3, a4, a5, a6, a7].getD 0 0 + (rN32 shaK (wsN l 48) [a0, a1, a2, a3, a4, a5, a6, a7] 64).getD 0 0))).set 1 (IntKind.u32.wrap (([a0, a1, a2, a3, a4, a5, a6, a7].set 0 (IntKind.u32.wrap ([a0, a1, a2, a3, a4, a5, a6, a7].getD 0 0 + (rN32 shaK (wsN l 48) [a0, a1, a2, a3, a4, a5, a6, a7] 64).getD 0 0))).getD 1 0 + (rN32 shaK (wsN l 48) [a0, a1, a2, a3, a4, a5, a6, a7] 64).getD 1 0))).set 2 (IntKind.u32.wrap ((([a0, a1, a2, a3, a4, a5, a6, a7].set 0 (IntKind.u32.wrap ([a0, a1, a2, a3, a4, a5, a6, a7].getD 0 0 + (rN32 shaK (wsN l 48) [a0, a1, a2, a3, a4, a5, a6, a7] 64).getD 0 0))).set 1 (IntKind.u32.wrap (([a0, a1, a2, a3, a4, a5, a6, a7].set 0 (IntKind.u32.wrap ([a0, a1, a2, a3, a4, a5, a6, a7].getD 0 0 + (rN32 shaK (wsN l 48) [a0, a1, a2, a3, a4, a5, a6, a7] 64).getD 0 0))).getD 1 0 + (rN32 shaK (wsN l 48) [a0, a1, a2, a3, a4, a5, a6, a7] 64).getD 1 0))).getD 2 0 + (rN32 shaK (wsN l 48) [a0, a1, a2, a3, a4, a5, a6, a7] 64).getD 2 0))).getD 3 0 + (rN32 shaK (wsN l 48) [a0, a1, a2, a3, a4, a5, a6, a7] 64).getD 3 0))).getD 4 0 + (rN32 shaK (wsN l 48) [a0, a1, a2, a3, a4, a5, a6, a7] 64).getD 4 0))).set 5 (IntKind.u32.wrap (((((([a0, a1, a2, a3, a4, a5, a6, a7].set 0 (IntKind.u32.wrap ([a0, a1, a2, a3, a4, a5, a6, a7].getD 0 0 + (rN32 shaK (wsN l 48) [a0, a1, a2, a3, a4, a5, a6, a7] 64).getD 0 0))).set 1 (IntKind.u32.wrap (([a0, a1, a2, a3, a4, a5, a6, a7].set 0 (IntKind.u32.wrap ([a0, a1, a2, a3, a4, a5, a6, a7].getD 0 0 + (rN32 shaK (wsN l 48) [a0, a1, a2, a3, a4, a5, a6, a7] 64).getD 0 0))).getD 1 0 + (rN32 shaK (wsN l 48) [a0, a1, a2, a3, a4, a5, a6, a7] 64).getD 1 0))).set 2 (IntKind.u32.wrap ((([a0, a1, a2, a3, a4, a5, a6, a7].set 0 (IntKind.u32.wrap ([a0, a1, a2, a3, a4, a5, a6, a7].getD 0 0 + (rN32 shaK (wsN l 48) [a0, a1, a2, a3, a4, a5, a6, a7] 64).getD 0 0))).set 1 (IntKind.u32.wrap (([a0, a1, a2, a3, a4, a5, a6, a7].set 0 (IntKind.u32.wrap ([a0, a1, a2, a3, a4, a5, a6, a7].getD 0 0 + (rN32 shaK (wsN l 48) [a0, a1, a2, a3, a4, a5, a6, a7] 64).getD 0 0))).getD 1 0 + (rN32 shaK (wsN l 48) [a0, a1, a2, a3, a4, a5, a6, a7] 64).getD 1 0))).getD 2 0 + (rN32 shaK (wsN l 48) [a0, a1, a2, a3, a4, a5, a6, a7] 64).getD 2 0))).set 3 (IntKind.u32.wrap (((([a0, a1, a2, a3, a4, a5, a6, a7].set 0 (IntKind.u32.wrap ([a0, a1, a2, a3, a4, a5, a6, a7].getD 0 0 + (rN32 shaK (wsN l 48) [a0, a1, a2, a3, a4, a5, a6, a7] 64).getD 0 0))).set 1 (IntKind.u32.wrap (([a0, a1, a2, a3, a4, a5, a6, a7].set 0 (IntKind.u32.wrap ([a0, a1, a2, a3, a4, a5, a6, a7].getD 0 0 + (rN32 shaK (wsN l 48) [a0, a1, a2, a3, a4, a5, a6, a7] 64).getD 0 0))).getD 1 0 + (rN32 shaK (wsN l 48) [a0, a1, a2, a3, a4, a5, a6, a7] 64).getD 1 0))).set 2 (IntKind.u32.wrap ((([a0, a1, a2, a3, a4, a5, a6, a7].set 0 (IntKind.u32.wrap ([a0, a1, a2, a3, a4, a5, a6, a7].getD 0 0 + (rN32 shaK (wsN l 48) [a0, a1, a2, a3, a4, a5, a6, a7] 64).getD 0 0))).set 1 (IntKind.u32.wrap (([a0, a1, a2, a3, a4, a5, a6, a7].set 0 (IntKind.u32.wrap ([a0, a1, a2, a3, a4, a5, a6, a7].getD 0 0 + (rN32 shaK (wsN l 48) [a0, a1, a2, a3, a4, a5, a6, a7] 64).getD 0 0))).getD 1 0 + (rN32 shaK (wsN l 48) [a0, a1, a2, a3, a4, a5, a6, a7] 64).getD 1 0))).getD 2 0 + (rN32 shaK (wsN l 48) [a0, a1, a2, a3, a4, a5, a6, a7] 64).getD 2 0))).getD 3 0 + (rN32 shaK (wsN l 48) [a0, a1, a2, a3, a4, a5, a6, a7] 64).getD 3 0))).set 4 (IntKind.u32.wrap ((((([a0, a1, a2, a3, a4, a5, a6, a7].set 0 (IntKind.u32.wrap ([a0, a1, a2, a3, a4, a5, a6, a7].getD 0 0 + (rN32 shaK (wsN l 48) [a0, a1, a2, a3, a4, a5, a6, a7] 64).getD 0 0))).set 1 (IntKind.u32.wrap (([a0, a1, a2, a3, a4, a5, a6, a7].set 0 (IntKind.u32.wrap ([a0, a1, a2, a3, a4, a5, a6, a7].getD 0 0 + (rN32 shaK (wsN l 48) [a0, a1, a2, a3, a4, a5, a6, a7] 64).getD 0 0))).getD 1 0 + (rN32 shaK (wsN l 48) [a0, a1, a2, a3, a4, a5, a6, a7] 64).getD 1 0))).set 2 (IntKind.u32.wrap ((([a0, a1, a2, a3, a4, a5, a6, a7].set 0 (IntKind.u32.wrap ([a0, a1, a2, a3, a4, a5, a6, a7].getD 0 0 + (rN32 shaK (wsN l 48) [a0, a1, a2, a3, a4, a5, a6, a7] 64).getD 0 0))).set 1 (IntKind.u32.wrap (([a0, a1, a2, a3, a4, a5, a6, a7].set 0 (IntKind.u32.wrap ([a0, a1, a2, a3, a4, a5, a6, a7].getD 0 0 + (rN32 shaK (wsN l 48) [a0, a1, a2, a3, a4, a5, a6, a7] 64).getD 0 0))).getD 1 0 + (rN32 shaK (wsN l 48) [a0, a1, a2, a3, a4, a5, a6, a7] 64).getD 1 0))).getD 2 0 + (rN32 shaK (wsN l 48) [a0, a1, a2, a3, a4, a5, a6, a7] 64).getD 2 0))).set 3 (IntKind.u32.wrap (((([a0, a1, a2, a3, a4, a5, a6, a7].set 0 (IntKind.u32.wrap ([a0, a1, a2, a3, a4, a5, a6, a7].getD 0 0 + (rN32 shaK (wsN l 48) [a0, a1, a2, a3, a4, a5, a6, a7] 64).getD 0 0))).set 1 (IntKind.u32.wrap (([a0, a1, a2, a3, a4, a5, a6, a7].set 0 (IntKind.u32.wrap ([a0, a1, a2, a3, a4, a5, a6, a7].getD 0 0 + (rN32 shaK (wsN l 48) [a0, a1, a2, a3, a4, a5, a6, a7] 64).getD 0 0))).getD 1 0 + (rN32 shaK (wsN l 48) [a0, a1, a2, a3, a4, a5, a6, a7] 64).getD 1 0))).set 2 (IntKind.u32.wrap ((([a0, a1, a2, a3, a4, a5, a6, a7].set 0 (IntKind.u32.wrap ([a0, a1, a2, a3, a4, a5, a6, a7].getD 0 0 + (rN32 shaK (wsN l 48) [a0, a1, a2, a3, a4, a5, a6, a7] 64).getD 0 0))).set 1 (IntKind.u32.wrap (([a0, a1, a2, a3, a4, a5, a6, a7].set 0 (IntKind.u32.wrap ([a0, a1, a2, a3, a4, a5, a6, a7].getD 0 0 + (rN32 shaK (wsN l 48) [a0, a1, a2, a3, a4, a5, a6, a7] 64).getD 0 0))).getD 1 0 + (rN32 shaK (wsN l 48) [a0, a1, a2, a3, a4, a5, a6, a7] 64).getD 1 0))).getD 2 0 + (rN32 shaK (wsN l 48) [a0, a1, a2, a3, a4, a5, a6, a7] 64).getD 2 0))).getD 3 0 + (rN32 shaK (wsN l 48) [a0, a1, a2, a3, a4, a5, a6, a7] 64).getD 3 0))).getD 4 0 + (rN32 shaK (wsN l 48) [a0, a1, a2, a3, a4, a5, a6, a7] 64).getD 4 0))).getD 5 0 + (rN32 shaK (wsN l 48) [a0, a1, a2, a3, a4, a5, a6, a7] 64).getD 5 0))).set 6 (IntKind.u32.wrap ((((((([a0, a1, a2, a3, a4, a5, a6, a7].set 0 (IntKind.u32.wrap ([a0, a1, a2, a3, a4, a5, a6, a7].getD 0 0 + (rN32 shaK (wsN l 48) [a0, a1, a2, a3, a4, a5, a6, a7] 64).getD 0 0))).set 1 (IntKind.u32.wrap (([a0, a1, a2, a3, a4, a5, a6, a7].set 0 (IntKind.u32.wrap ([a0, a1, a2, a3, a4, a5, a6, a7].getD 0 0 + (rN32 shaK (wsN l 48) [a0, a1, a2, a3, a4, a5, a6, a7] 64).getD 0 0))).getD 1 0 + (rN32 shaK (wsN l 48) [a0, a1, a2, a3, a4, a5, a6, a7] 64).getD 1 0))).set 2 (IntKind.u32.wrap ((([a0, a1, a2, a3, a4, a5, a6, a7].set 0 (IntKind.u32.wrap ([a0, a1, a2, a3, a4, a5, a6, a7].getD 0 0 + (rN32 shaK (wsN l 48) [a0, a1, a2, a3, a4, a5, a6, a7] 64).getD 0 0))).set 1 (IntKind.u32.wrap (([a0, a1, a2, a3, a4, a5, a6, a7].set 0 (IntKind.u32.wrap ([a0, a1, a2, a3, a4, a5, a6, a7].getD 0 0 + (rN32 shaK (wsN l 48) [a0, a1, a2, a3, a4, a5, a6, a7] 64).getD 0 0))).getD 1 0 + (rN32 shaK (wsN l 48) [a0, a1, a2, a3, a4, a5, a6, a7] 64).getD 1 0))).getD 2 0 + (rN32 shaK (wsN l 48) [a0, a1, a2, a3, a4, a5, a6, a7] 64).getD 2 0))).set 3 (IntKind.u32.wrap (((([a0, a1, a2, a3, a4, a5, a6, a7].set 0 (IntKind.u32.wrap ([a0, a1, a2, a3, a4, a5, a6, a7].getD 0 0 + (rN32 shaK (wsN l 48) [a0, a1, a2, a3, a4, a5, a6, a7] 64).getD 0 0))).set 1 (IntKind.u32.wrap (([a0, a1, a2, a3, a4, a5, a6, a7].set 0 (IntKind.u32.wrap ([a0, a1, a2, a3, a4, a5, a6, a7].getD 0 0 + (rN32 shaK (wsN l 48) [a0, a1, a2, a3, a4, a5, a6, a7] 64).getD 0 0))).getD 1 0 + (rN32 shaK (wsN l 48) [a0, a1, a2, a3, a4, a5, a6, a7] 64).getD 1 0))).set 2 (IntKind.u32.wrap ((([a0, a1, a2, a3, a4, a5, a6, a7].set 0 (IntKind.u32.wrap ([a0, a1, a2, a3, a4, a5, a6, a7].getD 0 0 + (rN32 shaK (wsN l 48) [a0, a1, a2, a3, a4, a5, a6, a7] 64).getD 0 0))).set 1 (IntKind.u32.wrap (([a0, a1, a2, a3, a4, a5, a6, a7].set 0 (IntKind.u32.wrap ([a0, a1, a2, a3, a4, a5, a6, a7].getD 0 0 + (rN32 shaK (wsN l 48) [a0, a1, a2, a3, a4, a5, a6, a7] 64).getD 0 0))).getD 1 0 + (rN32 shaK (wsN l 48) [a0, a1, a2, a3, a4, a5, a6, a7] 64).getD 1 0))).getD 2 0 + (rN32 shaK (wsN l 48) [a0, a1, a2, a3, a4, a5, a6, a7] 64).getD 2 0))).getD 3 0 + (rN32 shaK (wsN l 48) [a0, a1, a2, a3, a4, a5, a6, a7] 64).getD 3 0))).set 4 (IntKind.u32.wrap ((((([a0, a1, a2, a3, a4, a5, a6, a7].set 0 (IntKind.u32.wrap ([a0, a1, a2, a3, a4, a5, a6, a7].getD 0 0 + (rN32 shaK (wsN l 48) [a0, a1, a2, a3, a4, a5, a6, a7] 64).getD 0 0))).set 1 (IntKind.u32.wrap (([a0, a1, a2, a3, a4, a5, a6, a7].set 0 (IntKind.u32.wrap ([a0, a1, a2, a3, a4, a5, a6, a7].getD 0 0 + (rN32 shaK (wsN l 48) [a0, a1, a2, a3, a4, a5, a6, a7] 64).getD 0 0))).getD 1 0 + (rN32 shaK (wsN l 48) [a0, a1, a2, a3, a4, a5, a6, a7] 64).getD 1 0))).set 2 (IntKind.u32.wrap ((([a0, a1, a2, a3, a4, a5, a6, a7].set 0 (IntKind.u32.wrap ([a0, a1, a2, a3, a4, a5, a6, a7].getD 0 0 + (rN32 shaK (wsN l 48) [a0, a1, a2, a3, a4, a5, a6, a7] 64).getD 0 0))).set 1 (IntKind.u32.wrap (([a0, a1, a2, a3, a4, a5, a6, a7].set 0 (IntKind.u32.wrap ([a0, a1, a2, a3, a4, a5, a6, a7].getD 0 0 + (rN32 shaK (wsN l 48) [a0, a1, a2, a3, a4, a5, a6, a7] 64).getD 0 0))).getD 1 0 + (rN32 shaK (wsN l 48) [a0, a1, a2, a3, a4, a5, a6, a7] 64).getD 1 0))).getD 2 0 + (rN32 shaK (wsN l 48) [a0, a1, a2, a3, a4, a5, a6, a7] 64).getD 2 0))).set 3 (IntKind.u32.wrap (((([a0, a1, a2, a3, a4, a5, a6, a7].set 0 (IntKind.u32.wrap ([a0, a1, a2, a3, a4, a5, a6, a7].getD 0 0 + (rN32 shaK (wsN l 48) [a0, a1, a2, a3, a4, a5, a6, a7] 64).getD 0 0))).set 1 (IntKind.u32.wrap (([a0, a1, a2, a3, a4, a5, a6, a7].set 0 (IntKind.u32.wrap ([a0, a1, a2, a3, a4, a5, a6, a7].getD 0 0 + (rN32 shaK (wsN l 48) [a0, a1, a2, a3, a4, a5, a6, a7] 64).getD 0 0))).getD 1 0 + (rN32 shaK (wsN l 48) [a0, a1, a2, a3, a4, a5, a6, a7] 64).getD 1 0))).set 2 (IntKind.u32.wrap ((([a0, a1, a2, a3, a4, a5, a6, a7].set 0 (IntKind.u32.wrap ([a0, a1, a2, a3, a4, a5, a6, a7].getD 0 0 + (rN32 shaK (wsN l 48) [a0, a1, a2, a3, a4, a5, a6, a7] 64).getD 0 0))).set 1 (IntKind.u32.wrap (([a0, a1, a2, a3, a4, a5, a6, a7].set 0 (IntKind.u32.wrap ([a0, a1, a2, a3, a4, a5, a6, a7].getD 0 0 + (rN32 shaK (wsN l 48) [a0, a1, a2, a3, a4, a5, a6, a7] 64).getD 0 0))).getD 1 0 + (rN32 shaK (wsN l 48) [a0, a1, a2, a3, a4, a5, a6, a7] 64).getD 1 0))).getD 2 0 + (rN32 shaK (wsN l 48) [a0, a1, a2, a3, a4, a5, a6, a7] 64).getD 2 0))).getD 3 0 + (rN32 shaK (wsN l 48) [a0, a1, a2, a3, a4, a5, a6, a7] 64).getD 3 0))).getD 4 0 + (rN32 shaK (wsN l 48) [a0, a1, a2, a3, a4, a5, a6, a7] 64).getD 4 0))).set 5 (IntKind.u32.wrap (((((([a0, a1, a2, a3, a4, a5, a6, a7].set 0 (IntKind.u32.wrap ([a0, a1, a2, a3, a4, a5, a6, a7].getD 0 0 + (rN32 shaK (wsN l 48) [a0, a1, a2, a3, a4, a5, a6, a7] 64).getD 0 0))).set 1 (IntKind.u32.wrap (([a0, a1, a2, a3, a4, a5, a6, a7].set 0 (IntKind.u32.wrap ([a0, a1, a2, a3, a4, a5, a6, a7].getD 0 0 + (rN32 shaK (wsN l 48) [a0, a1, a2, a3, a4, a5, a6, a7] 64).getD 0 0))).getD 1 0 + (rN32 shaK (wsN l 48) [a0, a1, a2, a3, a4, a5, a6, a7] 64).getD 1 0))).set 2 (IntKind.u32.wrap ((([a0, a1, a2, a3, a4, a5, a6, a7].set 0 (IntKind.u32.wrap ([a0, a1, a2, a3, a4, a5, a6, a7].getD 0 0 + (rN32 shaK (wsN l 48) [a0, a1, a2, a3, a4, a5, a6, a7] 64).getD 0 0))).set 1 (IntKind.u32.wrap (([a0, a1, a2, a3, a4, a5, a6, a7].set 0 (IntKind.u32.wrap ([a0, a1, a2, a3, a4, a5, a6, a7].getD 0 0 + (rN32 shaK (wsN l 48) [a0, a1, a2, a3, a4, a5, a6, a7] 64).getD 0 0))).getD 1 0 + (rN32 shaK (wsN l 48) [a0, a1, a2, a3, a4, a5, a6, a7] 64).getD 1 0))).getD 2 0 + (rN32 shaK (wsN l 48) [a0, a1, a2, a3, a4, a5, a6, a7] 64).getD 2 0))).set 3 (IntKind.u32.wrap (((([a0, a1, a2, a3, a4, a5, a6, a7].set 0 (IntKind.u32.wrap ([a0, a1, a2, a3, a4, a5, a6, a7].getD 0 0 + (rN32 shaK (wsN l 48) [a0, a1, a2, a3, a4, a5, a6, a7] 64).getD 0 0))).set 1 (IntKind.u32.wrap (([a0, a1, a2, a3, a4, a5, a6, a7].set 0 (IntKind.u32.wrap ([a0, a1, a2, a3, a4, a5, a6, a7].getD 0 0 + (rN32 shaK (wsN l 48) [a0, a1, a2, a3, a4, a5, a6, a7] 64).getD 0 0))).getD 1 0 + (rN32 shaK (wsN l 48) [a0, a1, a2, a3, a4, a5, a6, a7] 64).getD 1 0))).set 2 (IntKind.u32.wrap ((([a0, a1, a2, a3, a4, a5, a6, a7].set 0 (IntKind.u32.wrap ([a0, a1, a2, a3, a4, a5, a6, a7].getD 0 0 + (rN32 shaK (wsN l 48) [a0, a1, a2, a3, a4, a5, a6, a7] 64).getD 0 0))).set 1 (IntKind.u32.wrap (([a0, a1, a2, a3, a4, a5, a6, a7].set 0 (IntKind.u32.wrap ([a0, a1, a2, a3, a4, a5, a6, a7].getD 0 0 + (rN32 shaK (wsN l 48) [a0, a1, a2, a3, a4, a5, a6, a7] 64).getD 0 0))).getD 1 0 + (rN32 shaK (wsN l 48) [a0, a1, a2, a3, a4, a5, a6, a7] 64).getD 1 0))).getD 2 0 + (rN32 shaK (wsN l 48) [a0, a1, a2, a3, a4, a5, a6, a7] 64).getD 2 0))).getD 3 0 + (rN32 shaK (wsN l 48) [a0, a1, a2, a3, a4, a5, a6, a7] 64).getD 3 0))).set 4 (IntKind.u32.wrap ((((([a0, a1, a2, a3, a4, a5, a6, a7].set 0 (IntKind.u32.wrap ([a0, a1, a2, a3, a4, a5, a6, a7].getD 0 0 + (rN32 shaK (wsN l 48) [a0, a1, a2, a3, a4, a5, a6, a7] 64).getD 0 0))).set 1 (IntKind.u32.wrap (([a0, a1, a2, a3, a4, a5, a6, a7].set 0 (IntKind.u32.wrap ([a0, a1, a2, a3, a4, a5, a6, a7].getD 0 0 + (rN32 shaK (wsN l 48) [a0, a1, a2, a3, a4, a5, a6, a7] 64).getD 0 0))).getD 1 0 + (rN32 shaK (wsN l 48) [a0, a1, a2, a3, a4, a5, a6, a7] 64).getD 1 0))).set 2 (IntKind.u32.wrap ((([a0, a1, a2, a3, a4, a5, a6, a7].set 0 (IntKind.u32.wrap ([a0, a1, a2, a3, a4, a5, a6, a7].getD 0 0 + (rN32 shaK (wsN l 48) [a0, a1, a2, a3, a4, a5, a6, a7] 64).getD 0 0))).set 1 (IntKind.u32.wrap (([a0, a1, a2, a3, a4, a5, a6, a7].set 0 (IntKind.u32.wrap ([a0, a1, a2, a3, a4, a5, a6, a7].getD 0 0 + (rN32 shaK (wsN l 48) [a0, a1, a2, a3, a4, a5, a6, a7] 64).getD 0 0))).getD 1 0 + (rN32 shaK (wsN l 48) [a0, a1, a2, a3, a4, a5, a6, a7] 64).getD 1 0))).getD 2 0 + (rN32 shaK (wsN l 48) [a0, a1, a2, a3, a4, a5, a6, a7] 64).getD 2 0))).set 3 (IntKind.u32.wrap (((([a0, a1, a2, a3, a4, a5, a6, a7].set 0 (IntKind.u32.wrap ([a0, a1, a2, a3, a4, a5, a6, a7].getD 0 0 + (rN32 shaK (wsN l 48) [a0, a1, a2, a3, a4, a5, a6, a7] 64).getD 0 0))).set 1 (IntKind.u32.wrap (([a0, a1, a2, a3, a4, a5, a6, a7].set 0 (IntKind.u32.wrap ([a0, a1, a2, a3, a4, a5, a6, a7].getD 0 0 + (rN32 shaK (wsN l 48) [a0, a1, a2, a3, a4, a5, a6, a7] 64).getD 0 0))).getD 1 0 + (rN32 shaK (wsN l 48) [a0, a1, a2, a3, a4, a5, a6, a7] 64).getD 1 0))).set 2 (IntKind.u32.wrap ((([a0, a1, a2, a3, a4, a5, a6, a7].set 0 (IntKind.u32.wrap ([a0, a1, a2, a3, a4, a5, a6, a7].getD 0 0 + (rN32 shaK (wsN l 48) [a0, a1, a2, a3, a4, a5, a6, a7] 64).getD 0 0))).set 1 (IntKind.u32.wrap (([a0, a1, a2, a3, a4, a5, a6, a7].set 0 (IntKind.u32.wrap ([a0, a1, a2, a3, a4, a5, a6, a7].getD 0 0 + (rN32 shaK (wsN l 48) [a0, a1, a2, a3, a4, a5, a6, a7] 64).getD 0 0))).getD 1 0 + (rN32 shaK (wsN l 48) [a0, a1, a2, a3, a4, a5, a6, a7] 64).getD 1 0))).getD 2 0 + (rN32 shaK (wsN l 48) [a0, a1, a2, a3, a4, a5, a6, a7] 64).getD 2 0))).getD 3 0 + (rN32 shaK (wsN l 48) [a0, a1, a2, a3, a4, a5, a6, a7] 64).getD 3 0))).getD 4 0 + (rN32 shaK (wsN l 48) [a0, a1, a2, a3, a4, a5, a6, a7] 64).getD 4 0))).getD 5 0 + (rN32 shaK (wsN l 48) [a0, a1, a2, a3, a4, a5, a6, a7] 64).getD 5 0))).getD 6 0 + (rN32 shaK (wsN l 48) [a0, a1, a2, a3, a4, a5, a6, a7] 64).getD 6 0))).set 7 (IntKind.u32.wrap (((((((([a0, a1, a2, a3, a4, a5, a6, a7].set 0 (IntKind.u32.wrap ([a0, a1, a2, a3, a4, a5, a6, a7].getD 0 0 + (rN32 shaK (wsN l 48) [a0, a1, a2, a3, a4, a5, a6, a7] 64).getD 0 0))).set 1 (IntKind.u32.wrap (([a0, a1, a2, a3, a4, a5, a6, a7].set 0 (IntKind.u32.wrap ([a0, a1, a2, a3, a4, a5, a6, a7].getD 0 0 + (rN32 shaK (wsN l 48) [a0, a1, a2, a3, a4, a5, a6, a7] 64).getD 0 0))).getD 1 0 + (rN32 shaK (wsN l 48) [a0, a1, a2, a3, a4, a5, a6, a7] 64).getD 1 0))).set 2 (IntKind.u32.wrap ((([a0, a1, a2, a3, a4, a5, a6, a7].set 0 (IntKind.u32.wrap ([a0, a1, a2, a3, a4, a5, a6, a7].getD 0 0 + (rN32 shaK (wsN l 48) [a0, a1, a2, a3, a4, a5, a6, a7] 64).getD 0 0))).set 1 (IntKind.u32.wrap (([a0, a1, a2, a3, a4, a5, a6, a7].set 0 (IntKind.u32.wrap ([a0, a1, a2, a3, a4, a5, a6, a7].getD 0 0 + (rN32 shaK (wsN l 48) [a0, a1, a2, a3, a4, a5, a6, a7] 64).getD 0 0))).getD 1 0 + (rN32 shaK (wsN l 48) [a0, a1, a2, a3, a4, a5, a6, a7] 64).getD 1 0))).getD 2 0 + (rN32 shaK (wsN l 48) [a0, a1, a2, a3, a4, a5, a6, a7] 64).getD 2 0))).set 3 (IntKind.u32.wrap (((([a0, a1, a2, a3, a4, a5, a6, a7].set 0 (IntKind.u32.wrap ([a0, a1, a2, a3, a4, a5, a6, a7].getD 0 0 + (rN32 shaK (wsN l 48) [a0, a1, a2, a3, a4, a5, a6, a7] 64).getD 0 0))).set 1 (IntKind.u32.wrap (([a0, a1, a2, a3, a4, a5, a6, a7].set 0 (IntKind.u32.wrap ([a0, a1, a2, a3, a4, a5, a6, a7].getD 0 0 + (rN32 shaK (wsN l 48) [a0, a1, a2, a3, a4, a5, a6, a7] 64).getD 0 0))).getD 1 0 + (rN32 shaK (wsN l 48) [a0, a1, a2, a3, a4, a5, a6, a7] 64).getD 1 0))).set 2 (IntKind.u32.wrap ((([a0, a1, a2, a3, a4, a5, a6, a7].set 0 (IntKind.u32.wrap ([a0, a1, a2, a3, a4, a5, a6, a7].getD 0 0 + (rN32 shaK (wsN l 48) [a0, a1, a2, a3, a4, a5, a6, a7] 64).getD 0 0))).set 1 (IntKind.u32.wrap (([a0, a1, a2, a3, a4, a5, a6, a7].set 0 (IntKind.u32.wrap ([a0, a1, a2, a3, a4, a5, a6, a7].getD 0 0 + (rN32 shaK (wsN l 48) [a0, a1, a2, a3, a4, a5, a6, a7] 64).getD 0 0))).getD 1 0 + (rN32 shaK (wsN l 48) [a0, a1, a2, a3, a4, a5, a6, a7] 64).getD 1 0))).getD 2 0 + (rN32 shaK (wsN l 48) [a0, a1, a2, a3, a4, a5, a6, a7] 64).getD 2 0))).getD 3 0 + (rN32 shaK (wsN l 48) [a0, a1, a2, a3, a4, a5, a6, a7] 64).getD 3 0))).set 4 (IntKind.u32.wrap ((((([a0, a1, a2, a3, a4, a5, a6, a7].set 0 (IntKind.u32.wrap ([a0, a1, a2, a3, a4, a5, a6, a7].getD 0 0 + (rN32 shaK (wsN l 48) [a0, a1, a2, a3, a4, a5, a6, a7] 64).getD 0 0))).set 1 (IntKind.u32.wrap (([a0, a1, a2, a3, a4, a5, a6, a7].set 0 (IntKind.u32.wrap ([a0, a1, a2, a3, a4, a5, a6, a7].getD 0 0 + (rN32 shaK (wsN l 48) [a0, a1, a2, a3, a4, a5, a6, a7] 64).getD 0 0))).getD 1 0 + (rN32 shaK (wsN l 48) [a0, a1, a2, a3, a4, a5, a6, a7] 64).getD 1 0))).set 2 (IntKind.u32.wrap ((([a0, a1, a2, a3, a4, a5, a6, a7].set 0 (IntKind.u32.wrap ([a0, a1, a2, a3, a4, a5, a6, a7].getD 0 0 + (rN32 shaK (wsN l 48) [a0, a1, a2, a3, a4, a5, a6, a7] 64).getD 0 0))).set 1 (IntKind.u32.wrap (([a0, a1, a2, a3, a4, a5, a6, a7].set 0 (IntKind.u32.wrap ([a0, a1, a2, a3, a4, a5, a6, a7].getD 0 0 + (rN32 shaK (wsN l 48) [a0, a1, a2, a3, a4, a5, a6, a7] 64).getD 0 0))).getD 1 0 + (rN32 shaK (wsN l 48) [a0, a1, a2, a3, a4, a5, a6, a7] 64).getD 1 0))).getD 2 0 + (rN32 shaK (wsN l 48) [a0, a1, a2, a3, a4, a5, a6, a7] 64).getD 2 0))).set 3 (IntKind.u32.wrap (((([a0, a1, a2, a3, a4, a5, a6, a7].set 0 (IntKind.u32.wrap ([a0, a1, a2, a3, a4, a5, a6, a7].getD 0 0 + (rN32 shaK (wsN l 48) [a0, a1, a2, a3, a4, a5, a6, a7] 64).getD 0 0))).set 1 (IntKind.u32.wrap (([a0, a1, a2, a3, a4, a5, a6, a7].set 0 (IntKind.u32.wrap ([a0, a1, a2, a3, a4, a5, a6, a7].getD 0 0 + (rN32 shaK (wsN l 48) [a0, a1, a2, a3, a4, a5, a6, a7] 64).getD 0 0))).getD 1 0 + (rN32 shaK (wsN l 48) [a0, a1, a2, a3, a4, a5, a6, a7] 64).getD 1 0))).set 2 (IntKind.u32.wrap ((([a0, a1, a2, a3, a4, a5, a6, a7].set 0 (IntKind.u32.wrap ([a0, a1, a2, a3, a4, a5, a6, a7].getD 0 0 + (rN32 shaK (wsN l 48) [a0, a1, a2, a3, a4, a5, a6, a7] 64).getD 0 0))).set 1 (IntKind.u32.wrap (([a0, a1, a2, a3, a4, a5, a6, a7].set 0 (IntKind.u32.wrap ([a0, a1, a2, a3, a4, a5, a6, a7].getD 0 0 + (rN32 shaK (wsN l 48) [a0, a1, a2, a3, a4, a5, a6, a7] 64).getD 0 0))).getD 1 0 + (rN32 shaK (wsN l 48) [a0, a1, a2, a3, a4, a5, a6, a7] 64).getD 1 0))).getD 2 0 + (rN32 shaK (wsN l 48) [a0, a1, a2, a3, a4, a5, a6, a7] 64).getD 2 0))).getD 3 0 + (rN32 shaK (wsN l 48) [a0, a1, a2, a3, a4, a5, a6, a7] 64).getD 3 0))).getD 4 0 + (rN32 shaK (wsN l 48) [a0, a1, a2, a3, a4, a5, a6, a7] 64).getD 4 0))).set 5 (IntKind.u32.wrap (((((([a0, a1, a2, a3, a4, a5, a6, a7].set 0 (IntKind.u32.wrap ([a0, a1, a2, a3, a4, a5, a6, a7].getD 0 0 + (rN32 shaK (wsN l 48) [a0, a1, a2, a3, a4, a5, a6, a7] 64).getD 0 0))).set 1 (IntKind.u32.wrap (([a0, a1, a2, a3, a4, a5, a6, a7].set 0 (IntKind.u32.wrap ([a0, a1, a2, a3, a4, a5, a6, a7].getD 0 0 + (rN32 shaK (wsN l 48) [a0, a1, a2, a3, a4, a5, a6, a7] 64).getD 0 0))).getD 1 0 + (rN32 shaK (wsN l 48) [a0, a1, a2, a3, a4, a5, a6, a7] 64).getD 1 0))).set 2 (IntKind.u32.wrap ((([a0, a1, a2, a3, a4, a5, a6, a7].set 0 (IntKind.u32.wrap ([a0, a1, a2, a3, a4, a5, a6, a7].getD 0 0 + (rN32 shaK (wsN l 48) [a0, a1, a2, a3, a4, a5, a6, a7] 64).getD 0 0))).set 1 (IntKind.u32.wrap (([a0, a1, a2, a3, a4, a5, a6, a7].set 0 (IntKind.u32.wrap ([a0, a1, a2, a3, a4, a5, a6, a7].getD 0 0 + (rN32 shaK (wsN l 48) [a0, a1, a2, a3, a4, a5, a6, a7] 64).getD 0 0))).getD 1 0 + (rN32 shaK (wsN l 48) [a0, a1, a2, a3, a4, a5, a6, a7] 64).getD 1 0))).getD 2 0 + (rN32 shaK (wsN l 48) [a0, a1, a2, a3, a4, a5, a6, a7] 64).getD 2 0))).set 3 (IntKind.u32.wrap (((([a0, a1, a2, a3, a4, a5, a6, a7].set 0 (IntKind.u32.wrap ([a0, a1, a2, a3, a4, a5, a6, a7].getD 0 0 + (rN32 shaK (wsN l 48) [a0, a1, a2, a3, a4, a5, a6, a7] 64).getD 0 0))).set 1 (IntKind.u32.wrap (([a0, a1, a2, a3, a4, a5, a6, a7].set 0 (IntKind.u32.wrap ([a0, a1, a2, a3, a4, a5, a6, a7].getD 0 0 + (rN32 shaK (wsN l 48) [a0, a1, a2, a3, a4, a5, a6, a7] 64).getD 0 0))).getD 1 0 + (rN32 shaK (wsN l 48) [a0, a1, a2, a3, a4, a5, a6, a7] 64).getD 1 0))).set 2 (IntKind.u32.wrap ((([a0, a1, a2, a3, a4, a5, a6, a7].set 0 (IntKind.u32.wrap ([a0, a1, a2, a3, a4, a5, a6, a7].getD 0 0 + (rN32 shaK (wsN l 48) [a0, a1, a2, a3, a4, a5, a6, a7] 64).getD 0 0))).set 1 (IntKind.u32.wrap (([a0, a1, a2, a3, a4, a5, a6, a7].set 0 (IntKind.u32.wrap ([a0, a1, a2, a3, a4, a5, a6, a7].getD 0 0 + (rN32 shaK (wsN l 48) [a0, a1, a2, a3, a4, a5, a6, a7] 64).getD 0 0))).getD 1 0 + (rN32 shaK (wsN l 48) [a0, a1, a2, a3, a4, a5, a6, a7] 64).getD 1 0))).getD 2 0 + (rN32 shaK (wsN l 48) [a0, a1, a2, a3, a4, a5, a6, a7] 64).getD 2 0))).getD 3 0 + (rN32 shaK (wsN l 48) [a0, a1, a2, a3, a4, a5, a6, a7] 64).getD 3 0))).set 4 (IntKind.u32.wrap ((((([a0, a1, a2, a3, a4, a5, a6, a7].set 0 (IntKind.u32.wrap ([a0, a1, a2, a3, a4, a5, a6, a7].getD 0 0 + (rN32 shaK (wsN l 48) [a0, a1, a2, a3, a4, a5, a6, a7] 64).getD 0 0))).set 1 (IntKind.u32.wrap (([a0, a1, a2, a3, a4, a5, a6, a7].set 0 (IntKind.u32.wrap ([a0, a1, a2, a3, a4, a5, a6, a7].getD 0 0 + (rN32 shaK (wsN l 48) [a0, a1, a2, a3, a4, a5, a6, a7] 64).getD 0 0))).getD 1 0 + (rN32 shaK (wsN l 48) [a0, a1, a2, a3, a4, a5, a6, a7] 64).getD 1 0))).set 2 (IntKind.u32.wrap ((([a0, a1, a2, a3, a4, a5, a6, a7].set 0 (IntKind.u32.wrap ([a0, a1, a2, a3, a4, a5, a6, a7].getD 0 0 + (rN32 shaK (wsN l 48) [a0, a1, a2, a3, a4, a5, a6, a7] 64).getD 0 0))).set 1 (IntKind.u32.wrap (([a0, a1, a2, a3, a4, a5, a6, a7].set 0 (IntKind.u32.wrap ([a0, a1, a2, a3, a4, a5, a6, a7].getD 0 0 + (rN32 shaK (wsN l 48) [a0, a1, a2, a3, a4, a5, a6, a7] 64).getD 0 0))).getD 1 0 + (rN32 shaK (wsN l 48) [a0, a1, a2, a3, a4, a5, a6, a7] 64).getD 1 0))).getD 2 0 + (rN32 shaK (wsN l 48) [a0, a1, a2, a3, a4, a5, a6, a7] 64).getD 2 0))).set 3 (IntKind.u32.wrap (((([a0, a1, a2, a3, a4, a5, a6, a7].set 0 (IntKind.u32.wrap ([a0, a1, a2, a3, a4, a5, a6, a7].getD 0 0 + (rN32 shaK (wsN l 48) [a0, a1, a2, a3, a4, a5, a6, a7] 64).getD 0 0))).set 1 (IntKind.u32.wrap (([a0, a1, a2, a3, a4, a5, a6, a7].set 0 (IntKind.u32.wrap ([a0, a1, a2, a3, a4, a5, a6, a7].getD 0 0 + (rN32 shaK (wsN l 48) [a0, a1, a2, a3, a4, a5, a6, a7] 64).getD 0 0))).getD 1 0 + (rN32 shaK (wsN l 48) [a0, a1, a2, a3, a4, a5, a6, a7] 64).getD 1 0))).set 2 (IntKind.u32.wrap ((([a0, a1, a2, a3, a4, a5, a6, a7].set 0 (IntKind.u32.wrap ([a0, a1, a2, a3, a4, a5, a6, a7].getD 0 0 + (rN32 shaK (wsN l 48) [a0, a1, a2, a3, a4, a5, a6, a7] 64).getD 0 0))).set 1 (IntKind.u32.wrap (([a0, a1, a2, a3, a4, a5, a6, a7].set 0 (IntKind.u32.wrap ([a0, a1, a2, a3, a4, a5, a6, a7].getD 0 0 + (rN32 shaK (wsN l 48) [a0, a1, a2, a3, a4, a5, a6, a7] 64).getD 0 0))).getD 1 0 + (rN32 shaK (wsN l 48) [a0, a1, a2, a3, a4, a5, a6, a7] 64).getD 1 0))).getD 2 0 + (rN32 shaK (wsN l 48) [a0, a1, a2, a3, a4, a5, a6, a7] 64).getD 2 0))).getD 3 0 + (rN32 shaK (wsN l 48) [a0, a1, a2, a3, a4, a5, a6, a7] 64).getD 3 0))).getD 4 0 + (rN32 shaK (wsN l 48) [a0, a1, a2, a3, a4, a5, a6, a7] 64).getD 4 0))).getD 5 0 + (rN32 shaK (wsN l 48) [a0, a1, a2, a3, a4, a5, a6, a7] 64).getD 5 0))).set 6 (IntKind.u32.wrap ((((((([a0, a1, a2, a3, a4, a5, a6, a7].set 0 (IntKind.u32.wrap ([a0, a1, a2, a3, a4, a5, a6, a7].getD 0 0 + (rN32 shaK (wsN l 48) [a0, a1, a2, a3, a4, a5, a6, a7] 64).getD 0 0))).set 1 (IntKind.u32.wrap (([a0, a1, a2, a3, a4, a5, a6, a7].set 0 (IntKind.u32.wrap ([a0, a1, a2, a3, a4, a5, a6, a7].getD 0 0 + (rN32 shaK (wsN l 48) [a0, a1, a2, a3, a4, a5, a6, a7] 64).getD 0 0))).getD 1 0 + (rN32 shaK (wsN l 48) [a0, a1, a2, a3, a4, a5, a6, a7] 64).getD 1 0))).set 2 (IntKind.u32.wrap ((([a0, a1, a2, a3, a4, a5, a6, a7].set 0 (IntKind.u32.wrap ([a0, a1, a2, a3, a4, a5, a6, a7].getD 0 0 + (rN32 shaK (wsN l 48) [a0, a1, a2, a3, a4, a5, a6, a7] 64).getD 0 0))).set 1 (IntKind.u32.wrap (([a0, a1, a2, a3, a4, a5, a6, a7].set 0 (IntKind.u32.wrap ([a0, a1, a2, a3, a4, a5, a6, a7].getD 0 0 + (rN32 shaK (wsN l 48) [a0, a1, a2, a3, a4, a5, a6, a7] 64).getD 0 0))).getD 1 0 + (rN32 shaK (wsN l 48) [a0, a1, a2, a3, a4, a5, a6, a7] 64).getD 1 0))).getD 2 0 + (rN32 shaK (wsN l 48) [a0, a1, a2, a3, a4, a5, a6, a7] 64).getD 2 0))).set 3 (IntKind.u32.wrap (((([a0, a1, a2, a3, a4, a5, a6, a7].set 0 (IntKind.u32.wrap ([a0, a1, a2, a3, a4, a5, a6, a7].getD 0 0 + (rN32 shaK (wsN l 48) [a0, a1, a2, a3, a4, a5, a6, a7] 64).getD 0 0))).set 1 (IntKind.u32.wrap (([a0, a1, a2, a3, a4, a5, a6, a7].set 0 (IntKind.u32.wrap ([a0, a1, a2, a3, a4, a5, a6, a7].getD 0 0 + (rN32 shaK (wsN l 48) [a0, a1, a2, a3, a4, a5, a6, a7] 64).getD 0 0))).getD 1 0 + (rN32 shaK (wsN l 48) [a0, a1, a2, a3, a4, a5, a6, a7] 64).getD 1 0))).set 2 (IntKind.u32.wrap ((([a0, a1, a2, a3, a4, a5, a6, a7].set 0 (IntKind.u32.wrap ([a0, a1, a2, a3, a4, a5, a6, a7].getD 0 0 + (rN32 shaK (wsN l 48) [a0, a1, a2, a3, a4, a5, a6, a7] 64).getD 0 0))).set 1 (IntKind.u32.wrap (([a0, a1, a2, a3, a4, a5, a6, a7].set 0 (IntKind.u32.wrap ([a0, a1, a2, a3, a4, a5, a6, a7].getD 0 0 + (rN32 shaK (wsN l 48) [a0, a1, a2, a3, a4, a5, a6, a7] 64).getD 0 0))).getD 1 0 + (rN32 shaK (wsN l 48) [a0, a1, a2, a3, a4, a5, a6, a7] 64).getD 1 0))).getD 2 0 + (rN32 shaK (wsN l 48) [a0, a1, a2, a3, a4, a5, a6, a7] 64).getD 2 0))).getD 3 0 + (rN32 shaK (wsN l 48) [a0, a1, a2, a3, a4, a5, a6, a7] 64).getD 3 0))).set 4 (IntKind.u32.wrap ((((([a0, a1, a2, a3, a4, a5, a6, a7].set 0 (IntKind.u32.wrap ([a0, a1, a2, a3, a4, a5, a6, a7].getD 0 0 + (rN32 shaK (wsN l 48) [a0, a1, a2, a3, a4, a5, a6, a7] 64).getD 0 0))).set 1 (IntKind.u32.wrap (([a0, a1, a2, a3, a4, a5, a6, a7].set 0 (IntKind.u32.wrap ([a0, a1, a2, a3, a4, a5, a6, a7].getD 0 0 + (rN32 shaK (wsN l 48) [a0, a1, a2, a3, a4, a5, a6, a7] 64).getD 0 0))).getD 1 0 + (rN32 shaK (wsN l 48) [a0, a1, a2, a3, a4, a5, a6, a7] 64).getD 1 0))).set 2 (IntKind.u32.wrap ((([a0, a1, a2, a3, a4, a5, a6, a7].set 0 (IntKind.u32.wrap ([a0, a1, a2, a3, a4, a5, a6, a7].getD 0 0 + (rN32 shaK (wsN l 48) [a0, a1, a2, a3, a4, a5, a6, a7] 64).getD 0 0))).set 1 (IntKind.u32.wrap (([a0, a1, a2, a3, a4, a5, a6, a7].set 0 (IntKind.u32.wrap ([a0, a1, a2, a3, a4, a5, a6, a7].getD 0 0 + (rN32 shaK (wsN l 48) [a0, a1, a2, a3, a4, a5, a6, a7] 64).getD 0 0))).getD 1 0 + (rN32 shaK (wsN l 48) [a0, a1, a2, a3, a4, a5, a6, a7] 64).getD 1 0))).getD 2 0 + (rN32 shaK (wsN l 48) [a0, a1, a2, a3, a4, a5, a6, a7] 64).getD 2 0))).set 3 (IntKind.u32.wrap (((([a0, a1, a2, a3, a4, a5, a6, a7].set 0 (IntKind.u32.wrap ([a0, a1, a2, a3, a4, a5, a6, a7].getD 0 0 + (rN32 shaK (wsN l 48) [a0, a1, a2, a3, a4, a5, a6, a7] 64).getD 0 0))).set 1 (IntKind.u32.wrap (([a0, a1, a2, a3, a4, a5, a6, a7].set 0 (IntKind.u32.wrap ([a0, a1, a2, a3, a4, a5, a6, a7].getD 0 0 + (rN32 shaK (wsN l 48) [a0, a1, a2, a3, a4, a5, a6, a7] 64).getD 0 0))).getD 1 0 + (rN32 shaK (wsN l 48) [a0, a1, a2, a3, a4, a5, a6, a7] 64).getD 1 0))).set 2 (IntKind.u32.wrap ((([a0, a1, a2, a3, a4, a5, a6, a7].set 0 (IntKind.u32.wrap ([a0, a1, a2, a3, a4, a5, a6, a7].getD 0 0 + (rN32 shaK (wsN l 48) [a0, a1, a2, a3, a4, a5, a6, a7] 64).getD 0 0))).set 1 (IntKind.u32.wrap (([a0, a1, a2, a3, a4, a5, a6, a7].set 0 (IntKind.u32.wrap ([a0, a1, a2, a3, a4, a5, a6, a7].getD 0 0 + (rN32 shaK (wsN l 48) [a0, a1, a2, a3, a4, a5, a6, a7] 64).getD 0 0))).getD 1 0 + (rN32 shaK (wsN l 48) [a0, a1, a2, a3, a4, a5, a6, a7] 64).getD 1 0))).getD 2 0 + (rN32 shaK (wsN l 48) [a0, a1, a2, a3, a4, a5, a6, a7] 64).getD 2 0))).getD 3 0 + (rN32 shaK (wsN l 48) [a0, a1, a2, a3, a4, a5, a6, a7] 64).getD 3 0))).getD 4 0 + (rN32 shaK (wsN l 48) [a0, a1, a2, a3, a4, a5, a6, a7] 64).getD 4 0))).set 5 (IntKind.u32.wrap (((((([a0, a1, a2, a3, a4, a5, a6, a7].set 0 (IntKind.u32.wrap ([a0, a1, a2, a3, a4, a5, a6, a7].getD 0 0 + (rN32 shaK (wsN l 48) [a0, a1, a2, a3, a4, a5, a6, a7] 64).getD 0 0))).set 1 (IntKind.u32.wrap (([a0, a1, a2, a3, a4, a5, a6, a7].set 0 (IntKind.u32.wrap ([a0, a1, a2, a3, a4, a5, a6, a7].getD 0 0 + (rN32 shaK (wsN l 48) [a0, a1, a2, a3, a4, a5, a6, a7] 64).getD 0 0))).getD 1 0 + (rN32 shaK (wsN l 48) [a0, a1, a2, a3, a4, a5, a6, a7] 64).getD 1 0))).set 2 (IntKind.u32.wrap ((([a0, a1, a2, a3, a4, a5, a6, a7].set 0 (IntKind.u32.wrap ([a0, a1, a2, a3, a4, a5, a6, a7].getD 0 0 + (rN32 shaK (wsN l 48) [a0, a1, a2, a3, a4, a5, a6, a7] 64).getD 0 0))).set 1 (IntKind.u32.wrap (([a0, a1, a2, a3, a4, a5, a6, a7].set 0 (IntKind.u32.wrap ([a0, a1, a2, a3, a4, a5, a6, a7].getD 0 0 + (rN32 shaK (wsN l 48) [a0, a1, a2, a3, a4, a5, a6, a7] 64).getD 0 0))).getD 1 0 + (rN32 shaK (wsN l 48) [a0, a1, a2, a3, a4, a5, a6, a7] 64).getD 1 0))).getD 2 0 + (rN32 shaK (wsN l 48) [a0, a1, a2, a3, a4, a5, a6, a7] 64).getD 2 0))).set 3 (IntKind.u32.wrap (((([a0, a1, a2, a3, a4, a5, a6, a7].set 0 (IntKind.u32.wrap ([a0, a1, a2, a3, a4, a5, a6, a7].getD 0 0 + (rN32 shaK (wsN l 48) [a0, a1, a2, a3, a4, a5, a6, a7] 64).getD 0 0))).set 1 (IntKind.u32.wrap (([a0, a1, a2, a3, a4, a5, a6, a7].set 0 (IntKind.u32.wrap ([a0, a1, a2, a3, a4, a5, a6, a7].getD 0 0 + (rN32 shaK (wsN l 48) [a0, a1, a2, a3, a4, a5, a6, a7] 64).getD 0 0))).getD 1 0 + (rN32 shaK (wsN l 48) [a0, a1, a2, a3, a4, a5, a6, a7] 64).getD 1 0))).set 2 (IntKind.u32.wrap ((([a0, a1, a2, a3, a4, a5, a6, a7].set 0 (IntKind.u32.wrap ([a0, a1, a2, a3, a4, a5, a6, a7].getD 0 0 + (rN32 shaK (wsN l 48) [a0, a1, a2, a3, a4, a5, a6, a7] 64).getD 0 0))).set 1 (IntKind.u32.wrap (([a0, a1, a2, a3, a4, a5, a6, a7].set 0 (IntKind.u32.wrap ([a0, a1, a2, a3, a4, a5, a6, a7].getD 0 0 + (rN32 shaK (wsN l 48) [a0, a1, a2, a3, a4, a5, a6, a7] 64).getD 0 0))).getD 1 0 + (rN32 shaK (wsN l 48) [a0, a1, a2, a3, a4, a5, a6, a7] 64).getD 1 0))).getD 2 0 + (rN32 shaK (wsN l 48) [a0, a1, a2, a3, a4, a5, a6, a7] 64).getD 2 0))).getD 3 0 + (rN32 shaK (wsN l 48) [a0, a1, a2, a3, a4, a5, a6, a7] 64).getD 3 0))).set 4 (IntKind.u32.wrap ((((([a0, a1, a2, a3, a4, a5, a6, a7].set 0 (IntKind.u32.wrap ([a0, a1, a2, a3, a4, a5, a6, a7].getD 0 0 + (rN32 shaK (wsN l 48) [a0, a1, a2, a3, a4, a5, a6, a7] 64).getD 0 0))).set 1 (IntKind.u32.wrap (([a0, a1, a2, a3, a4, a5, a6, a7].set 0 (IntKind.u32.wrap ([a0, a1, a2, a3, a4, a5, a6, a7].getD 0 0 + (rN32 shaK (wsN l 48) [a0, a1, a2, a3, a4, a5, a6, a7] 64).getD 0 0))).getD 1 0 + (rN32 shaK (wsN l 48) [a0, a1, a2, a3, a4, a5, a6, a7] 64).getD 1 0))).set 2 (IntKind.u32.wrap ((([a0, a1, a2, a3, a4, a5, a6, a7].set 0 (IntKind.u32.wrap ([a0, a1, a2, a3, a4, a5, a6, a7].getD 0 0 + (rN32 shaK (wsN l 48) [a0, a1, a2, a3, a4, a5, a6, a7] 64).getD 0 0))).set 1 (IntKind.u32.wrap (([a0, a1, a2, a3, a4, a5, a6, a7].set 0 (IntKind.u32.wrap ([a0, a1, a2, a3, a4, a5, a6, a7].getD 0 0 + (rN32 shaK (wsN l 48) [a0, a1, a2, a3, a4, a5, a6, a7] 64).getD 0 0))).getD 1 0 + (rN32 shaK (wsN l 48) [a0, a1, a2, a3, a4, a5, a6, a7] 64).getD 1 0))).getD 2 0 + (rN32 shaK (wsN l 48) [a0, a1, a2, a3, a4, a5, a6, a7] 64).getD 2 0))).set 3 (IntKind.u32.wrap (((([a0, a1, a2, a3, a4, a5, a6, a7].set 0 (IntKind.u32.wrap ([a0, a1, a2, a3, a4, a5, a6, a7].getD 0 0 + (rN32 shaK (wsN l 48) [a0, a1, a2, a3, a4, a5, a6, a7] 64).getD 0 0))).set 1 (IntKind.u32.wrap (([a0, a1, a2, a3, a4, a5, a6, a7].set 0 (IntKind.u32.wrap ([a0, a1, a2, a3, a4, a5, a6, a7].getD 0 0 + (rN32 shaK (wsN l 48) [a0, a1, a2, a3, a4, a5, a6, a7] 64).getD 0 0))).getD 1 0 + (rN32 shaK (wsN l 48) [a0, a1, a2, a3, a4, a5, a6, a7] 64).getD 1 0))).set 2 (IntKind.u32.wrap ((([a0, a1, a2, a3, a4, a5, a6, a7].set 0 (IntKind.u32.wrap ([a0, a1, a2, a3, a4, a5, a6, a7].getD 0 0 + (rN32 shaK (wsN l 48) [a0, a1, a2, a3, a4, a5, a6, a7] 64).getD 0 0))).set 1 (IntKind.u32.wrap (([a0, a1, a2, a3, a4, a5, a6, a7].set 0 (IntKind.u32.wrap ([a0, a1, a2, a3, a4, a5, a6, a7].getD 0 0 + (rN32 shaK (wsN l 48) [a0, a1, a2, a3, a4, a5, a6, a7] 64).getD 0 0))).getD 1 0 + (rN32 shaK (wsN l 48) [a0, a1, a2, a3, a4, a5, a6, a7] 64).getD 1 0))).getD 2 0 + (rN32 shaK (wsN l 48) [a0, a1, a2, a3, a4, a5, a6, a7] 64).getD 2 0))).getD 3 0 + (rN32 shaK (wsN l 48) [a0, a1, a2, a3, a4, a5, a6, a7] 64).getD 3 0))).getD 4 0 + (rN32 shaK (wsN l 48) [a0, a1, a2, a3, a4, a5, a6, a7] 64).getD 4 0))).getD 5 0 + (rN32 shaK (wsN l 48) [a0, a1, a2, a3, a4, a5, a6, a7] 64).getD 5 0))).getD 6 0 + (rN32 shaK (wsN l 48) [a0, a1, a2, a3, a4, a5, a6, a7] 64).getD 6 0))).getD 7 0 + (rN32 shaK (wsN l 48) [a0, a1, a2, a3, a4, a5, a6, a7] 64).getD 7 0))))) [] []) = some (Out.mk (AV.c (CV.arr IntKind.u32 8 (shaTake shaK [a0, a1, a2, a3, a4, a5, a6, a7] l))) [] [])) (by kernel_rfl) ?_
  exact ⟨hp, rtake_l0 hX _ _, by kernel_rfl, rfl, by kernel_rfl⟩
 ·cases hF
end Go.Proofs.YtdcganigfihkjaaGreatDoor
/- The references ref05.Sum and ref07. -/
namespace Go.Proofs.YtdcganigfihkjaaGreatDoor
open Go Go.Ab Go.RowKit Go.Chr
set_option maxRecDepth 100000
noncomputable def G16a : Tab := (117, lift [true, true] rTakeS) :: G15b
theorem G16a_ok : TabOk CX G16a := .cons (lift_ok rTake_ok _) G15b_ok
def pdI (l : List Int) (i : Nat) : St := ⟨[(3, .own 0 1 (tl0 l i).length), (0, .c (.ints .u8 l))], [(0, byB (tl0 l i))], 1, 36⟩
theorem padded_l0 {X : Snap} (hX : ∀ b L, X.ι b = some L → b < 0) (l : List Int) : LOk CX X 0 (loopAt 0 Tryz.f116) (loopW 0 [] [3, 0] (pdI l 0) (l.length ≤ 1000000000) false (pdI l (padZ l.length))) := by
 refine loopW_ok hmo G16a_ok (by kernel_rfl) hX [3, 0] [] (pdI l) (fun i => i ≤ padZ l.length) (fun i => padZ l.length - i) 0 (fun _ => rfl) (fun _ => by omega) ?_
 intro hp i hi hfa
 refine ⟨[], 999, ?_⟩
 have hl := tl0_len l i
 have hz : padZ l.length < 64 := by unfold padZ; omega
 refine kto (q := bif (Nat.cast (R := Int) (tl0 l i).length).tmod 64 != 56 then bif (((Body.ints IntKind.u8 (tl0 l i)).len + 1) * 1).ble 140737488355328 && ((Body.ints IntKind.u8 (tl0 l i)).len + 1).ble 4611686018427387904 then ∃ (v' : Nat), some (St.mk [(3, AV.own 0 1 (Body.ints IntKind.u8 (tl0 l i ++ [0])).len), (0, AV.c (CV.ints IntKind.u8 l))] [(0, Blk'.cells 5 1 (Body.ints IntKind.u8 (tl0 l i ++ [0])))] 1 36) = some (pdI l v') ∧ padZ l.length - v' < padZ l.length - i ∧ v' ≤ padZ l.length else False else false = false ∧ some (St.mk [(3, AV.own 0 1 (tl0 l i).length), (0, AV.c (CV.ints IntKind.u8 l))] [(0, Blk'.cells 5 1 (Body.ints IntKind.u8 (tl0 l i)))] 1 36) = some (pdI l (padZ l.length))) (by kernel_rfl) ?_
 have hp : l.length ≤ 1000000000 := hp
 rw [tl0_succ]
 refine cond_intro (fun h => ?_) (fun h => ?_)
 ·rw [hl] at h
  have hi2 : i < padZ l.length := by
   rcases Nat.lt_or_ge i (padZ l.length) with h1 | h1
   ·exact h1
   ·exfalso
    have e : i = padZ l.length := by omega
    subst e
    simp at h
    apply h
    rw [Int.tmod_eq_emod_of_nonneg (by omega)]
    unfold padZ at *; omega
  exact cond_at (by simp [Body.len, hl]; omega) ⟨i + 1, rfl, by omega, by omega⟩
 ·rw [hl] at h
  have e : i = padZ l.length := by
   simp at h
   rw [Int.tmod_eq_emod_of_nonneg (by omega)] at h
   unfold padZ at *; omega
  subst e; exact ⟨by simp, rfl⟩
def shX (l : List Int) : Int := IntKind.u64.wrap (8 * IntKind.u64.wrap (l.length : Int))
def peI (l : List Int) (i : Nat) : St := ⟨[(3, .own 0 1 (tl2 l l.length i).length), (4, .c (.int .u64 (shN (shX l) i))), (5, .c (.int .i64 (i : Nat)))], [(0, byB (tl2 l l.length i))], 1, 36⟩
def peF (l : List Int) : St := ⟨[(3, .own 0 1 (shaPad l l.length).length)], [(0, byB (shaPad l l.length))], 1, 36⟩
theorem padded_l2 {X : Snap} (hX : ∀ b L, X.ι b = some L → b < 0) (l : List Int) : LOk CX X 2 (loopAt 2 Tryz.f116) (loopW 0 [] [3, 4, 5] (peI l 0) (l.length ≤ 1000000000) false (peF l)) := by
 refine loopW_ok hmo G16a_ok (by kernel_rfl) hX [3] [] (peI l) (fun i => i ≤ 8) (fun i => 8 - i) 0 (fun _ => rfl) (fun _ => by omega) ?_
 intro hp i hi hfa
 refine ⟨[], 999, ?_⟩
 have hz : padZ l.length < 64 := by unfold padZ; omega
 have hl : (tl2 l l.length i).length = l.length + 1 + padZ l.length + i := by simp [tl2, tl0_len, len8_len]; omega
 refine kto (q := bif decide ((Nat.cast (R := Int) i) < 8) then bif (((Body.ints IntKind.u8 (tl2 l (Nat.cast (R := Int) l.length) i)).len + 1) * 1).ble 140737488355328 && ((Body.ints IntKind.u8 (tl2 l (Nat.cast (R := Int) l.length) i)).len + 1).ble 4611686018427387904 then ∃ (v' : Nat), some (St.mk [(3, AV.own 0 1 (Body.ints IntKind.u8 (tl2 l (Nat.cast (R := Int) l.length) i ++ [IntKind.u8.wrap (ishr IntKind.u64 (shN (shX l) i) 56)])).len), (4, AV.c (CV.int IntKind.u64 (ishl IntKind.u64 (shN (shX l) i) 8))), (5, AV.c (CV.int IntKind.i64 (IntKind.i64.wrap ((Nat.cast (R := Int) i) + 1))))] [(0, Blk'.cells 5 1 (Body.ints IntKind.u8 (tl2 l (Nat.cast (R := Int) l.length) i ++ [IntKind.u8.wrap (ishr IntKind.u64 (shN (shX l) i) 56)])))] 1 36) = some (peI l v') ∧ 8 - v' < 8 - i ∧ v' ≤ 8 else False else false = false ∧ some (St.mk [(3, AV.own 0 1 (tl2 l (Nat.cast (R := Int) l.length) i).length)] [(0, Blk'.cells 5 1 (Body.ints IntKind.u8 (tl2 l (Nat.cast (R := Int) l.length) i)))] 1 36) = some (peF l)) (by kernel_rfl) ?_
 have hp : l.length ≤ 1000000000 := hp
 simp (disch := omega) only [wi]
 refine cond_intro (fun h => ?_) (fun h => ?_)
 ·simp at h
  have hi8 : i < 8 := by omega
  have e : tl2 l l.length i ++ [IntKind.u8.wrap (ishr .u64 (shN (shX l) i) 56)] = tl2 l l.length (i + 1) := by
   unfold tl2
   rw [List.take_add_one, shN_byte hp hi8, List.append_assoc]; rfl
  rw [e]
  exact cond_at (by simp [Body.len, hl]; omega) ⟨i + 1, rfl, by omega, by omega⟩
 ·simp at h
  have e : i = 8 := by omega
  subst e
  have e : tl2 l l.length 8 = shaPad l l.length := by
   unfold tl2 shaPad tl0
   rw [List.take_of_length_le (by rw [len8_len]; omega)]
  rw [e]
  exact ⟨by simp, rfl⟩
noncomputable def rPaddedS : FSpec := fun xs bl => match xs, bl with
 | [.c (.ints .u8 l)], [] => some (some (l.length ≤ 1000000000), ⟨.own 0 1 (shaPad l l.length).length, [], [byB (shaPad l l.length)]⟩)
 | _, _ => none
theorem rPadded_ok : FnOk CX 116 rPaddedS := by
 refine fnOkF hmo G16a_ok (fn := Tryz.f116) (c := bodyOf' Tryz.f116) (by kernel_rfl) (by kernel_rfl) (by kernel_rfl) ?_
 intro xs bl p o hF hp
 unfold rPaddedS at hF
 split at hF
 ·rename_i l
  injection hF with hF; injection hF with e1 e2; subst e1; subst e2
  have hp : l.length ≤ 1000000000 := hp
  refine ⟨Nat.le_of_ble_eq_true (by kernel_rfl), fun X hX hfa => ⟨[(0, loopW 0 [] [3, 0] (pdI l 0) (l.length ≤ 1000000000) false (pdI l (padZ l.length))), (2, loopW 0 [] [3, 4, 5] (peI l 0) (l.length ≤ 1000000000) false (peF l))], 999, ?_⟩⟩
  refine kto (q := bif ((0 + (Body.ints IntKind.u8 l).len) * 1).ble 140737488355328 && (0 + (Body.ints IntKind.u8 l).len).ble 4611686018427387904 then bif (((Body.ints IntKind.u8 l).len + 1) * 1).ble 140737488355328 && ((Body.ints IntKind.u8 l).len + 1).ble 4611686018427387904 then LOk CX X 0 (loopAt 0 Tryz.f116) (loopW 0 [] [3, 0] (pdI l 0) (l.length ≤ 1000000000) false (pdI l (padZ l.length))) ∧ some (St.mk [(3, AV.own 0 1 (Body.ints IntKind.u8 (l ++ [128])).len), (0, AV.c (CV.ints IntKind.u8 l))] [(0, Blk'.cells 5 1 (Body.ints IntKind.u8 (l ++ [128])))] 1 36) = some (pdI l 0) ∧ l.length ≤ 1000000000 ∧ LOk CX X 2 (loopAt 2 Tryz.f116) (loopW 0 [] [3, 4, 5] (peI l 0) (l.length ≤ 1000000000) false (peF l)) ∧ some (St.mk [(3, AV.own 0 1 (tl0 l (padZ l.length)).length), (4, AV.c (CV.int IntKind.u64 (IntKind.u64.wrap (8 * IntKind.u64.wrap (Nat.cast (R := Int) l.length))))), (5, AV.c (CV.int IntKind.i64 0))] [(0, Blk'.cells 5 1 (Body.ints IntKind.u8 (tl0 l (padZ l.length))))] 1 36) = some (peI l 0) ∧ l.length ≤ 1000000000 ∧ some (Out.mk (AV.own 0 1 (shaPad l (Nat.cast (R := Int) l.length)).length) [] [Blk'.cells 5 1 (Body.ints IntKind.u8 (shaPad l (Nat.cast (R := Int) l.length)))]) = some (Out.mk (AV.own 0 1 (shaPad l (Nat.cast (R := Int) l.length)).length) [] [byB (shaPad l (Nat.cast (R := Int) l.length))]) else False else False) (by kernel_rfl) ?_
  have hz : padZ l.length < 64 := by unfold padZ; omega
  refine cond_at (by simp [Body.len]; omega) <| cond_at (by simp [Body.len]; omega) ⟨padded_l0 hX l, ?_, hp, padded_l2 hX l, ?_, hp, rfl⟩
  ·simp [pdI, tl0, byB, Body.len]
  ·simp [peI, tl2, byB, shN, shX]
 ·cases hF
noncomputable def G16b : Tab := (116, lift [true] rPaddedS) :: G16a
theorem G16b_ok : TabOk CX G16b := .cons (lift_ok rPadded_ok _) G16a_ok
def ruI (P : List Int) (k : Nat) : St := ⟨[(2, .ptr (.l 0) 0 32 0), (3, .ptr (.l 1) 0 8 0), (4, .own 2 1 P.length), (5, .c (.int .i64 ((64 * k : Nat) : Int)))], [(0, hsB hash0), (1, s8 (shaRun shaK shaH P k)), (2, byB P)], 3, 42⟩
def ruF (S : List Int) : St := ⟨[(2, .ptr (.l 0) 0 32 0), (3, .ptr (.l 1) 0 8 0)], [(0, hsB hash0), (1, s8 S)], 2, 42⟩
theorem rsum_l0 {X : Snap} (hX : ∀ b L, X.ι b = some L → b < 0) (P : List Int) : LOk CX X 0 (loopAt 0 Tryz.f94) (loopW 0 [] [2, 3, 4, 5] (ruI P 0) (P.length % 64 = 0 ∧ P.length ≤ 2000000000) false (ruF (shaRun shaK shaH P (P.length / 64)))) := by
 refine loopW_ok hmo G16b_ok (by kernel_rfl) hX [2, 3] [] (ruI P) (fun k => 64 * k ≤ P.length) (fun k => P.length - 64 * k) 0 (fun _ => rfl) (fun _ => by omega) ?_
 intro hp k hk hfa
 refine ⟨[], 999, ?_⟩
 refine kto (q := bif decide ((Nat.cast (R := Int) (64 * k)) < (Nat.cast (R := Int) P.length)) then bif bndB P.length (some (Nat.cast (R := Int) (64 * k))) (some (IntKind.i64.wrap ((Nat.cast (R := Int) (64 * k)) + 64))) then (List.take (natSub (hiB P.length (some (IntKind.i64.wrap ((Nat.cast (R := Int) (64 * k)) + 64)))) (loB (some (Nat.cast (R := Int) (64 * k))))) (List.drop (loB (some (Nat.cast (R := Int) (64 * k)))) P)).length = 64 ∧ ∃ (v' : Nat), some (St.mk [(2, AV.ptr (Base.l 0) 0 32 0), (3, AV.ptr (Base.l 1) 0 8 0), (4, AV.own 2 1 P.length), (5, AV.c (CV.int IntKind.i64 (IntKind.i64.wrap ((Nat.cast (R := Int) (64 * k)) + 64))))] [(0, Blk'.cells 82 32 (Body.els [AV.c (CV.arr IntKind.u8 32 (List.replicate 32 0))])), (1, Blk'.cells 100 8 (Body.els [AV.c (CV.arr IntKind.u32 8 (shaTake shaK (shaRun shaK shaH P k) (List.take (natSub (hiB P.length (some (IntKind.i64.wrap ((Nat.cast (R := Int) (64 * k)) + 64)))) (loB (some (Nat.cast (R := Int) (64 * k))))) (List.drop (loB (some (Nat.cast (R := Int) (64 * k)))) P))))])), (2, Blk'.cells 5 1 (Body.ints IntKind.u8 P))] 3 42) = some (ruI P v') ∧ P.length - 64 * v' < P.length - 64 * k ∧ 64 * v' ≤ P.length else False else false = false ∧ some (St.mk [(2, AV.ptr (Base.l 0) 0 32 0), (3, AV.ptr (Base.l 1) 0 8 0)] [(0, Blk'.cells 82 32 (Body.els [AV.c (CV.arr IntKind.u8 32 (List.replicate 32 0))])), (1, Blk'.cells 100 8 (Body.els [AV.c (CV.arr IntKind.u32 8 (shaRun shaK shaH P k))]))] 2 42) = some (ruF (shaRun shaK shaH P (P.length / 64)))) (by kernel_rfl) ?_
 have hk : 64 * k ≤ P.length := hk
 obtain ⟨h64, hP⟩ : P.length % 64 = 0 ∧ P.length ≤ 2000000000 := hp
 simp (disch := omega) only [wi, bndB, loB, hiB, natSub, Int.toNat_natCast]
 refine cond_intro (fun h => ?_) (fun h => ?_)
 ·simp at h
  have e1 : (((64 * k : Nat) : Int) + 64).toNat - 64 * k = 64 := by omega
  have e3 : ((64 * k : Nat) : Int) + 64 = ((64 * (k + 1) : Nat) : Int) := by omega
  rw [e1, e3]
  exact cond_at (by simp; omega) ⟨by simp; omega, k + 1, rfl, by omega, by omega⟩
 ·simp at h
  have e : P.length / 64 = k := by omega
  rw [e]; exact ⟨by simp, rfl⟩
def roI (S : List Int) (i : Nat) : St := ⟨[(2, .ptr (.l 0) 0 32 0), (3, .ptr (.l 1) 0 8 0), (6, .ptr (.l 2) 0 32 0), (7, .c (.int .i64 (i : Nat)))], [(0, hsB hash0), (1, s8 S), (2, hsB (.arr .u8 32 ((outR S).take i ++ List.replicate (32 - i) 0)))], 3, 42⟩
def roF (S : List Int) : St := ⟨[(2, .ptr (.l 0) 0 32 0), (6, .ptr (.l 1) 0 32 0)], [(0, hsB hash0), (1, hsB (.arr .u8 32 (shaOut S)))], 2, 42⟩
theorem rsum_l2 {X : Snap} (hX : ∀ b L, X.ι b = some L → b < 0) (S : List Int) : LOk CX X 2 (loopAt 2 Tryz.f94) (loopW 0 [] [2, 3, 6, 7] (roI S 0) True false (roF S)) := by
 refine loopW_ok hmo G16b_ok (by kernel_rfl) hX [2, 6] [] (roI S) (fun i => i ≤ 32) (fun i => 32 - i) 0 (fun _ => rfl) (fun _ => by omega) ?_
 intro hp i hi hfa
 refine ⟨[], 999, ?_⟩
 refine kto (q := bif decide ((Nat.cast (R := Int) i) < 32) then bif decide (0 ≤ IntKind.i64.wrap ((Nat.cast (R := Int) i).tdiv 4)) && decide (IntKind.i64.wrap ((Nat.cast (R := Int) i).tdiv 4) < (Nat.cast (R := Int) 8)) then bif decide ((Nat.cast (R := Int) i) < (Nat.cast (R := Int) 32)) then ∃ (v' : Nat), some (St.mk [(2, AV.ptr (Base.l 0) 0 32 0), (3, AV.ptr (Base.l 1) 0 8 0), (6, AV.ptr (Base.l 2) 0 32 0), (7, AV.c (CV.int IntKind.i64 (IntKind.i64.wrap ((Nat.cast (R := Int) i) + 1))))] [(0, Blk'.cells 82 32 (Body.els [AV.c (CV.arr IntKind.u8 32 (List.replicate 32 0))])), (1, Blk'.cells 100 8 (Body.els [AV.c (CV.arr IntKind.u32 8 S)])), (2, Blk'.cells 82 32 (Body.els [AV.c (CV.arr IntKind.u8 32 ((List.take i (Chr.outR S) ++ List.replicate (32 - i) 0).set (0 + (Nat.cast (R := Int) i).toNat * 1) (IntKind.u8.wrap (ishr IntKind.u32 (S.getD (0 + (IntKind.i64.wrap ((Nat.cast (R := Int) i).tdiv 4)).toNat * 1) 0) (IntKind.u32.wrap (24 - IntKind.u32.wrap (8 * IntKind.u32.wrap ((Nat.cast (R := Int) i).tmod 4))))))))]))] 3 42) = some (roI S v') ∧ 32 - v' < 32 - i ∧ v' ≤ 32 else False else False else false = false ∧ some (St.mk [(2, AV.ptr (Base.l 0) 0 32 0), (6, AV.ptr (Base.l 1) 0 32 0)] [(0, Blk'.cells 82 32 (Body.els [AV.c (CV.arr IntKind.u8 32 (List.replicate 32 0))])), (1, Blk'.cells 82 32 (Body.els [AV.c (CV.arr IntKind.u8 32 (List.take i (Chr.outR S) ++ List.replicate (32 - i) 0))]))] 2 42) = some (roF S)) (by kernel_rfl) ?_
 have hi : i ≤ 32 := hi
 have e1 : ((i : Nat) : Int).tdiv 4 = ((i / 4 : Nat) : Int) := by rw [Int.tdiv_eq_ediv_of_nonneg (by omega)]; omega
 have e2 : ((i : Nat) : Int).tmod 4 = ((i % 4 : Nat) : Int) := by rw [Int.tmod_eq_emod_of_nonneg (by omega)]; omega
 rw [e1, e2]
 simp (disch := omega) only [wi, wu32, Nat.mul_one, Nat.zero_add, Int.toNat_natCast]
 refine cond_intro (fun h => ?_) (fun h => ?_)
 ·simp at h
  have hi : i < 32 := by omega
  rw [fill_set (outR_len S) hi (outR_at S hi)]
  exact cond_at (by simp; omega) <| cond_at (by simp; omega) ⟨i + 1, rfl, by omega, by omega⟩
 ·simp at h
  have e : i = 32 := by omega
  subst e
  have e : (outR S).take 32 ++ List.replicate (32 - 32) 0 = shaOut S := by
   rw [List.take_of_length_le (by rw [outR_len]; omega), outR_eq]; simp
  rw [e]
  exact ⟨by simp, rfl⟩
noncomputable def rSumS : FSpec := fun xs bl => match xs, bl with
 | [.c (.ints .u8 l)], [] => some (some (l.length ≤ 1000000000), ⟨.c (.arr .u8 32 (shaF shaK shaH l)), [], []⟩)
 | _, _ => none
theorem rSum_ok : FnOk CX 94 rSumS := by
 refine fnOkF hmo G16b_ok (fn := Tryz.f94) (c := bodyOf' Tryz.f94) (by kernel_rfl) (by kernel_rfl) (by kernel_rfl) ?_
 intro xs bl p o hF hp
 unfold rSumS at hF
 split at hF
 ·rename_i l
  injection hF with hF; injection hF with e1 e2; subst e1; subst e2
  have hp : l.length ≤ 1000000000 := hp
  refine ⟨Nat.le_of_ble_eq_true (by kernel_rfl), fun X hX hfa => ⟨[(0, loopW 0 [] [2, 3, 4, 5] (ruI (shaPad l l.length) 0) ((shaPad l l.length).length % 64 = 0 ∧ (shaPad l l.length).length ≤ 2000000000) false (ruF (shaRun shaK shaH (shaPad l l.length) ((shaPad l l.length).length / 64)))), (2, loopW 0 [] [2, 3, 6, 7] (roI (shaRun shaK shaH (shaPad l l.length) ((shaPad l l.length).length / 64)) 0) True false (roF (shaRun shaK shaH (shaPad l l.length) ((shaPad l l.length).length / 64))))], 999, ?_⟩⟩
  refine kto (q := l.length ≤ 1000000000 ∧ LOk CX X 0 (loopAt 0 Tryz.f94) (loopW 0 [] [2, 3, 4, 5] (ruI (shaPad l (Nat.cast (R := Int) l.length)) 0) ((shaPad l (Nat.cast (R := Int) l.length)).length % 64 = 0 ∧ (shaPad l (Nat.cast (R := Int) l.length)).length ≤ 2000000000) false (ruF (shaRun shaK shaH (shaPad l (Nat.cast (R := Int) l.length)) ((shaPad l (Nat.cast (R := Int) l.length)).length / 64)))) ∧ some (St.mk [(2, AV.ptr (Base.l 0) 0 32 0), (3, AV.ptr (Base.l 1) 0 8 0), (4, AV.own 2 1 (shaPad l (Nat.cast (R := Int) l.length)).length), (5, AV.c (CV.int IntKind.i64 0))] [(0, Blk'.cells 82 32 (Body.els [AV.c (CV.arr IntKind.u8 32 (List.replicate 32 0))])), (1, Blk'.cells 100 8 (Body.els [AV.c (CV.arr IntKind.u32 8 shaH)])), (2, Blk'.cells 5 1 (Body.ints IntKind.u8 (shaPad l (Nat.cast (R := Int) l.length))))] 3 42) = some (ruI (shaPad l (Nat.cast (R := Int) l.length)) 0) ∧ ((shaPad l (Nat.cast (R := Int) l.length)).length % 64 = 0 ∧ (shaPad l (Nat.cast (R := Int) l.length)).length ≤ 2000000000) ∧ LOk CX X 2 (loopAt 2 Tryz.f94) (loopW 0 [] [2, 3, 6, 7] (roI (shaRun shaK shaH (shaPad l (Nat.cast (R := Int) l.length)) ((shaPad l (Nat.cast (R := Int) l.length)).length / 64)) 0) True false (roF (shaRun shaK shaH (shaPad l (Nat.cast (R := Int) l.length)) ((shaPad l (Nat.cast (R := Int) l.length)).length / 64)))) ∧ some (St.mk [(2, AV.ptr (Base.l 0) 0 32 0), (3, AV.ptr (Base.l 1) 0 8 0), (6, AV.ptr (Base.l 2) 0 32 0), (7, AV.c (CV.int IntKind.i64 0))] [(0, Blk'.cells 82 32 (Body.els [AV.c (CV.arr IntKind.u8 32 (List.replicate 32 0))])), (1, Blk'.cells 100 8 (Body.els [AV.c (CV.arr IntKind.u32 8 (shaRun shaK shaH (shaPad l (Nat.cast (R := Int) l.length)) ((shaPad l (Nat.cast (R := Int) l.length)).length / 64)))])), (2, Blk'.cells 82 32 (Body.els [AV.c (CV.arr IntKind.u8 32 (List.replicate 32 0))]))] 3 42) = some (roI (shaRun shaK shaH (shaPad l (Nat.cast (R := Int) l.length)) ((shaPad l (Nat.cast (R := Int) l.length)).length / 64)) 0) ∧ True ∧ some (Out.mk (AV.c (CV.arr IntKind.u8 32 (shaOut (shaRun shaK shaH (shaPad l (Nat.cast (R := Int) l.length)) ((shaPad l (Nat.cast (R := Int) l.length)).length / 64))))) [] []) = some (Out.mk (AV.c (CV.arr IntKind.u8 32 (shaF shaK shaH l))) [] [])) (by kernel_rfl) ?_
  have h64 := shaPad_len l l.length
  have hP : (shaPad l l.length).length ≤ 2000000000 := by unfold shaPad padZ; simp [len8_len]; omega
  rw [shaF_whole]
  exact ⟨hp, rsum_l0 hX _, rfl, ⟨h64, hP⟩, rsum_l2 hX _, by kernel_rfl, trivial, rfl⟩
 ·cases hF
noncomputable def G16c : Tab := (94, lift [true] rSumS) :: G16b
theorem G16c_ok : TabOk CX G16c := .cons (lift_ok rSum_ok _) G16b_ok
noncomputable def rTwoS : FSpec := fun xs bl => match xs, bl with
 | [.c (.ints .u8 a), .c (.ints .u8 b)], [] => some (some (a.length ≤ 100000000 ∧ b.length ≤ 100000000), ⟨.c (.arr .u8 32 (shaF shaK shaH (a ++ b))), [], []⟩)
 | _, _ => none
theorem rTwo_ok : FnOk CX 118 rTwoS := by
 refine fnOkF hmo G16c_ok (fn := Tryz.f118) (c := bodyOf' Tryz.f118) (by kernel_rfl) (by kernel_rfl) (by kernel_rfl) ?_
 intro xs bl p o hF hp
 unfold rTwoS at hF
 split at hF
 ·rename_i a b
  injection hF with hF; injection hF with e1 e2; subst e1; subst e2
  have hp : a.length ≤ 100000000 ∧ b.length ≤ 100000000 := hp
  refine ⟨Nat.le_of_ble_eq_true (by kernel_rfl), fun X hX hfa => ⟨[], 999, ?_⟩⟩
  refine kto (q := bif ((0 + (Body.ints IntKind.u8 a).len) * 1).ble 140737488355328 && (0 + (Body.ints IntKind.u8 a).len).ble 4611686018427387904 then bif (((Body.ints IntKind.u8 a).len + (Body.ints IntKind.u8 b).len) * 1).ble 140737488355328 && ((Body.ints IntKind.u8 a).len + (Body.ints IntKind.u8 b).len).ble 4611686018427387904 then (a ++ b).length ≤ 1000000000 ∧ some (Out.mk (AV.c (CV.arr IntKind.u8 32 (shaF shaK shaH (a ++ b)))) [] []) = some (Out.mk (AV.c (CV.arr IntKind.u8 32 (shaF shaK shaH (a ++ b)))) [] []) else False else False) (by kernel_rfl) ?_
  exact cond_at (by simp [Body.len]; omega) <| cond_at (by simp [Body.len]; omega) ⟨by simp; omega, rfl⟩
 ·cases hF
noncomputable def G16d : Tab := (118, lift [true, true] rTwoS) :: G16c
theorem G16d_ok : TabOk CX G16d := .cons (lift_ok rTwo_ok _) G16c_ok
noncomputable def rWithS : FSpec := fun xs bl => match xs, bl with
 | [.c (.arr .u8 32 v), .c (.int .u8 c), .c (.ints .u8 m)], [] => some (some (m.length ≤ 10000000), ⟨.own 0 1 (v ++ [c] ++ m).length, [], [byB (v ++ [c] ++ m)]⟩)
 | [.c (.arr .u8 32 v), .c (.int .u8 c), .c (.raw (.slice none 0 0))], [] => some (none, ⟨.own 0 1 (v ++ [c]).length, [], [byB (v ++ [c])]⟩)
 | _, _ => none
theorem rWith_ok : FnOk CX 103 rWithS := by
 refine fnOkF hmo G16d_ok (fn := Tryz.f103) (c := bodyOf' Tryz.f103) (by kernel_rfl) (by kernel_rfl) (by kernel_rfl) ?_
 intro xs bl p o hF hp
 unfold rWithS at hF
 split at hF
 ·rename_i v c m
  injection hF with hF; injection hF with e1 e2; subst e1; subst e2
  have hp : m.length ≤ 10000000 := hp
  refine ⟨Nat.le_of_ble_eq_true (by kernel_rfl), fun X hX hfa => ⟨[], 999, ?_⟩⟩
  have hv : v.length = 32 := (hfa.sl 0 _ rfl).1.1
  refine kto (q := bif ((0 + (Body.ints IntKind.u8 v).len) * 1).ble 140737488355328 && (0 + (Body.ints IntKind.u8 v).len).ble 4611686018427387904 then bif (((Body.ints IntKind.u8 v).len + 1) * 1).ble 140737488355328 && ((Body.ints IntKind.u8 v).len + 1).ble 4611686018427387904 then bif (((Body.ints IntKind.u8 (v ++ [c])).len + (Body.ints IntKind.u8 m).len) * 1).ble 140737488355328 && ((Body.ints IntKind.u8 (v ++ [c])).len + (Body.ints IntKind.u8 m).len).ble 4611686018427387904 then some (Out.mk (AV.own 0 1 (Body.ints IntKind.u8 (v ++ [c] ++ m)).len) [] [Blk'.cells 5 1 (Body.ints IntKind.u8 (v ++ [c] ++ m))]) = some (Out.mk (AV.own 0 1 (v ++ [c] ++ m).length) [] [byB (v ++ [c] ++ m)]) else False else False else False) (by kernel_rfl) ?_
  exact cond_at (by simp [Body.len]; omega) <| cond_at (by simp [Body.len]; omega) <| cond_at (by simp [Body.len]; omega) rfl
 ·rename_i v c
  injection hF with hF; injection hF with e1 e2; subst e1; subst e2
  refine ⟨Nat.le_of_ble_eq_true (by kernel_rfl), fun X hX hfa => ⟨[], 999, ?_⟩⟩
  have hv : v.length = 32 := (hfa.sl 0 _ rfl).1.1
  refine kto (q := bif ((0 + (Body.ints IntKind.u8 v).len) * 1).ble 140737488355328 && (0 + (Body.ints IntKind.u8 v).len).ble 4611686018427387904 then bif (((Body.ints IntKind.u8 v).len + 1) * 1).ble 140737488355328 && ((Body.ints IntKind.u8 v).len + 1).ble 4611686018427387904 then bif (((Body.ints IntKind.u8 (v ++ [c])).len + 0) * 1).ble 140737488355328 && ((Body.ints IntKind.u8 (v ++ [c])).len + 0).ble 4611686018427387904 then some (Out.mk (AV.own 0 1 (Body.ints IntKind.u8 (v ++ [c])).len) [] [Blk'.cells 5 1 (Body.ints IntKind.u8 (v ++ [c]))]) = some (Out.mk (AV.own 0 1 (v ++ [c]).length) [] [byB (v ++ [c])]) else False else False else False) (by kernel_rfl) ?_
  exact cond_at (by simp [Body.len]; omega) <| cond_at (by simp [Body.len]; omega) <| cond_at (by simp [Body.len]; omega) rfl
 ·cases hF
def miA (m k a b : List Int) (i : Nat) : St := ⟨[(1, .c (.ints .u8 m)), (4, .ptr (.l 0) 0 32 0), (5, .own 1 1 k.length), (7, .own 2 1 (a.take i).length), (8, .own 3 1 (b.take i).length), (9, .c (.int .i64 (i : Nat)))], [(0, hsB hash0), (1, byB k), (2, byB (a.take i)), (3, byB (b.take i))], 4, 49⟩
def miB (m k a b : List Int) (i : Nat) : St := ⟨[(1, .c (.ints .u8 m)), (4, .ptr (.l 0) 0 32 0), (5, .inn (.l 1) 0 32 0 1 32), (7, .own 2 1 (a.take i).length), (8, .own 3 1 (b.take i).length), (9, .c (.int .i64 (i : Nat)))], [(0, hsB hash0), (1, hsB (.arr .u8 32 k)), (2, byB (a.take i)), (3, byB (b.take i))], 4, 49⟩
def miF (m a b : List Int) : St := ⟨[(1, .c (.ints .u8 m)), (4, .ptr (.l 0) 0 32 0), (7, .own 1 1 a.length), (8, .own 2 1 b.length)], [(0, hsB hash0), (1, byB a), (2, byB b)], 3, 49⟩
def fromKey (k a b : List Int) : Prop := k.length ≤ 64 ∧ a.length = 64 ∧ b.length = 64 ∧ (∀ i, i < 64 → a.getD i 0 = ixor .u8 (bif decide ((i : Int) < (k.length : Int)) then k.getD i 0 else 0) 54) ∧ (∀ i, i < 64 → b.getD i 0 = ixor .u8 (bif decide ((i : Int) < (k.length : Int)) then k.getD i 0 else 0) 92)
theorem rmac_l0 {X : Snap} (hX : ∀ b L, X.ι b = some L → b < 0) (m k a b : List Int) : LOk CX X 0 (loopAt 0 Tryz.f102) (loopW 0 [.slot 7 bytesZ, .slot 8 bytesZ] [1, 4, 5, 7, 8, 9] (miA m k a b 0) (fromKey k a b) false (miF m a b)) := by
 refine loopW_ok hmo G16d_ok (by kernel_rfl) hX [1, 4, 7, 8] [] (miA m k a b) (fun i => i ≤ 64) (fun i => 64 - i) 0 (fun _ => rfl) (fun _ => by omega) ?_
 intro hp i hi hfa
 refine ⟨[], 999, ?_⟩
 refine kto (q := bif decide ((Nat.cast (R := Int) i) < 64) then bif decide ((Nat.cast (R := Int) i) < (Nat.cast (R := Int) k.length)) then bif decide ((Nat.cast (R := Int) i) < (Nat.cast (R := Int) k.length)) then bif (((Body.ints IntKind.u8 (List.take i a)).len + 1) * 1).ble 140737488355328 && ((Body.ints IntKind.u8 (List.take i a)).len + 1).ble 4611686018427387904 then bif (((Body.ints IntKind.u8 (List.take i b)).len + 1) * 1).ble 140737488355328 && ((Body.ints IntKind.u8 (List.take i b)).len + 1).ble 4611686018427387904 then ∃ (v' : Nat), some (St.mk [(1, AV.c (CV.ints IntKind.u8 m)), (4, AV.ptr (Base.l 0) 0 32 0), (5, AV.own 1 1 k.length), (7, AV.own 2 1 (Body.ints IntKind.u8 (List.take i a ++ [ixor IntKind.u8 (k.getD (Nat.cast (R := Int) i).toNat 0) 54])).len), (8, AV.own 3 1 (Body.ints IntKind.u8 (List.take i b ++ [ixor IntKind.u8 (k.getD (Nat.cast (R := Int) i).toNat 0) 92])).len), (9, AV.c (CV.int IntKind.i64 (IntKind.i64.wrap ((Nat.cast (R := Int) i) + 1))))] [(0, Blk'.cells 82 32 (Body.els [AV.c (CV.arr IntKind.u8 32 (List.replicate 32 0))])), (1, Blk'.cells 5 1 (Body.ints IntKind.u8 k)), (2, Blk'.cells 5 1 (Body.ints IntKind.u8 (List.take i a ++ [ixor IntKind.u8 (k.getD (Nat.cast (R := Int) i).toNat 0) 54]))), (3, Blk'.cells 5 1 (Body.ints IntKind.u8 (List.take i b ++ [ixor IntKind.u8 (k.getD (Nat.cast (R := Int) i).toNat 0) 92])))] 4 49) = some (miA m k a b v') ∧ 64 - v' < 64 - i ∧ v' ≤ 64 else False else False else False else bif (((Body.ints IntKind.u8 (List.take i a)).len + 1) * 1).ble 140737488355328 && ((Body.ints IntKind.u8 (List.take i a)).len + 1).ble 4611686018427387904 then bif (((Body.ints IntKind.u8 (List.take i b)).len + 1) * 1).ble 140737488355328 && ((Body.ints IntKind.u8 (List.take i b)).len + 1).ble 4611686018427387904 then ∃ (v' : Nat), some (St.mk [(1, AV.c (CV.ints IntKind.u8 m)), (4, AV.ptr (Base.l 0) 0 32 0), (5, AV.own 1 1 k.length), (7, AV.own 2 1 (Body.ints IntKind.u8 (List.take i a ++ [54])).len), (8, AV.own 3 1 (Body.ints IntKind.u8 (List.take i b ++ [92])).len), (9, AV.c (CV.int IntKind.i64 (IntKind.i64.wrap ((Nat.cast (R := Int) i) + 1))))] [(0, Blk'.cells 82 32 (Body.els [AV.c (CV.arr IntKind.u8 32 (List.replicate 32 0))])), (1, Blk'.cells 5 1 (Body.ints IntKind.u8 k)), (2, Blk'.cells 5 1 (Body.ints IntKind.u8 (List.take i a ++ [54]))), (3, Blk'.cells 5 1 (Body.ints IntKind.u8 (List.take i b ++ [92])))] 4 49) = some (miA m k a b v') ∧ 64 - v' < 64 - i ∧ v' ≤ 64 else False else False else false = false ∧ some (St.mk [(1, AV.c (CV.ints IntKind.u8 m)), (4, AV.ptr (Base.l 0) 0 32 0), (7, AV.own 1 1 (List.take i a).length), (8, AV.own 2 1 (List.take i b).length)] [(0, Blk'.cells 82 32 (Body.els [AV.c (CV.arr IntKind.u8 32 (List.replicate 32 0))])), (1, Blk'.cells 5 1 (Body.ints IntKind.u8 (List.take i a))), (2, Blk'.cells 5 1 (Body.ints IntKind.u8 (List.take i b)))] 3 49) = some (miF m a b)) (by kernel_rfl) ?_
 have hi : i ≤ 64 := hi
 obtain ⟨hk, ha, hb, ea, eb⟩ : fromKey k a b := hp
 have la : (a.take i).length = i := by rw [List.length_take]; omega
 have lb : (b.take i).length = i := by rw [List.length_take]; omega
 simp (disch := omega) only [wi, Nat.mul_one, Nat.zero_add, Int.toNat_natCast]
 refine cond_intro (fun h => ?_) (fun h => ?_)
 ·simp at h
  have hi : i < 64 := by omega
  have ea := ea i hi
  have eb := eb i hi
  refine cond_intro (fun h1 => cond_at h1 ?_) (fun h1 => ?_)
  ·rw [h1] at ea eb
   have qa : a.take i ++ [ixor .u8 (k.getD i 0) 54] = a.take (i + 1) := by rw [← take_snoc (by omega), ea]; kernel_rfl
   have qb : b.take i ++ [ixor .u8 (k.getD i 0) 92] = b.take (i + 1) := by rw [← take_snoc (by omega), eb]; kernel_rfl
   rw [qa, qb]
   exact cond_at (by simp [Body.len]; omega) <| cond_at (by simp [Body.len]; omega) ⟨i + 1, rfl, by omega, by omega⟩
  ·rw [h1] at ea eb
   have qa : a.take i ++ [54] = a.take (i + 1) := by rw [← take_snoc (by omega), ea]; kernel_rfl
   have qb : b.take i ++ [92] = b.take (i + 1) := by rw [← take_snoc (by omega), eb]; kernel_rfl
   rw [qa, qb]
   exact cond_at (by simp [Body.len]; omega) <| cond_at (by simp [Body.len]; omega) ⟨i + 1, rfl, by omega, by omega⟩
 ·simp at h
  have e : i = 64 := by omega
  subst e
  rw [List.take_of_length_le (l := a) (by omega), List.take_of_length_le (l := b) (by omega)]
  exact ⟨by simp, rfl⟩
theorem rmac_l1 {X : Snap} (hX : ∀ b L, X.ι b = some L → b < 0) (m k a b : List Int) : LOk CX X 0 (loopAt 0 Tryz.f102) (loopW 0 [.slot 7 bytesZ, .slot 8 bytesZ] [1, 4, 5, 7, 8, 9] (miB m k a b 0) (fromKey k a b ∧ k.length = 32) false (miF m a b)) := by
 refine loopW_ok hmo G16d_ok (by kernel_rfl) hX [1, 4, 7, 8] [] (miB m k a b) (fun i => i ≤ 64) (fun i => 64 - i) 0 (fun _ => rfl) (fun _ => by omega) ?_
 intro hp i hi hfa
 refine ⟨[], 999, ?_⟩
 refine kto (q := bif decide ((Nat.cast (R := Int) i) < 64) then bif decide ((Nat.cast (R := Int) i) < (Nat.cast (R := Int) 32)) then bif decide ((Nat.cast (R := Int) i) < (Nat.cast (R := Int) 32)) then bif (((Body.ints IntKind.u8 (List.take i a)).len + 1) * 1).ble 140737488355328 && ((Body.ints IntKind.u8 (List.take i a)).len + 1).ble 4611686018427387904 then bif (((Body.ints IntKind.u8 (List.take i b)).len + 1) * 1).ble 140737488355328 && ((Body.ints IntKind.u8 (List.take i b)).len + 1).ble 4611686018427387904 then ∃ (v' : Nat), some (St.mk [(1, AV.c (CV.ints IntKind.u8 m)), (4, AV.ptr (Base.l 0) 0 32 0), (5, AV.inn (Base.l 1) 0 32 0 1 32), (7, AV.own 2 1 (Body.ints IntKind.u8 (List.take i a ++ [ixor IntKind.u8 (k.getD (0 + (Nat.cast (R := Int) i).toNat * 1) 0) 54])).len), (8, AV.own 3 1 (Body.ints IntKind.u8 (List.take i b ++ [ixor IntKind.u8 (k.getD (0 + (Nat.cast (R := Int) i).toNat * 1) 0) 92])).len), (9, AV.c (CV.int IntKind.i64 (IntKind.i64.wrap ((Nat.cast (R := Int) i) + 1))))] [(0, Blk'.cells 82 32 (Body.els [AV.c (CV.arr IntKind.u8 32 (List.replicate 32 0))])), (1, Blk'.cells 82 32 (Body.els [AV.c (CV.arr IntKind.u8 32 k)])), (2, Blk'.cells 5 1 (Body.ints IntKind.u8 (List.take i a ++ [ixor IntKind.u8 (k.getD (0 + (Nat.cast (R := Int) i).toNat * 1) 0) 54]))), (3, Blk'.cells 5 1 (Body.ints IntKind.u8 (List.take i b ++ [ixor IntKind.u8 (k.getD (0 + (Nat.cast (R := Int) i).toNat * 1) 0) 92])))] 4 49) = some (miB m k a b v') ∧ 64 - v' < 64 - i ∧ v' ≤ 64 else False else False else False else bif (((Body.ints IntKind.u8 (List.take i a)).len + 1) * 1).ble 140737488355328 && ((Body.ints IntKind.u8 (List.take i a)).len + 1).ble 4611686018427387904 then bif (((Body.ints IntKind.u8 (List.take i b)).len + 1) * 1).ble 140737488355328 && ((Body.ints IntKind.u8 (List.take i b)).len + 1).ble 4611686018427387904 then ∃ (v' : Nat), some (St.mk [(1, AV.c (CV.ints IntKind.u8 m)), (4, AV.ptr (Base.l 0) 0 32 0), (5, AV.inn (Base.l 1) 0 32 0 1 32), (7, AV.own 2 1 (Body.ints IntKind.u8 (List.take i a ++ [54])).len), (8, AV.own 3 1 (Body.ints IntKind.u8 (List.take i b ++ [92])).len), (9, AV.c (CV.int IntKind.i64 (IntKind.i64.wrap ((Nat.cast (R := Int) i) + 1))))] [(0, Blk'.cells 82 32 (Body.els [AV.c (CV.arr IntKind.u8 32 (List.replicate 32 0))])), (1, Blk'.cells 82 32 (Body.els [AV.c (CV.arr IntKind.u8 32 k)])), (2, Blk'.cells 5 1 (Body.ints IntKind.u8 (List.take i a ++ [54]))), (3, Blk'.cells 5 1 (Body.ints IntKind.u8 (List.take i b ++ [92])))] 4 49) = some (miB m k a b v') ∧ 64 - v' < 64 - i ∧ v' ≤ 64 else False else False else false = false ∧ some (St.mk [(1, AV.c (CV.ints IntKind.u8 m)), (4, AV.ptr (Base.l 0) 0 32 0), (7, AV.own 1 1 (List.take i a).length), (8, AV.own 2 1 (List.take i b).length)] [(0, Blk'.cells 82 32 (Body.els [AV.c (CV.arr IntKind.u8 32 (List.replicate 32 0))])), (1, Blk'.cells 5 1 (Body.ints IntKind.u8 (List.take i a))), (2, Blk'.cells 5 1 (Body.ints IntKind.u8 (List.take i b)))] 3 49) = some (miF m a b)) (by kernel_rfl) ?_
 have hi : i ≤ 64 := hi
 obtain ⟨⟨hk, ha, hb, ea, eb⟩, hl⟩ : fromKey k a b ∧ k.length = 32 := hp
 have la : (a.take i).length = i := by rw [List.length_take]; omega
 have lb : (b.take i).length = i := by rw [List.length_take]; omega
 simp (disch := omega) only [wi, Nat.mul_one, Nat.zero_add, Int.toNat_natCast]
 refine cond_intro (fun h => ?_) (fun h => ?_)
 ·simp at h
  have hi : i < 64 := by omega
  have ea := ea i hi
  have eb := eb i hi
  refine cond_intro (fun h1 => cond_at h1 ?_) (fun h1 => ?_)
  ·rw [hl] at ea eb
   have h1 : decide ((i : Int) < ((32 : Nat) : Int)) = _ := h1
   rw [h1] at ea eb
   have qa : a.take i ++ [ixor .u8 (k.getD i 0) 54] = a.take (i + 1) := by rw [← take_snoc (by omega), ea]; kernel_rfl
   have qb : b.take i ++ [ixor .u8 (k.getD i 0) 92] = b.take (i + 1) := by rw [← take_snoc (by omega), eb]; kernel_rfl
   rw [qa, qb]
   exact cond_at (by simp [Body.len]; omega) <| cond_at (by simp [Body.len]; omega) ⟨i + 1, rfl, by omega, by omega⟩
  ·rw [hl] at ea eb
   have h1 : decide ((i : Int) < ((32 : Nat) : Int)) = _ := h1
   rw [h1] at ea eb
   have qa : a.take i ++ [54] = a.take (i + 1) := by rw [← take_snoc (by omega), ea]; kernel_rfl
   have qb : b.take i ++ [92] = b.take (i + 1) := by rw [← take_snoc (by omega), eb]; kernel_rfl
   rw [qa, qb]
   exact cond_at (by simp [Body.len]; omega) <| cond_at (by simp [Body.len]; omega) ⟨i + 1, rfl, by omega, by omega⟩
 ·simp at h
  have e : i = 64 := by omega
  subst e
  rw [List.take_of_length_le (l := a) (by omega), List.take_of_length_le (l := b) (by omega)]
  exact ⟨by simp, rfl⟩
noncomputable def rMacS : FSpec := fun xs bl => match xs, bl with
 | [.c (.ints .u8 key), .c (.ints .u8 m)], [] => some (some (key.length ≤ 100000000 ∧ m.length ≤ 10000000), ⟨.c (.arr .u8 32 (macF shaK shaH key m)), [], []⟩)
 | _, _ => none
theorem rMac_ok : FnOk CX 102 rMacS := by
 refine fnOkF hmo G16d_ok (fn := Tryz.f102) (c := bodyOf' Tryz.f102) (by kernel_rfl) (by kernel_rfl) (by kernel_rfl) ?_
 intro xs bl p o hF hp
 unfold rMacS at hF
 split at hF
 ·rename_i key m
  injection hF with hF; injection hF with e1 e2; subst e1; subst e2
  have hp : key.length ≤ 100000000 ∧ m.length ≤ 10000000 := hp
  refine ⟨Nat.le_of_ble_eq_true (by kernel_rfl), fun X hX hfa => ⟨[(0, loopE 5 (loopW 0 [.slot 7 bytesZ, .slot 8 bytesZ] [1, 4, 5, 7, 8, 9] (miA m key (macIn shaK shaH key) (macOut shaK shaH key) 0) (fromKey key (macIn shaK shaH key) (macOut shaK shaH key)) false (miF m (macIn shaK shaH key) (macOut shaK shaH key))) (loopW 0 [.slot 7 bytesZ, .slot 8 bytesZ] [1, 4, 5, 7, 8, 9] (miB m (shaF shaK shaH key) (macIn shaK shaH key) (macOut shaK shaH key) 0) (fromKey (shaF shaK shaH key) (macIn shaK shaH key) (macOut shaK shaH key) ∧ (shaF shaK shaH key).length = 32) false (miF m (macIn shaK shaH key) (macOut shaK shaH key))))], 999, ?_⟩⟩
  refine kto (q := bif ((0 + (Body.ints IntKind.u8 key).len) * 1).ble 140737488355328 && (0 + (Body.ints IntKind.u8 key).len).ble 4611686018427387904 then bif decide ((Nat.cast (R := Int) key.length) > 64) then key.length ≤ 1000000000 ∧ LOk CX X 0 (loopAt 0 Tryz.f102) (loopE 5 (loopW 0 [Path.slot 7 bytesZ, Path.slot 8 bytesZ] [1, 4, 5, 7, 8, 9] (miA m key (macIn shaK shaH key) (macOut shaK shaH key) 0) (fromKey key (macIn shaK shaH key) (macOut shaK shaH key)) false (miF m (macIn shaK shaH key) (macOut shaK shaH key))) (loopW 0 [Path.slot 7 bytesZ, Path.slot 8 bytesZ] [1, 4, 5, 7, 8, 9] (miB m (shaF shaK shaH key) (macIn shaK shaH key) (macOut shaK shaH key) 0) (fromKey (shaF shaK shaH key) (macIn shaK shaH key) (macOut shaK shaH key) ∧ (shaF shaK shaH key).length = 32) false (miF m (macIn shaK shaH key) (macOut shaK shaH key)))) ∧ some (St.mk [(1, AV.c (CV.ints IntKind.u8 m)), (4, AV.ptr (Base.l 0) 0 32 0), (5, AV.inn (Base.l 1) 0 32 0 1 32), (7, AV.own 2 1 0), (8, AV.own 3 1 0), (9, AV.c (CV.int IntKind.i64 0))] [(0, Blk'.cells 82 32 (Body.els [AV.c (CV.arr IntKind.u8 32 (List.replicate 32 0))])), (1, Blk'.cells 82 32 (Body.els [AV.c (CV.arr IntKind.u8 32 (shaF shaK shaH key))])), (2, Blk'.cells 5 1 (Body.ints IntKind.u8 [])), (3, Blk'.cells 5 1 (Body.ints IntKind.u8 []))] 4 49) = some (miB m (shaF shaK shaH key) (macIn shaK shaH key) (macOut shaK shaH key) 0) ∧ (fromKey (shaF shaK shaH key) (macIn shaK shaH key) (macOut shaK shaH key) ∧ 32 = 32) ∧ ((macIn shaK shaH key).length ≤ 100000000 ∧ m.length ≤ 100000000) ∧ ((macOut shaK shaH key).length ≤ 100000000 ∧ 32 ≤ 100000000) ∧ some (Out.mk (AV.c (CV.arr IntKind.u8 32 (shaF shaK shaH (macOut shaK shaH key ++ shaF shaK shaH (macIn shaK shaH key ++ m))))) [] []) = some (Out.mk (AV.c (CV.arr IntKind.u8 32 (macF shaK shaH key m))) [] []) else LOk CX X 0 (loopAt 0 Tryz.f102) (loopE 5 (loopW 0 [Path.slot 7 bytesZ, Path.slot 8 bytesZ] [1, 4, 5, 7, 8, 9] (miA m key (macIn shaK shaH key) (macOut shaK shaH key) 0) (fromKey key (macIn shaK shaH key) (macOut shaK shaH key)) false (miF m (macIn shaK shaH key) (macOut shaK shaH key))) (loopW 0 [Path.slot 7 bytesZ, Path.slot 8 bytesZ] [1, 4, 5, 7, 8, 9] (miB m (shaF shaK shaH key) (macIn shaK shaH key) (macOut shaK shaH key) 0) (fromKey (shaF shaK shaH key) (macIn shaK shaH key) (macOut shaK shaH key) ∧ (shaF shaK shaH key).length = 32) false (miF m (macIn shaK shaH key) (macOut shaK shaH key)))) ∧ some (St.mk [(1, AV.c (CV.ints IntKind.u8 m)), (4, AV.ptr (Base.l 0) 0 32 0), (5, AV.own 1 1 (Body.ints IntKind.u8 key).len), (7, AV.own 2 1 0), (8, AV.own 3 1 0), (9, AV.c (CV.int IntKind.i64 0))] [(0, Blk'.cells 82 32 (Body.els [AV.c (CV.arr IntKind.u8 32 (List.replicate 32 0))])), (1, Blk'.cells 5 1 (Body.ints IntKind.u8 key)), (2, Blk'.cells 5 1 (Body.ints IntKind.u8 [])), (3, Blk'.cells 5 1 (Body.ints IntKind.u8 []))] 4 49) = some (miA m key (macIn shaK shaH key) (macOut shaK shaH key) 0) ∧ fromKey key (macIn shaK shaH key) (macOut shaK shaH key) ∧ ((macIn shaK shaH key).length ≤ 100000000 ∧ m.length ≤ 100000000) ∧ ((macOut shaK shaH key).length ≤ 100000000 ∧ 32 ≤ 100000000) ∧ some (Out.mk (AV.c (CV.arr IntKind.u8 32 (shaF shaK shaH (macOut shaK shaH key ++ shaF shaK shaH (macIn shaK shaH key ++ m))))) [] []) = some (Out.mk (AV.c (CV.arr IntKind.u8 32 (macF shaK shaH key m))) [] []) else False) (by kernel_rfl) ?_
  have hi := macIn_len shaK shaH key
  have ho := macOut_len shaK shaH key
  have fk : fromKey (keyF shaK shaH key) (macIn shaK shaH key) (macOut shaK shaH key) := ⟨keyF_len _ _ _, hi, ho, fun i hi => mac_at _ _ _ _ hi, fun i hi => mac_at _ _ _ _ hi⟩
  refine cond_at (by simp [Body.len]; omega) (cond_intro (fun h => ?_) (fun h => ?_))
  ·have ek : keyF shaK shaH key = shaF shaK shaH key := by unfold keyF; rw [h]; rfl
   rw [ek] at fk
   exact ⟨by omega, loopE_ok (rmac_l0 hX _ _ _ _) (rmac_l1 hX _ _ _ _), by kernel_rfl, ⟨fk, rfl⟩, ⟨by omega, by omega⟩, ⟨by omega, by omega⟩, rfl⟩
  ·have ek : keyF shaK shaH key = key := by unfold keyF; rw [h]; rfl
   rw [ek] at fk
   exact ⟨loopE_ok (rmac_l0 hX _ _ _ _) (rmac_l1 hX _ _ _ _), by kernel_rfl, fk, ⟨by omega, by omega⟩, ⟨by omega, by omega⟩, rfl⟩
 ·cases hF
end Go.Proofs.YtdcganigfihkjaaGreatDoor
/- What p256 computes is what the curve's group says. -/
namespace Go.Proofs.YtdcganigfihkjaaGreatDoor
open Go Go.Ab Go.RowKit Go.Chr
set_option maxRecDepth 100000
abbrev FP := Fin ChEC.PP
theorem pI0 : pI 0 = ChEC.PP := by kernel_rfl
theorem PP_pos : 0 < ChEC.PP := ChEC.M_pos
theorem ph_fadd (x y : Nat) : (ChEC.ph (fadd 0 x y) : FP) = ChEC.ph x + ChEC.ph y := by rw [fadd_eq, pI0, ChEC.ph_mod, ChEC.ph_add]
theorem ph_fmul (x y : Nat) : (ChEC.ph (fmul 0 x y) : FP) = ChEC.ph x * ChEC.ph y := by rw [fmul_eq, pI0, ChEC.ph_mod, ChEC.ph_mul]
theorem ph_subM {M : Nat} [NeZero M] (x y : Nat) : (ChEC.ph (subM M x y) : Fin M) = ChEC.ph x - ChEC.ph y := by
 have hy : y % M ≤ M + x % M := by have := Nat.mod_lt y (ChEC.M_pos (M := M)); omega
 have e : (ChEC.ph (M + x % M - y % M) : Fin M) + ChEC.ph (y % M) = ChEC.ph x := by
  rw [← ChEC.ph_add, Nat.sub_add_cancel hy, ChEC.ph_add, ChEC.ph_self, ChEC.ph_mod]; grind
 rw [ChEC.ph_mod y] at e
 unfold subM
 rw [ChEC.ph_mod]; grind
theorem ph_fsub (x y : Nat) : (ChEC.ph (fsub 0 x y) : FP) = ChEC.ph x - ChEC.ph y := by
 rw [fsub_eq]; unfold subI; rw [pI0, ph_subM]
theorem fi_ph {M : Nat} [NeZero M] (x : Nat) : (ChEC.fi (ChEC.ph x) : Fin M) = ChEC.ph (x ^ (M - 2)) := by
 apply Fin.ext; show (x % M) ^ (M - 2) % M = x ^ (M - 2) % M; rw [← Nat.pow_mod]
theorem ph_finv (x : Nat) : (ChEC.ph (finv 0 x) : FP) = ChEC.fi (ChEC.ph x) := by
 rw [finv_eq]; unfold invI; rw [pI0, ChEC.ph_mod, fi_ph]
theorem fadd_lt (x y : Nat) : fadd 0 x y < ChEC.PP := by rw [fadd_eq, pI0]; exact Nat.mod_lt _ PP_pos
theorem fmul_lt (x y : Nat) : fmul 0 x y < ChEC.PP := by rw [fmul_eq, pI0]; exact Nat.mod_lt _ PP_pos
theorem fsub_lt (x y : Nat) : fsub 0 x y < ChEC.PP := by rw [fsub_eq]; unfold subI subM; rw [pI0]; exact Nat.mod_lt _ PP_pos
def ph3 (t : T3) : ChEC.T3 FP := ⟨ChEC.ph t.1, ChEC.ph t.2.1, ChEC.ph t.2.2⟩
abbrev bF : FP := ChEC.ph ChEC.bP
theorem cvB_bP : cvB = ChEC.bP := by kernel_rfl
theorem pls_ph (p q : T3) : ph3 (plsF p q) = ChEC.plus bF (ph3 p) (ph3 q) := by
 unfold plsF
 rw [cvB_bP]
 simp only [ph3, ChEC.plus, ph_fadd, ph_fmul, ph_fsub]
theorem pls_lt (p q : T3) : (plsF p q).2.2 < ChEC.PP := by unfold plsF; exact fadd_lt _ _
instance domI : ChEC.Dom ChEC.PP := ChEC.domPP
abbrev PtF := ChEC.Pt FP
abbrev On (P : PtF) : Prop := ChEC.On bF P
theorem pls_tr {p q : T3} {P Q : PtF} (hp : ChEC.Tr (ph3 p) P) (hq : ChEC.Tr (ph3 q) Q) (hP : On P) (hQ : On Q) : ChEC.Tr (ph3 (plsF p q)) (ChEC.padd P Q) := by
 rw [pls_ph]; exact ChEC.tr_plus ChEC.goodP hp hq hP hQ
theorem pow_split (a i : Nat) : a / 2 ^ i = 2 * (a / 2 ^ (i + 1)) + a / 2 ^ i % 2 := by
 rw [Nat.pow_succ, ← Nat.div_div_eq_div_mul]; omega
theorem both_tr {P Q : PtF} {tp tq : T3} (hp : ChEC.Tr (ph3 tp) P) (hq : ChEC.Tr (ph3 tq) Q) (hP : On P) (hQ : On Q) {u v : Nat} (hu : u < 2 ^ 256) (hv : v < 2 ^ 256) :
  ∀ n, n ≤ 256 → ChEC.Tr (ph3 (bothF u v tp tq n)) (ChEC.padd (ChEC.smul (u / 2 ^ (256 - n)) P) (ChEC.smul (v / 2 ^ (256 - n)) Q)) := by
 intro n
 induction n with
 | zero =>
  intro _
  rw [Nat.sub_zero, Nat.div_eq_of_lt hu, Nat.div_eq_of_lt hv]
  exact ChEC.tr_tri .O
 | succ n ih =>
  intro hn
  have ih := ih (by omega)
  obtain ⟨i, hi⟩ : ∃ i, i = 255 - n := ⟨_, rfl⟩
  have e1 : 256 - n = i + 1 := by omega
  have e2 : 256 - (n + 1) = i := by omega
  rw [e1] at ih
  rw [e2]
  show ChEC.Tr (ph3 (stepF u v tp tq (255 - n) (bothF u v tp tq n))) _
  rw [stC_eq, ← hi]
  unfold stC
  rw [← plsC_eq]
  have hb := ChEC.both_step ChEC.goodP hP hQ (u / 2 ^ (i + 1)) (v / 2 ^ (i + 1)) (u / 2 ^ i % 2) (v / 2 ^ i % 2)
  rw [← pow_split, ← pow_split] at hb
  rw [← hb]
  have hU : On (ChEC.padd (ChEC.smul (u / 2 ^ (i + 1)) P) (ChEC.smul (v / 2 ^ (i + 1)) Q)) := ChEC.on_padd ChEC.goodP (ChEC.on_smul ChEC.goodP hP _) (ChEC.on_smul ChEC.goodP hQ _)
  have hUU := ChEC.on_padd ChEC.goodP hU hU
  have ht := pls_tr ih ih hU hU
  rcases Nat.mod_two_eq_zero_or_one (u / 2 ^ i) with h1 | h1 <;> rcases Nat.mod_two_eq_zero_or_one (v / 2 ^ i) with h2 | h2 <;> rw [h1, h2]
  ·show ChEC.Tr (ph3 (plsF _ _)) (ChEC.padd _ .O)
   rw [ChEC.padd_O]; exact ht
  ·show ChEC.Tr (ph3 (plsF (plsF _ _) tq)) (ChEC.padd _ (ChEC.padd .O (ChEC.smul 1 Q)))
   rw [ChEC.O_padd, ChEC.smul_one]; exact pls_tr ht hq hUU hQ
  ·show ChEC.Tr (ph3 (plsF (plsF _ _) tp)) (ChEC.padd _ (ChEC.padd (ChEC.smul 1 P) .O))
   rw [ChEC.padd_O, ChEC.smul_one]; exact pls_tr ht hp hUU hP
  ·show ChEC.Tr (ph3 (plsF (plsF _ _) (plsF tp tq))) (ChEC.padd _ (ChEC.padd (ChEC.smul 1 P) (ChEC.smul 1 Q)))
   rw [ChEC.smul_one, ChEC.smul_one]; exact pls_tr ht (pls_tr hp hq hP hQ) hUU (ChEC.on_padd ChEC.goodP hP hQ)
theorem mulA {M : Nat} [NeZero M] (a b c : Fin M) : a * b * c = a * (b * c) := by grind
theorem mul1 {M : Nat} [NeZero M] (a : Fin M) : a * 1 = a := by grind
def ptN : PtF → PtN
 | .O => (0, 0, true)
 | .A x y => (x.val, y.val, false)
theorem ph_is {v : Nat} {x : FP} (h : v < ChEC.PP) (e : ChEC.ph v = x) : v = x.val := by
 rw [← e]; exact (Nat.mod_eq_of_lt h).symm
theorem drop_pt {t : T3} {P : PtF} (h : ChEC.Tr (ph3 t) P) (hz : t.2.2 < ChEC.PP) : dropF t = ptN P := by
 unfold dropF
 cases P with
 | O =>
  have h0 : (ChEC.ph t.2.2 : FP) = 0 := h.2.1
  have : t.2.2 = 0 := ChEC.ph_inj hz PP_pos (h0.trans ChEC.ph_zero.symm)
  rw [this]; rfl
 | A x y =>
  obtain ⟨h1, h2, h3⟩ := h
  have h1 : (ChEC.ph t.2.2 : FP) ≠ 0 := h1
  have h2 : (ChEC.ph t.1 : FP) = x * ChEC.ph t.2.2 := h2
  have h3 : (ChEC.ph t.2.1 : FP) = y * ChEC.ph t.2.2 := h3
  have hz0 : Nat.beq t.2.2 0 = false := by
   cases hb : Nat.beq t.2.2 0 with
   | false => rfl
   | true => exfalso; rw [Nat.eq_of_beq_eq_true hb] at h1; exact h1 rfl
  have hi := ChEC.Dom.inv _ h1
  have ex : fmul 0 t.1 (finv 0 t.2.2) = x.val := ph_is (fmul_lt _ _) (by rw [ph_fmul, ph_finv, h2, mulA, hi, mul1])
  have ey : fmul 0 t.2.1 (finv 0 t.2.2) = y.val := ph_is (fmul_lt _ _) (by rw [ph_fmul, ph_finv, h3, mulA, hi, mul1])
  rw [hz0, ex, ey]; rfl
end Go.Proofs.YtdcganigfihkjaaGreatDoor
/- P-256: the base point's order; what Both computes of formed points. -/
namespace Go.Proofs.YtdcganigfihkjaaGreatDoor
open Go Go.Ab Go.RowKit Go.Chr
set_option maxRecDepth 100000
def ptP (t : PtN) : PtF := match t with
 | (_, _, true) => .O
 | (x, y, false) => .A (ChEC.ph x) (ChEC.ph y)
def Formed (t : PtN) : Prop := t = (0, 0, true) ∨ (t.2.2 = false ∧ onF t.1 t.2.1 = true)
theorem onF_lt {x y : Nat} (h : onF x y = true) : x < ChEC.PP ∧ y < ChEC.PP := by
 unfold onF at h
 simp only [Bool.and_eq_true, fbelow_eq, decide_eq_true_eq, pI0] at h
 exact h.1
theorem lin3 {M : Nat} [NeZero M] (x b : Fin M) : x * x * x - (x + (x + x)) + b = x * x * x - 3 * x + b := by grind
theorem onF_on {x y : Nat} (h : onF x y = true) : On (.A (ChEC.ph x) (ChEC.ph y)) := by
 unfold onF at h
 simp only [Bool.and_eq_true, Nat.beq_eq] at h
 have e : (ChEC.ph (fmul 0 y y) : FP) = ChEC.ph (fadd 0 (fsub 0 (fmul 0 (fmul 0 x x) x) (fadd 0 x (fadd 0 x x))) cvB) := by rw [h.2]
 rw [cvB_bP] at e
 simp only [ph_fadd, ph_fsub, ph_fmul] at e
 show (ChEC.ph y : FP) * ChEC.ph y = ChEC.ph x * ChEC.ph x * ChEC.ph x - 3 * ChEC.ph x + bF
 rw [e, lin3]
theorem on_ptP {t : PtN} (h : Formed t) : On (ptP t) := by
 rcases h with rfl | ⟨h1, h2⟩
 ·trivial
 ·obtain ⟨x, y, n⟩ := t
  have h1 : n = false := h1
  subst h1
  exact onF_on h2
theorem lift_tr {t : PtN} (h : Formed t) : ChEC.Tr (ph3 (liftF t.1 t.2.1 t.2.2)) (ptP t) := by
 rcases h with rfl | ⟨h1, h2⟩
 ·exact ChEC.tr_tri .O
 ·obtain ⟨x, y, n⟩ := t
  have h1 : n = false := h1
  subst h1
  have h2 : onF x y = true := h2
  unfold liftF
  dsimp only
  rw [h2]
  exact ChEC.tr_tri (.A (ChEC.ph x) (ChEC.ph y))
theorem both_z (u v : Nat) (p q : T3) : ∀ n, (bothF u v p q n).2.2 < ChEC.PP := by
 intro n
 cases n with
 | zero => exact PP_pos
 | succ n =>
  show (stepF u v p q (255 - n) (bothF u v p q n)).2.2 < _
  unfold stepF
  cases decide (bitI u (255 - n : Nat) + 2 * bitI v (255 - n : Nat) > 0) <;> exact pls_lt _ _
theorem both_pt {u v : Nat} {p q : PtN} (hu : u < 2 ^ 256) (hv : v < 2 ^ 256) (hp : Formed p) (hq : Formed q) :
  bothP u p v q = ptN (ChEC.padd (ChEC.smul u (ptP p)) (ChEC.smul v (ptP q))) := by
 unfold bothP
 refine drop_pt ?_ (both_z _ _ _ _ _)
 have h := both_tr (lift_tr hp) (lift_tr hq) (on_ptP hp) (on_ptP hq) hu hv 256 (Nat.le_refl _)
 simpa using h
theorem formedG : Formed gPt := .inr ⟨rfl, onG⟩
abbrev GP : PtF := ptP gPt
theorem onGP : On GP := on_ptP formedG
theorem order_z : Nat.beq (boC 115792089210356248762697446949407573529996955224135760342422259061068512044369 0 (gX, gY, 1) (gX, gY, 1) 256).2.2 0 = true := by kernel_rfl
theorem orderG : ChEC.smul 115792089210356248762697446949407573529996955224135760342422259061068512044369 GP = .O := by
 have h := both_pt (u := 115792089210356248762697446949407573529996955224135760342422259061068512044369) (v := 0) (Nat.lt_of_lt_of_le (Nat.le_of_ble_eq_true (by kernel_rfl)) (Nat.le_refl _)) (Nat.two_pow_pos _) formedG formedG
 unfold bothP at h
 have e : dropF (bothF 115792089210356248762697446949407573529996955224135760342422259061068512044369 0 (liftF gX gY false) (liftF gX gY false) 256) = (0, 0, true) := by
  rw [liftG, boC_eq]; unfold dropF; rw [order_z]; rfl
 have h : (0, 0, true) = ptN (ChEC.padd (ChEC.smul 115792089210356248762697446949407573529996955224135760342422259061068512044369 GP) .O) := e.symm.trans h
 rw [ChEC.padd_O] at h
 generalize ChEC.smul 115792089210356248762697446949407573529996955224135760342422259061068512044369 GP = R at h ⊢
 cases R with
 | O => rfl
 | A x y => exfalso; unfold ptN at h; injection h with _ h; injection h with _ h; cases h
end Go.Proofs.YtdcganigfihkjaaGreatDoor
/- Bytes and back; what a signature is. -/
namespace Go.Proofs.YtdcganigfihkjaaGreatDoor
open Go Go.Ab Go.RowKit Go.Chr
set_option maxRecDepth 100000
theorem natOf_natL {x : Nat} (h : x < two256) : natOf (natL x) = x := by
 have := natOf_mod (l := natL x) rfl (fun v hv => okI_u64.2 (by have := natL_bd x v hv; omega)) rfl
 rw [this, Nat.mod_eq_of_lt h]
theorem leN_leL (x : Nat) : leN (leL x) = natL x := by
 rw [← leB_leL, leN_leB _ _ _ _ (natL_bd x)]; rfl
theorem beW_beL {x : Nat} (h : x < two256) : beW (beL x) = x := by
 unfold beW beL
 rw [List.reverse_reverse, leN_leL, natOf_natL h]
theorem derDe_derEn {r s : Nat} (hr : r < two256) (hs : s < two256) : derDe (derEn r s) = (r, s, true) := by
 unfold derDe derEn
 rw [decB_derE _ _ (beL_len r) (beL_len s) (beL_ok r) (beL_ok s)]
 unfold beL
 simp only [List.reverse_reverse, leN_leL, natOf_natL hr, natOf_natL hs]
theorem two_PP : ChEC.PP < two256 := Nat.le_of_ble_eq_true (by kernel_rfl)
theorem decF_encF {t : PtN} (h : Formed t) : decF (encF t) = (t, true) := by
 rcases h with rfl | ⟨h1, h2⟩
 ·rfl
 ·obtain ⟨x, y, n⟩ := t
  have h1 : n = false := h1
  subst h1
  have h2 : onF x y = true := h2
  obtain ⟨hx, hy⟩ := onF_lt h2
  have h256 := two_PP
  have e : encF (x, y, false) = 4 :: (beL x ++ beL y) := by unfold encF; dsimp only; rw [h2]; rfl
  have lx := beL_len x
  have ly := beL_len y
  have e1 : beW (((4 :: (beL x ++ beL y)).drop 1).take 32) = x := by
   rw [List.drop_succ_cons, List.drop_zero, List.take_append_of_le_length (by omega), List.take_of_length_le (by omega), beW_beL (by omega)]
  have e2 : beW ((4 :: (beL x ++ beL y)).drop 33) = y := by
   rw [List.drop_succ_cons, List.drop_append_of_le_length (by omega), List.drop_of_length_le (by omega), List.nil_append, beW_beL (by omega)]
  rw [e]
  unfold decF
  rw [e1, e2, h2]
  have hl : (4 :: (beL x ++ beL y)).length = 65 := by simp [lx, ly]
  rw [hl]
  rfl
theorem nonN_within (k v : List Int) (n : Nat) : ∀ x ∈ nonN k v n, withinF x = true := by
 induction n with
 | zero => intro x hx; cases hx
 | succ n ih =>
  cases h : withinF (beW (nxV (stN k v n).1 (stN k v n).2 (n != 0))) with
  | true =>
   rw [nonN_yes h]
   intro x hx
   rcases List.mem_append.1 hx with hx | hx
   ·exact ih x hx
   ·rw [List.mem_singleton.1 hx]; exact h
  | false => rw [nonN_no h]; exact ih
theorem within_iff (a : Nat) : withinF a = true ↔ 0 < a ∧ a < pI 1 := by
  unfold withinF
  rw [fbelow_eq]
  cases h : Nat.beq a 0 with
  | true => have := Nat.eq_of_beq_eq_true h; simp; omega
  | false => have : a ≠ 0 := fun e => by subst e; cases h
             simp; omega
theorem signed {d : Nat} {m : List Int} (h : signB d m = true) : withinF d = true ∧ ∃ k, withinF k = true ∧ sigOk d (numF m) k = true ∧ signF d m = derEn (sigR k) (sigS d (numF m) k) := by
 unfold signB at h
 cases hw : withinF d with
 | false => rw [hw] at h; cases h
 | true =>
  refine ⟨rfl, ?_⟩
  rw [hw] at h
  have h : (sigAt d (numF m) (noncesF d m)).isSome = true := h
  cases ha : sigAt d (numF m) (noncesF d m) with
  | none => rw [ha] at h; cases h
  | some k =>
   have hm := List.mem_of_find?_eq_some ha
   rw [noncesF_eq] at hm
   refine ⟨k, nonN_within _ _ _ k hm, List.find?_some ha, ?_⟩
   unfold signF sigL
   rw [hw, ha]; rfl
end Go.Proofs.YtdcganigfihkjaaGreatDoor
/- Multiples of the base point, by numbers modulo the order. -/
namespace Go.Proofs.YtdcganigfihkjaaGreatDoor
open Go Go.Ab Go.RowKit Go.Chr
set_option maxRecDepth 100000
abbrev FN := Fin ChEC.NN
theorem pI1 : pI 1 = ChEC.NN := by kernel_rfl
theorem phn_add (x y : Nat) : (ChEC.ph (fadd 1 x y) : FN) = ChEC.ph x + ChEC.ph y := by rw [fadd_eq, pI1, ChEC.ph_mod, ChEC.ph_add]
theorem phn_mul (x y : Nat) : (ChEC.ph (fmul 1 x y) : FN) = ChEC.ph x * ChEC.ph y := by rw [fmul_eq, pI1, ChEC.ph_mod, ChEC.ph_mul]
theorem phn_sub (x y : Nat) : (ChEC.ph (fsub 1 x y) : FN) = ChEC.ph x - ChEC.ph y := by rw [fsub_eq]; unfold subI; rw [pI1, ph_subM]
theorem phn_inv (x : Nat) : (ChEC.ph (finv 1 x) : FN) = ChEC.fi (ChEC.ph x) := by rw [finv_eq]; unfold invI; rw [pI1, ChEC.ph_mod, fi_ph]
theorem NN_pos : 0 < ChEC.NN := ChEC.M_pos
theorem orderN : ChEC.smul ChEC.NN GP = .O := orderG
def sg (a : FN) : PtF := ChEC.smul a.val GP
theorem on_sg (a : FN) : On (sg a) := ChEC.on_smul ChEC.goodP onGP _
theorem sg_ph (m : Nat) : sg (ChEC.ph m) = ChEC.smul m GP := ChEC.smul_mod ChEC.goodP onGP orderN m
theorem sg_add (a b : FN) : sg (a + b) = ChEC.padd (sg a) (sg b) := by
 unfold sg
 rw [Fin.val_add, ChEC.smul_mod ChEC.goodP onGP orderN, ChEC.smul_add ChEC.goodP onGP]
theorem sg_mul (m : Nat) (a : FN) : ChEC.smul m (sg a) = sg (ChEC.ph m * a) := by
 unfold sg
 rw [← ChEC.smul_mul ChEC.goodP onGP, Fin.val_mul, ChEC.smul_mod ChEC.goodP onGP orderN]
 show ChEC.smul (m * a.val) GP = ChEC.smul (m % ChEC.NN * a.val) GP
 rw [ChEC.smul_mul ChEC.goodP onGP, ChEC.smul_mul ChEC.goodP onGP, ChEC.smul_mod ChEC.goodP (ChEC.on_smul ChEC.goodP onGP _)]
 rw [← ChEC.smul_mul ChEC.goodP onGP, Nat.mul_comm, ChEC.smul_mul ChEC.goodP onGP, orderN, ChEC.smul_O]
theorem sg_zero : sg 0 = .O := rfl
theorem GP_ne : GP ≠ .O := fun h => by cases h
theorem sg_ne {a : FN} (h : a ≠ 0) : sg a ≠ .O := by
 intro e
 have h1 := sg_mul (ChEC.fi a).val a
 rw [e, ChEC.smul_O, ChEC.ph_val, ChEC.fi_mul' h] at h1
 have h2 : sg 1 = GP := by
  have := sg_ph 1
  rw [ChEC.smul_one] at this; exact this
 rw [h2] at h1
 exact GP_ne h1.symm
theorem add_neg' {M : Nat} [NeZero M] (a : Fin M) : a + -a = 0 := by grind
theorem sg_neg (a : FN) : sg (-a) = ChEC.pneg (sg a) := by
 refine ChEC.pneg_of ChEC.goodP (on_sg a) (on_sg _) ?_
 rw [← sg_add, add_neg', sg_zero]
theorem onF_of {x y : FP} (h : On (.A x y)) : onF x.val y.val = true := by
 have h : y * y = x * x * x - 3 * x + bF := h
 unfold onF
 rw [fbelow_eq, fbelow_eq, pI0, decide_eq_true x.isLt, decide_eq_true y.isLt]
 have e : fmul 0 y.val y.val = fadd 0 (fsub 0 (fmul 0 (fmul 0 x.val x.val) x.val) (fadd 0 x.val (fadd 0 x.val x.val))) cvB := by
  refine ChEC.ph_inj (M := ChEC.PP) (fmul_lt _ _) (fadd_lt _ _) ?_
  rw [cvB_bP]
  simp only [ph_fadd, ph_fsub, ph_fmul, ChEC.ph_val]
  rw [h, lin3]
 rw [e]; simp
theorem formed_ptN {P : PtF} (h : On P) : Formed (ptN P) := by
 cases P with
 | O => exact .inl rfl
 | A x y => exact .inr ⟨rfl, onF_of h⟩
theorem ptP_ptN (P : PtF) : ptP (ptN P) = P := by
 cases P with
 | O => rfl
 | A x y => show ChEC.Pt.A (ChEC.ph x.val) (ChEC.ph y.val) = _; rw [ChEC.ph_val, ChEC.ph_val]
theorem both_sg {u v : Nat} (hu : u < 2 ^ 256) (hv : v < 2 ^ 256) (a : FN) : bothP u gPt v (ptN (sg a)) = ptN (sg (ChEC.ph u + ChEC.ph v * a)) := by
 rw [both_pt hu hv formedG (formed_ptN (on_sg a)), ptP_ptN, sg_mul, sg_add, sg_ph]
theorem mul_sg {u : Nat} (hu : u < 2 ^ 256) : bothP u gPt 0 gPt = ptN (sg (ChEC.ph u)) := by
 rw [both_pt hu (Nat.two_pow_pos _) formedG formedG, sg_ph]
 show ptN (ChEC.padd _ .O) = _
 rw [ChEC.padd_O]
end Go.Proofs.YtdcganigfihkjaaGreatDoor
/- A signature is right, and so is its mirror. -/
namespace Go.Proofs.YtdcganigfihkjaaGreatDoor
open Go Go.Ab Go.RowKit Go.Chr
set_option maxRecDepth 100000
theorem NN_256 : ChEC.NN < 2 ^ 256 := Nat.le_of_ble_eq_true (by kernel_rfl)
theorem two_256 : two256 = 2 ^ 256 := by kernel_rfl
theorem ffold_lt (x : Nat) : ffold 1 x < ChEC.NN := by rw [ffold_eq, pI1]; exact Nat.mod_lt _ NN_pos
theorem fmul1_lt (x y : Nat) : fmul 1 x y < ChEC.NN := by rw [fmul_eq, pI1]; exact Nat.mod_lt _ NN_pos
theorem fsub1_lt (x y : Nat) : fsub 1 x y < ChEC.NN := by rw [fsub_eq]; unfold subI subM; rw [pI1]; exact Nat.mod_lt _ NN_pos
theorem within_ph {a : Nat} (h : withinF a = true) : (ChEC.ph a : FN) ≠ 0 := by
 rw [within_iff, pI1] at h
 intro e
 have := ChEC.ph_inj (M := ChEC.NN) h.2 NN_pos (e.trans ChEC.ph_zero.symm)
 omega
theorem within_lt {a : Nat} (h : withinF a = true) : a < 2 ^ 256 := by
 rw [within_iff, pI1] at h
 exact Nat.lt_trans h.2 NN_256
theorem within_of {a : Nat} (h : (ChEC.ph a : FN) ≠ 0) (hl : a < ChEC.NN) : withinF a = true := by
 rw [within_iff, pI1]
 refine ⟨?_, hl⟩
 rcases Nat.eq_zero_or_pos a with h0 | h0
 ·subst h0; exact absurd ChEC.ph_zero h
 ·exact h0
theorem right_of {z r s d : Nat} {a : FN} (h : ChEC.ph z * ChEC.fi (ChEC.ph s) + ChEC.ph r * ChEC.fi (ChEC.ph s) * ChEC.ph d = a) :
  rightF (ptN (sg (ChEC.ph d))) z r s = (bif (ptN (sg a)).2.2 then false else Nat.beq (ffold 1 (ptN (sg a)).1) r) := by
 unfold rightF
 rw [both_sg (Nat.lt_trans (fmul1_lt _ _) NN_256) (Nat.lt_trans (fmul1_lt _ _) NN_256), phn_mul, phn_mul, phn_inv, h]
theorem pub_sg {d : Nat} (hd : withinF d = true) : pubF d = encF (ptN (sg (ChEC.ph d))) := by
 unfold pubF
 rw [hd, mul_sg (within_lt hd)]; rfl
theorem not_none {P : PtF} (h : P ≠ .O) : (ptN P).2.2 = false := by
 cases P with
 | O => exact absurd rfl h
 | A x y => rfl
theorem ver_of {d r s : Nat} {m : List Int} (hd : withinF d = true) (hr : withinF r = true) (hs : withinF s = true) :
  verF (pubF d) m (derEn r s) = rightF (ptN (sg (ChEC.ph d))) (numF m) r s := by
 have h1 := derDe_derEn (r := r) (s := s) (by rw [two_256]; exact within_lt hr) (by rw [two_256]; exact within_lt hs)
 have h2 := decF_encF (formed_ptN (on_sg (ChEC.ph d)))
 have h3 := not_none (sg_ne (within_ph hd))
 unfold verF
 rw [pub_sg hd, h1, h2]
 dsimp only
 rw [h3, hr, hs]; rfl
theorem neg_ne {M : Nat} [NeZero M] {a : Fin M} (h : a ≠ 0) : -a ≠ 0 := fun e => h (by grind)
theorem zero_sub' {M : Nat} [NeZero M] (a : Fin M) : 0 - a = -a := by grind
theorem sig_right {d k z : Nat} (hk : withinF k = true) (ok : sigOk d z k = true) :
  withinF (sigR k) = true ∧ withinF (sigS d z k) = true ∧ withinF (fsub 1 0 (sigS d z k)) = true ∧
  rightF (ptN (sg (ChEC.ph d))) z (sigR k) (sigS d z k) = true ∧ rightF (ptN (sg (ChEC.ph d))) z (sigR k) (fsub 1 0 (sigS d z k)) = true := by
 unfold sigOk at ok
 simp only [Bool.and_eq_true, Bool.not_eq_true'] at ok
 have hr0 : sigR k ≠ 0 := fun e => by rw [e] at ok; cases ok.1
 have hs0 : sigS d z k ≠ 0 := fun e => by rw [e] at ok; cases ok.2
 have hrl : sigR k < ChEC.NN := ffold_lt _
 have hsl : sigS d z k < ChEC.NN := fmul1_lt _ _
 have hrw : withinF (sigR k) = true := by rw [within_iff, pI1]; omega
 have hsw : withinF (sigS d z k) = true := by rw [within_iff, pI1]; omega
 have hkp := within_ph hk
 have hsp := within_ph hsw
 have es : (ChEC.ph (sigS d z k) : FN) = (ChEC.ph z + ChEC.ph (sigR k) * ChEC.ph d) * ChEC.fi (ChEC.ph k) := by
  unfold sigS; rw [phn_mul, phn_add, phn_mul, phn_inv]
 have et : (ChEC.ph (fsub 1 0 (sigS d z k)) : FN) = -ChEC.ph (sigS d z k) := by rw [phn_sub, ChEC.ph_zero, zero_sub']
 have htw : withinF (fsub 1 0 (sigS d z k)) = true := within_of (by rw [et]; exact neg_ne hsp) (fsub1_lt _ _)
 have er : sigR k = ffold 1 (ptN (sg (ChEC.ph k))).1 := by unfold sigR; rw [mul_sg (within_lt hk)]
 refine ⟨hrw, hsw, htw, ?_, ?_⟩
 ·rw [right_of (ChEC.sum2 hkp es hsp), not_none (sg_ne hkp), ← er]; simp
 ·rw [right_of (ChEC.sum1 hkp es hsp et), not_none (sg_ne (neg_ne hkp)), sg_neg]
  have e : (ptN (ChEC.pneg (sg (ChEC.ph k)))).1 = (ptN (sg (ChEC.ph k))).1 := by cases sg (ChEC.ph k) <;> rfl
  rw [e, ← er]; simp
end Go.Proofs.YtdcganigfihkjaaGreatDoor
