import Derived.Test.YtffdoihhjfjgoaaGreatDoorM10
import Derived.Test.YtffdoihhjfjgoaaGreatDoorM7
import Derived.Test.YtffdoihhjfjgoaaGreatDoorM8
/- The layer sha512: the hash. -/
namespace Go.Proofs.YtffdoihhjfjgoaaGreatDoor
open Go Go.Ab Go.RowKit Go.Chr
set_option maxRecDepth 100000
noncomputable def GS2 : Tab := (295, lift [true, true] takes5S) :: (97, flatO 5 .u8 concatS) :: GE
theorem GS2_ok : TabOk CX GS2 := .cons (lift_ok takes5_ok _) <| .cons (flatO_ok concat_c) GE_ok
def h64 (l : List Int) : Blk' := .cells 204 64 (.els [.c (.arr .u8 64 l)])
def z64 : List Int := List.replicate 64 0
def s5I (T : List Int) (n : Int) (ls : List (Nat × AV)) : St := ⟨(2, .ptr (.l 0) 0 64 0) :: (3, .own 1 1 T.length) :: (4, .c (.int .u64 n)) :: ls, [(0, h64 z64), (1, byB T)], 2, 67⟩
def ct5 (l : List Int) : Int := IntKind.u64.wrap (l.length : Nat)
def p0 (l : List Int) (i : Nat) : List Int := l ++ [128] ++ List.replicate i 0
def p2 (l : List Int) (i : Nat) : List Int := p0 l (padZ5 l.length) ++ List.replicate 8 0 ++ (len8 (l.length : Nat)).take i
theorem p0_len (l : List Int) (i : Nat) : (p0 l i).length = l.length + 1 + i := by simp [p0]; omega
theorem p0_succ (l : List Int) (i : Nat) : p0 l i ++ [0] = p0 l (i + 1) := by simp [p0, List.replicate_succ']
theorem sum5_l0 {X : Snap} (hX : ∀ b L, X.ι b = some L → b < 0) (l : List Int) : LOk CX X 0 (loopAt 0 Tryz.f202) (loopW 0 [] [2, 3, 4] (s5I (p0 l 0) (ct5 l) []) (l.length ≤ 1000000000) false (s5I (p0 l (padZ5 l.length)) (ct5 l) [])) := by
 refine loopW_ok hmo GS2_ok (by kernel_rfl) hX [2, 3, 4] [] (fun i => s5I (p0 l i) (ct5 l) []) (fun i => i ≤ padZ5 l.length) (fun i => padZ5 l.length - i) 0 (fun _ => rfl) (fun _ => by omega) ?_
 intro hp i hi hfa
 refine ⟨[], 999, ?_⟩
 have hl := p0_len l i
 have hz : padZ5 l.length < 128 := by unfold padZ5; omega
 refine ⟨bif (Nat.cast (R := Int) (p0 l i).length).tmod 128 != 112 then bif (((Body.ints IntKind.u8 (p0 l i)).len + 1) * 1).ble 140737488355328 && ((Body.ints IntKind.u8 (p0 l i)).len + 1).ble 4611686018427387904 then ∃ (v' : Nat), some (St.mk [(2, AV.ptr (Base.l 0) 0 64 0), (3, AV.own 1 1 (Body.ints IntKind.u8 (p0 l i ++ [0])).len), (4, AV.c (CV.int IntKind.u64 (ct5 l)))] [(0, Blk'.cells 204 64 (Body.els [AV.c (CV.arr IntKind.u8 64 z64)])), (1, Blk'.cells 5 1 (Body.ints IntKind.u8 (p0 l i ++ [0])))] 2 67) = some (s5I (p0 l v') (ct5 l) []) ∧ padZ5 l.length - v' < padZ5 l.length - i ∧ v' ≤ padZ5 l.length else False else false = false ∧ some (St.mk [(2, AV.ptr (Base.l 0) 0 64 0), (3, AV.own 1 1 (p0 l i).length), (4, AV.c (CV.int IntKind.u64 (ct5 l)))] [(0, Blk'.cells 204 64 (Body.els [AV.c (CV.arr IntKind.u8 64 z64)])), (1, Blk'.cells 5 1 (Body.ints IntKind.u8 (p0 l i)))] 2 67) = some (s5I (p0 l (padZ5 l.length)) (ct5 l) []), by kernel_rfl, ?_⟩
 rw [p0_succ]
 refine cond_intro (fun h => ?_) (fun h => ?_)
 ·rw [hl] at h
  have hi2 : i < padZ5 l.length := by
   rcases Nat.lt_or_ge i (padZ5 l.length) with h1 | h1
   ·exact h1
   ·exfalso
    have e : i = padZ5 l.length := by omega
    subst e
    simp at h
    apply h
    rw [Int.tmod_eq_emod_of_nonneg (by omega)]
    unfold padZ5 at *; omega
  exact cond_at (by simp [Body.len, hl]; omega) ⟨i + 1, rfl, by omega, by omega⟩
 ·rw [hl] at h
  have e : i = padZ5 l.length := by
   simp at h
   rw [Int.tmod_eq_emod_of_nonneg (by omega)] at h
   unfold padZ5 at *; omega
  subst e; exact ⟨by simp, rfl⟩
theorem len8_at' (n : Int) {i : Nat} (h : i < 8) : (len8 n)[i]? = some (IntKind.u8.wrap (ishr .u64 (IntKind.u64.wrap (8 * n)) ((56 : Int) - 8 * (i : Int)))) := by
 simp [len8, h]
theorem sum5_l2 {X : Snap} (hX : ∀ b L, X.ι b = some L → b < 0) (l : List Int) : LOk CX X 2 (loopAt 2 Tryz.f202) (loopW 0 [] [2, 3, 4, 26] (s5I (p2 l 0) (ct5 l) [(26, .c (.int .i64 0))]) (l.length ≤ 1000000000) false (s5I (pad5 l) (ct5 l) [])) := by
 refine loopW_ok hmo GS2_ok (by kernel_rfl) hX [2, 3, 4] [] (fun i => s5I (p2 l i) (ct5 l) [(26, .c (.int .i64 (i : Nat)))]) (fun i => i ≤ 8) (fun i => 8 - i) 0 (fun _ => rfl) (fun _ => by omega) ?_
 intro hp i hi hfa
 refine ⟨[], 999, ?_⟩
 have hz : padZ5 l.length < 128 := by unfold padZ5; omega
 have hp : l.length ≤ 1000000000 := hp
 have hl : (p2 l i).length = l.length + 1 + padZ5 l.length + 8 + i := by simp [p2, p0_len, len8_len]; omega
 have hc : ct5 l = (l.length : Nat) := wu64 (by omega)
 refine ⟨bif decide ((Nat.cast (R := Int) i) < 8) then bif decide (0 ≤ IntKind.i64.wrap (56 - IntKind.i64.wrap (8 * (Nat.cast (R := Int) i)))) then bif (((Body.ints IntKind.u8 (p2 l i)).len + 1) * 1).ble 140737488355328 && ((Body.ints IntKind.u8 (p2 l i)).len + 1).ble 4611686018427387904 then ∃ (v' : Nat), some (St.mk [(2, AV.ptr (Base.l 0) 0 64 0), (3, AV.own 1 1 (Body.ints IntKind.u8 (p2 l i ++ [IntKind.u8.wrap (ishr IntKind.u64 (IntKind.u64.wrap (8 * ct5 l)) (IntKind.i64.wrap (56 - IntKind.i64.wrap (8 * (Nat.cast (R := Int) i)))))])).len), (4, AV.c (CV.int IntKind.u64 (ct5 l))), (26, AV.c (CV.int IntKind.i64 (IntKind.i64.wrap ((Nat.cast (R := Int) i) + 1))))] [(0, Blk'.cells 204 64 (Body.els [AV.c (CV.arr IntKind.u8 64 z64)])), (1, Blk'.cells 5 1 (Body.ints IntKind.u8 (p2 l i ++ [IntKind.u8.wrap (ishr IntKind.u64 (IntKind.u64.wrap (8 * ct5 l)) (IntKind.i64.wrap (56 - IntKind.i64.wrap (8 * (Nat.cast (R := Int) i)))))])))] 2 67) = some (s5I (p2 l v') (ct5 l) [(26, AV.c (CV.int IntKind.i64 (Nat.cast (R := Int) v')))]) ∧ 8 - v' < 8 - i ∧ v' ≤ 8 else False else False else false = false ∧ some (St.mk [(2, AV.ptr (Base.l 0) 0 64 0), (3, AV.own 1 1 (p2 l i).length), (4, AV.c (CV.int IntKind.u64 (ct5 l)))] [(0, Blk'.cells 204 64 (Body.els [AV.c (CV.arr IntKind.u8 64 z64)])), (1, Blk'.cells 5 1 (Body.ints IntKind.u8 (p2 l i)))] 2 67) = some (s5I (pad5 l) (ct5 l) []), by kernel_rfl, ?_⟩
 rw [hc]
 simp (disch := omega) only [wi]
 refine cond_intro (fun h => ?_) (fun h => ?_)
 ·simp at h
  have e : p2 l i ++ [IntKind.u8.wrap (ishr .u64 (IntKind.u64.wrap (8 * (l.length : Nat))) ((56 : Int) - 8 * (i : Int)))] = p2 l (i + 1) := by
   unfold p2
   rw [List.take_add_one, len8_at' _ (by omega), List.append_assoc]; rfl
  rw [e]
  exact cond_at (by simp; omega) <| cond_at (by simp [Body.len, hl]; omega) ⟨i + 1, by rw [← hc]; rfl, by omega, by omega⟩
 ·simp at h
  have e : i = 8 := by omega
  subst e
  have e : p2 l 8 = pad5 l := by
   unfold p2 pad5 p0
   rw [List.take_of_length_le (by rw [len8_len]; omega)]
  rw [e, ← hc]
  exact ⟨by simp, rfl⟩
def st5B (S : List Int) : Blk' := .cells 335 8 (.els [.c (.arr .u64 8 S)])
theorem sum5_l4 {X : Snap} (hX : ∀ b L, X.ι b = some L → b < 0) (S T : List Int) : LOk CX X 4 (loopAt 4 Tryz.f202) (loopW 0 [.slot 3] [2, 3, 6] ⟨[(2, .ptr (.l 0) 0 64 0), (3, .own 1 1 T.length), (6, .ptr (.l 2) 0 8 0)], [(0, h64 z64), (1, byB T), (2, st5B S)], 3, 67⟩ (T.length % 128 = 0) false ⟨[(2, .ptr (.l 0) 0 64 0), (6, .ptr (.l 1) 0 8 0)], [(0, h64 z64), (1, st5B (run5 sha5K S T (T.length / 128)))], 2, 67⟩) := by
 refine loopW_ok hmo GS2_ok (by kernel_rfl) hX [2, 6] [] (fun j => ⟨[(2, .ptr (.l 0) 0 64 0), (3, .own 1 1 (T.length - 128 * j)), (6, .ptr (.l 2) 0 8 0)], [(0, h64 z64), (1, byB (T.drop (128 * j))), (2, st5B (run5 sha5K S T j))], 3, 67⟩) (fun j => 128 * j ≤ T.length) (fun j => T.length - 128 * j) 0 (fun _ => rfl) (fun _ => by omega) ?_
 intro hp j hj hfa
 refine ⟨[], 999, ?_⟩
 refine ⟨bif decide ((Nat.cast (R := Int) (T.length - 128 * j)) > 0) then bif bndB (T.length - 128 * j) none (some 128) then (List.take 128 (List.drop 0 (List.drop (128 * j) T))).length = 128 ∧ bif bndB (T.length - 128 * j) (some 128) none then ∃ (v' : Nat), some (St.mk [(2, AV.ptr (Base.l 0) 0 64 0), (3, AV.own 1 1 (natSub (hiB (T.length - 128 * j) none) 128)), (6, AV.ptr (Base.l 2) 0 8 0)] [(0, Blk'.cells 204 64 (Body.els [AV.c (CV.arr IntKind.u8 64 z64)])), (1, Blk'.cells 5 1 (Body.ints IntKind.u8 (List.take (natSub (hiB (T.length - 128 * j) none) 128) (List.drop 128 (List.drop (128 * j) T))))), (2, Blk'.cells 335 8 (Body.els [AV.c (CV.arr IntKind.u64 8 (take5 sha5K (run5 sha5K S T j) (List.take 128 (List.drop 0 (List.drop (128 * j) T)))))]))] 3 67) = some (St.mk [(2, AV.ptr (Base.l 0) 0 64 0), (3, AV.own 1 1 (T.length - 128 * v')), (6, AV.ptr (Base.l 2) 0 8 0)] [(0, h64 z64), (1, byB (List.drop (128 * v') T)), (2, st5B (run5 sha5K S T v'))] 3 67) ∧ T.length - 128 * v' < T.length - 128 * j ∧ 128 * v' ≤ T.length else False else False else false = false ∧ some (St.mk [(2, AV.ptr (Base.l 0) 0 64 0), (6, AV.ptr (Base.l 1) 0 8 0)] [(0, Blk'.cells 204 64 (Body.els [AV.c (CV.arr IntKind.u8 64 z64)])), (1, Blk'.cells 335 8 (Body.els [AV.c (CV.arr IntKind.u64 8 (run5 sha5K S T j))]))] 2 67) = some (St.mk [(2, AV.ptr (Base.l 0) 0 64 0), (6, AV.ptr (Base.l 1) 0 8 0)] [(0, h64 z64), (1, st5B (run5 sha5K S T (T.length / 128)))] 2 67), by kernel_rfl, ?_⟩
 simp only [bndB, loB, hiB, natSub, List.drop_zero]
 refine cond_intro (fun h => ?_) (fun h => ?_)
 ·simp at h
  refine cond_at (by simp; omega) ⟨by simp; omega, cond_at (by simp; omega) ⟨j + 1, ?_, by omega, by omega⟩⟩
  rw [List.drop_drop, List.take_of_length_le (l := T.drop (128 * j + 128)) (by simp; omega), Nat.sub_sub]
  rfl
 ·simp at h
  have e : T.length / 128 = j := by omega
  rw [e]; exact ⟨by simp, rfl⟩
def o5 (S : List Int) : Nat → List Int
 | 0 => z64
 | i + 1 => (o5 S i).set i (IntKind.u8.wrap (ishr .u64 (S.getD (i / 8) 0) ((56 : Int) - 8 * ((i % 8 : Nat) : Int))))
theorem o5_all (S : List Int) : o5 S 64 = out5 S := by kernel_rfl
theorem sum5_l6 {X : Snap} (hX : ∀ b L, X.ι b = some L → b < 0) (S : List Int) : LOk CX X 6 (loopAt 6 Tryz.f202) (loopW 0 [] [2, 6, 7, 50] ⟨[(2, .ptr (.l 0) 0 64 0), (6, .ptr (.l 1) 0 8 0), (7, .ptr (.l 2) 0 64 0), (50, .c (.int .i64 0))], [(0, h64 z64), (1, st5B S), (2, h64 z64)], 3, 67⟩ True false ⟨[(2, .ptr (.l 0) 0 64 0), (7, .ptr (.l 1) 0 64 0)], [(0, h64 z64), (1, h64 (out5 S))], 2, 67⟩) := by
 refine loopW_ok hmo GS2_ok (by kernel_rfl) hX [2, 7] [] (fun i : Nat => ⟨[(2, .ptr (.l 0) 0 64 0), (6, .ptr (.l 1) 0 8 0), (7, .ptr (.l 2) 0 64 0), (50, .c (.int .i64 (i : Nat)))], [(0, h64 z64), (1, st5B S), (2, h64 (o5 S i))], 3, 67⟩) (fun i => i ≤ 64) (fun i => 64 - i) 0 (fun _ => rfl) (fun _ => by omega) ?_
 intro hp i hi hfa
 refine ⟨[], 999, ?_⟩
 refine ⟨bif decide ((Nat.cast (R := Int) i) < 64) then bif decide (0 ≤ IntKind.i64.wrap ((Nat.cast (R := Int) i).tdiv 8)) && decide (IntKind.i64.wrap ((Nat.cast (R := Int) i).tdiv 8) < (Nat.cast (R := Int) 8)) then bif decide (0 ≤ IntKind.i64.wrap (56 - IntKind.i64.wrap (8 * (Nat.cast (R := Int) i).tmod 8))) then bif decide ((Nat.cast (R := Int) i) < (Nat.cast (R := Int) 64)) then ∃ (v' : Nat), some (St.mk [(2, AV.ptr (Base.l 0) 0 64 0), (6, AV.ptr (Base.l 1) 0 8 0), (7, AV.ptr (Base.l 2) 0 64 0), (50, AV.c (CV.int IntKind.i64 (IntKind.i64.wrap ((Nat.cast (R := Int) i) + 1))))] [(0, Blk'.cells 204 64 (Body.els [AV.c (CV.arr IntKind.u8 64 z64)])), (1, Blk'.cells 335 8 (Body.els [AV.c (CV.arr IntKind.u64 8 S)])), (2, Blk'.cells 204 64 (Body.els [AV.c (CV.arr IntKind.u8 64 ((o5 S i).set (0 + (Nat.cast (R := Int) i).toNat * 1) (IntKind.u8.wrap (ishr IntKind.u64 (S.getD (0 + (IntKind.i64.wrap ((Nat.cast (R := Int) i).tdiv 8)).toNat * 1) 0) (IntKind.i64.wrap (56 - IntKind.i64.wrap (8 * (Nat.cast (R := Int) i).tmod 8)))))))]))] 3 67) = some (St.mk [(2, AV.ptr (Base.l 0) 0 64 0), (6, AV.ptr (Base.l 1) 0 8 0), (7, AV.ptr (Base.l 2) 0 64 0), (50, AV.c (CV.int IntKind.i64 (Nat.cast (R := Int) v')))] [(0, h64 z64), (1, st5B S), (2, h64 (o5 S v'))] 3 67) ∧ 64 - v' < 64 - i ∧ v' ≤ 64 else False else False else False else false = false ∧ some (St.mk [(2, AV.ptr (Base.l 0) 0 64 0), (7, AV.ptr (Base.l 1) 0 64 0)] [(0, Blk'.cells 204 64 (Body.els [AV.c (CV.arr IntKind.u8 64 z64)])), (1, Blk'.cells 204 64 (Body.els [AV.c (CV.arr IntKind.u8 64 (o5 S i))]))] 2 67) = some (St.mk [(2, AV.ptr (Base.l 0) 0 64 0), (7, AV.ptr (Base.l 1) 0 64 0)] [(0, h64 z64), (1, h64 (out5 S))] 2 67), by kernel_rfl, ?_⟩
 have hi : i ≤ 64 := hi
 have e1 : (i : Int).tdiv 8 = ((i / 8 : Nat) : Int) := by rw [Int.tdiv_eq_ediv_of_nonneg (by omega)]; omega
 have e2 : (i : Int).tmod 8 = ((i % 8 : Nat) : Int) := by rw [Int.tmod_eq_emod_of_nonneg (by omega)]; omega
 rw [e1, e2]
 simp (disch := omega) only [wi, Int.toNat_natCast, Nat.zero_add, Nat.mul_one]
 refine cond_intro (fun h => ?_) (fun h => ?_)
 ·simp at h
  exact cond_at (by simp; omega) <| cond_at (by simp; omega) <| cond_at (by simp; omega) ⟨i + 1, rfl, by omega, by omega⟩
 ·simp at h
  have e : i = 64 := by omega
  subst e; rw [← o5_all]; exact ⟨trivial, rfl⟩
noncomputable def sum5S : FSpec := fun xs bl => match xs, bl with
 | [.c (.rows 1 (.ints .u8) ls)], [] => some (some (List.length (List.flatten (α := Int) ls) ≤ 1000000000 ∧ List.length (α := List Int) ls ≤ 1000000000), ⟨.c (.arr .u8 64 (sha5F sha5K sha5H (List.flatten (α := Int) ls))), [], []⟩)
 | _, _ => none
theorem sum5_ok : FnOk CX 202 sum5S := by
 refine fnOkF hmo GS2_ok (fn := Tryz.f202) (c := bodyOf' Tryz.f202) (by kernel_rfl) (by kernel_rfl) (by kernel_rfl) ?_
 intro xs bl p o hF hp
 unfold sum5S at hF
 split at hF
 ·rename_i ls
  injection hF with hF; injection hF with e1 e2; subst e1; subst e2
  have hp : List.length (List.flatten (α := Int) ls) ≤ 1000000000 ∧ List.length (α := List Int) ls ≤ 1000000000 := hp
  refine ⟨Nat.le_of_ble_eq_true (by kernel_rfl), fun X hX hfa => ⟨[(0, loopW 0 [] [2, 3, 4] (s5I (p0 (List.flatten (α := Int) ls) 0) (ct5 (List.flatten (α := Int) ls)) []) ((List.flatten (α := Int) ls).length ≤ 1000000000) false (s5I (p0 (List.flatten (α := Int) ls) (padZ5 (List.flatten (α := Int) ls).length)) (ct5 (List.flatten (α := Int) ls)) [])), (2, loopW 0 [] [2, 3, 4, 26] (s5I (p2 (List.flatten (α := Int) ls) 0) (ct5 (List.flatten (α := Int) ls)) [(26, .c (.int .i64 0))]) ((List.flatten (α := Int) ls).length ≤ 1000000000) false (s5I (pad5 (List.flatten (α := Int) ls)) (ct5 (List.flatten (α := Int) ls)) [])), (4, loopW 0 [.slot 3] [2, 3, 6] ⟨[(2, .ptr (.l 0) 0 64 0), (3, .own 1 1 (pad5 (List.flatten (α := Int) ls)).length), (6, .ptr (.l 2) 0 8 0)], [(0, h64 z64), (1, byB (pad5 (List.flatten (α := Int) ls))), (2, st5B sha5H)], 3, 67⟩ ((pad5 (List.flatten (α := Int) ls)).length % 128 = 0) false ⟨[(2, .ptr (.l 0) 0 64 0), (6, .ptr (.l 1) 0 8 0)], [(0, h64 z64), (1, st5B (run5 sha5K sha5H (pad5 (List.flatten (α := Int) ls)) ((pad5 (List.flatten (α := Int) ls)).length / 128)))], 2, 67⟩), (6, loopW 0 [] [2, 6, 7, 50] ⟨[(2, .ptr (.l 0) 0 64 0), (6, .ptr (.l 1) 0 8 0), (7, .ptr (.l 2) 0 64 0), (50, .c (.int .i64 0))], [(0, h64 z64), (1, st5B (run5 sha5K sha5H (pad5 (List.flatten (α := Int) ls)) ((pad5 (List.flatten (α := Int) ls)).length / 128))), (2, h64 z64)], 3, 67⟩ True false ⟨[(2, .ptr (.l 0) 0 64 0), (7, .ptr (.l 1) 0 64 0)], [(0, h64 z64), (1, h64 (out5 (run5 sha5K sha5H (pad5 (List.flatten (α := Int) ls)) ((pad5 (List.flatten (α := Int) ls)).length / 128))))], 2, 67⟩)], 999, ?_⟩⟩
  refine ⟨(ls.flatten.length ≤ 1000000000 ∧ ls.length ≤ 1000000000) ∧ bif (((Body.ints IntKind.u8 ls.flatten).len + 1) * 1).ble 140737488355328 && ((Body.ints IntKind.u8 ls.flatten).len + 1).ble 4611686018427387904 then LOk CX X 0 (loopAt 0 Tryz.f202) (loopW 0 [] [2, 3, 4] (s5I (p0 ls.flatten 0) (ct5 ls.flatten) []) (ls.flatten.length ≤ 1000000000) false (s5I (p0 ls.flatten (padZ5 ls.flatten.length)) (ct5 ls.flatten) [])) ∧ some (St.mk [(2, AV.ptr (Base.l 0) 0 64 0), (3, AV.own 1 1 (Body.ints IntKind.u8 (ls.flatten ++ [128])).len), (4, AV.c (CV.int IntKind.u64 (IntKind.u64.wrap (Nat.cast (R := Int) ls.flatten.length))))] [(0, Blk'.cells 204 64 (Body.els [AV.c (CV.arr IntKind.u8 64 (List.replicate 64 0))])), (1, Blk'.cells 5 1 (Body.ints IntKind.u8 (ls.flatten ++ [128])))] 2 67) = some (s5I (p0 ls.flatten 0) (ct5 ls.flatten) []) ∧ ls.flatten.length ≤ 1000000000 ∧ bif (((Body.ints IntKind.u8 (p0 ls.flatten (padZ5 ls.flatten.length))).len + 8) * 1).ble 140737488355328 && ((Body.ints IntKind.u8 (p0 ls.flatten (padZ5 ls.flatten.length))).len + 8).ble 4611686018427387904 then LOk CX X 2 (loopAt 2 Tryz.f202) (loopW 0 [] [2, 3, 4, 26] (s5I (p2 ls.flatten 0) (ct5 ls.flatten) [(26, AV.c (CV.int IntKind.i64 0))]) (ls.flatten.length ≤ 1000000000) false (s5I (pad5 ls.flatten) (ct5 ls.flatten) [])) ∧ some (St.mk [(2, AV.ptr (Base.l 0) 0 64 0), (3, AV.own 1 1 (Body.ints IntKind.u8 (p0 ls.flatten (padZ5 ls.flatten.length) ++ (List.replicate 8 0))).len), (4, AV.c (CV.int IntKind.u64 (ct5 ls.flatten))), (26, AV.c (CV.int IntKind.i64 0))] [(0, Blk'.cells 204 64 (Body.els [AV.c (CV.arr IntKind.u8 64 z64)])), (1, Blk'.cells 5 1 (Body.ints IntKind.u8 (p0 ls.flatten (padZ5 ls.flatten.length) ++ (List.replicate 8 0))))] 2 67) = some (s5I (p2 ls.flatten 0) (ct5 ls.flatten) [(26, AV.c (CV.int IntKind.i64 0))]) ∧ ls.flatten.length ≤ 1000000000 ∧ LOk CX X 4 (loopAt 4 Tryz.f202) (loopW 0 [Path.slot 3] [2, 3, 6] (St.mk [(2, AV.ptr (Base.l 0) 0 64 0), (3, AV.own 1 1 (pad5 ls.flatten).length), (6, AV.ptr (Base.l 2) 0 8 0)] [(0, h64 z64), (1, byB (pad5 ls.flatten)), (2, st5B sha5H)] 3 67) ((pad5 ls.flatten).length % 128 = 0) false (St.mk [(2, AV.ptr (Base.l 0) 0 64 0), (6, AV.ptr (Base.l 1) 0 8 0)] [(0, h64 z64), (1, st5B (run5 sha5K sha5H (pad5 ls.flatten) ((pad5 ls.flatten).length / 128)))] 2 67)) ∧ some (St.mk [(2, AV.ptr (Base.l 0) 0 64 0), (3, AV.own 1 1 (pad5 ls.flatten).length), (6, AV.ptr (Base.l 2) 0 8 0)] [(0, Blk'.cells 204 64 (Body.els [AV.c (CV.arr IntKind.u8 64 z64)])), (1, Blk'.cells 5 1 (Body.ints IntKind.u8 (pad5 ls.flatten))), (2, Blk'.cells 335 8 (Body.els [AV.c (CV.arr IntKind.u64 8 sha5H)]))] 3 67) = some (St.mk [(2, AV.ptr (Base.l 0) 0 64 0), (3, AV.own 1 1 (pad5 ls.flatten).length), (6, AV.ptr (Base.l 2) 0 8 0)] [(0, h64 z64), (1, byB (pad5 ls.flatten)), (2, st5B sha5H)] 3 67) ∧ (pad5 ls.flatten).length % 128 = 0 ∧ LOk CX X 6 (loopAt 6 Tryz.f202) (loopW 0 [] [2, 6, 7, 50] (St.mk [(2, AV.ptr (Base.l 0) 0 64 0), (6, AV.ptr (Base.l 1) 0 8 0), (7, AV.ptr (Base.l 2) 0 64 0), (50, AV.c (CV.int IntKind.i64 0))] [(0, h64 z64), (1, st5B (run5 sha5K sha5H (pad5 ls.flatten) ((pad5 ls.flatten).length / 128))), (2, h64 z64)] 3 67) True false (St.mk [(2, AV.ptr (Base.l 0) 0 64 0), (7, AV.ptr (Base.l 1) 0 64 0)] [(0, h64 z64), (1, h64 (out5 (run5 sha5K sha5H (pad5 ls.flatten) ((pad5 ls.flatten).length / 128))))] 2 67)) ∧ some (St.mk [(2, AV.ptr (Base.l 0) 0 64 0), (6, AV.ptr (Base.l 1) 0 8 0), (7, AV.ptr (Base.l 2) 0 64 0), (50, AV.c (CV.int IntKind.i64 0))] [(0, Blk'.cells 204 64 (Body.els [AV.c (CV.arr IntKind.u8 64 z64)])), (1, Blk'.cells 335 8 (Body.els [AV.c (CV.arr IntKind.u64 8 (run5 sha5K sha5H (pad5 ls.flatten) ((pad5 ls.flatten).length / 128)))])), (2, Blk'.cells 204 64 (Body.els [AV.c (CV.arr IntKind.u8 64 (List.replicate 64 0))]))] 3 67) = some (St.mk [(2, AV.ptr (Base.l 0) 0 64 0), (6, AV.ptr (Base.l 1) 0 8 0), (7, AV.ptr (Base.l 2) 0 64 0), (50, AV.c (CV.int IntKind.i64 0))] [(0, h64 z64), (1, st5B (run5 sha5K sha5H (pad5 ls.flatten) ((pad5 ls.flatten).length / 128))), (2, h64 z64)] 3 67) ∧ True ∧ some (Out.mk (AV.c (CV.arr IntKind.u8 64 (out5 (run5 sha5K sha5H (pad5 ls.flatten) ((pad5 ls.flatten).length / 128))))) [] []) = some (Out.mk (AV.c (CV.arr IntKind.u8 64 (sha5F sha5K sha5H ls.flatten))) [] []) else False else False, by kernel_rfl, ?_⟩
  exact ⟨hp, cond_at (by simp [Body.len]; omega) ⟨sum5_l0 hX _, by simp [s5I, p0, ct5, h64, z64, byB, Body.len], hp.1, cond_at (by simp [Body.len, p0_len]; unfold padZ5; omega) ⟨sum5_l2 hX _, by simp [s5I, p2, p0, ct5, h64, z64, byB, Body.len], hp.1, sum5_l4 hX _ _, by kernel_rfl, pad5_len _, sum5_l6 hX _, by kernel_rfl, trivial, by kernel_rfl⟩⟩⟩
 ·cases hF
end Go.Proofs.YtffdoihhjfjgoaaGreatDoor
/- The layer ed: what does not loop. -/
namespace Go.Proofs.YtffdoihhjfjgoaaGreatDoor
open Go Go.Ab Go.RowKit Go.Chr
set_option maxRecDepth 100000
theorem kB2 : kB 2 := by unfold kB; omega
noncomputable def eAddS : FSpec := fun xs bl => match xs, bl with
 | [.c (.nat mm1 x), .c (.nat mm2 y)], [] => bif Nat.beq mm1 two256 && Nat.beq mm2 two256 then some (none, ⟨.c (.nat two256 (fadd 2 x y)), [], []⟩) else none
 | _, _ => none
theorem eAdd_ok : FnOk CX 271 eAddS := by
 refine fnOkF hmo G00_ok (fn := Tryz.f271) (c := bodyOf' Tryz.f271) (by kernel_rfl) (by kernel_rfl) (by kernel_rfl) ?_
 intro xs bl p o hF hp
 unfold eAddS at hF
 split at hF
 ·rename_i mm1 x mm2 y
  obtain ⟨hg, hF⟩ := guard_some hF
  simp only [Bool.and_eq_true] at hg
  have hg0 := beqN hg.1
  have hg1 := beqN hg.2
  subst hg0; subst hg1
  injection hF with hF; injection hF with e1 e2; subst e1; subst e2
  refine ⟨Nat.le_of_ble_eq_true (by kernel_rfl), fun X hX hfa => ⟨[], 999, ?_⟩⟩
  refine ⟨kB 2 ∧ some (Out.mk (AV.c (CV.nat two256 (fadd 2 x y))) [] []) = some (Out.mk (AV.c (CV.nat two256 (fadd 2 x y))) [] []), by kernel_rfl, ?_⟩
  exact ⟨kB2, rfl⟩
 ·cases hF
noncomputable def eSubS : FSpec := fun xs bl => match xs, bl with
 | [.c (.nat mm1 x), .c (.nat mm2 y)], [] => bif Nat.beq mm1 two256 && Nat.beq mm2 two256 then some (none, ⟨.c (.nat two256 (fsub 2 x y)), [], []⟩) else none
 | _, _ => none
theorem eSub_ok : FnOk CX 270 eSubS := by
 refine fnOkF hmo G00_ok (fn := Tryz.f270) (c := bodyOf' Tryz.f270) (by kernel_rfl) (by kernel_rfl) (by kernel_rfl) ?_
 intro xs bl p o hF hp
 unfold eSubS at hF
 split at hF
 ·rename_i mm1 x mm2 y
  obtain ⟨hg, hF⟩ := guard_some hF
  simp only [Bool.and_eq_true] at hg
  have hg0 := beqN hg.1
  have hg1 := beqN hg.2
  subst hg0; subst hg1
  injection hF with hF; injection hF with e1 e2; subst e1; subst e2
  refine ⟨Nat.le_of_ble_eq_true (by kernel_rfl), fun X hX hfa => ⟨[], 999, ?_⟩⟩
  refine ⟨kB 2 ∧ some (Out.mk (AV.c (CV.nat two256 (fsub 2 x y))) [] []) = some (Out.mk (AV.c (CV.nat two256 (fsub 2 x y))) [] []), by kernel_rfl, ?_⟩
  exact ⟨kB2, rfl⟩
 ·cases hF
noncomputable def eMulS : FSpec := fun xs bl => match xs, bl with
 | [.c (.nat mm1 x), .c (.nat mm2 y)], [] => bif Nat.beq mm1 two256 && Nat.beq mm2 two256 then some (none, ⟨.c (.nat two256 (fmul 2 x y)), [], []⟩) else none
 | _, _ => none
theorem eMul_ok : FnOk CX 268 eMulS := by
 refine fnOkF hmo G00_ok (fn := Tryz.f268) (c := bodyOf' Tryz.f268) (by kernel_rfl) (by kernel_rfl) (by kernel_rfl) ?_
 intro xs bl p o hF hp
 unfold eMulS at hF
 split at hF
 ·rename_i mm1 x mm2 y
  obtain ⟨hg, hF⟩ := guard_some hF
  simp only [Bool.and_eq_true] at hg
  have hg0 := beqN hg.1
  have hg1 := beqN hg.2
  subst hg0; subst hg1
  injection hF with hF; injection hF with e1 e2; subst e1; subst e2
  refine ⟨Nat.le_of_ble_eq_true (by kernel_rfl), fun X hX hfa => ⟨[], 999, ?_⟩⟩
  refine ⟨kB 2 ∧ some (Out.mk (AV.c (CV.nat two256 (fmul 2 x y))) [] []) = some (Out.mk (AV.c (CV.nat two256 (fmul 2 x y))) [] []), by kernel_rfl, ?_⟩
  exact ⟨kB2, rfl⟩
 ·cases hF
noncomputable def eBaseS : FSpec := fun xs bl => match xs, bl with
 | [], [] => some (none, ⟨.c (.pr (.nat two256 edX) (.pr (.nat two256 edY) (.pr (.bool false) .nl))), [], []⟩)
 | _, _ => none
theorem eBase_ok : FnOk CX 94 eBaseS := by
 refine fnOkF hmo GE_ok (fn := Tryz.f94) (c := bodyOf' Tryz.f94) (by kernel_rfl) (by kernel_rfl) (by kernel_rfl) ?_
 intro xs bl p o hF hp
 unfold eBaseS at hF
 split at hF
 ·skip
  injection hF with hF; injection hF with e1 e2; subst e1; subst e2
  refine ⟨Nat.le_of_ble_eq_true (by kernel_rfl), fun X hX hfa => ⟨[], 999, ?_⟩⟩
  refine ⟨some (Out.mk (AV.c ((CV.nat two256 15112221349535400772501151409588531511454012693041857206046113283949847762202).pr ((CV.nat two256 46316835694926478169428394003475163141307993866256225615783033603165251855960).pr ((CV.bool false).pr CV.nl)))) [] []) = some (Out.mk (AV.c ((CV.nat two256 edX).pr ((CV.nat two256 edY).pr ((CV.bool false).pr CV.nl)))) [] []), by kernel_rfl, ?_⟩
  rfl
 ·cases hF
noncomputable def GE1 : Tab := (271, lift [true, true] eAddS) :: (270, lift [true, true] eSubS) :: (268, lift [true, true] eMulS) :: (94, lift [] eBaseS) :: G0
theorem GE1_ok : TabOk CX GE1 := .cons (lift_ok eAdd_ok _) <| .cons (lift_ok eSub_ok _) <| .cons (lift_ok eMul_ok _) <| .cons (lift_ok eBase_ok _) G0_ok
noncomputable def onE (x y : Nat) : Bool := fbelow 2 x && fbelow 2 y && Nat.beq (fsub 2 (fmul 2 y y) (fmul 2 x x)) (fadd 2 1 (fmul 2 edD (fmul 2 (fmul 2 x x) (fmul 2 y y))))
noncomputable def formedE (x y : Nat) (n : Bool) : Bool := !n && onE x y
noncomputable def eFormedS : FSpec := fun xs bl => match xs, bl with
 | [.c (.pr (.nat mm1 x) (.pr (.nat mm2 y) (.pr (.bool n) .nl)))], [] => bif Nat.beq mm1 two256 && Nat.beq mm2 two256 then some (none, ⟨.c (.bool (formedE x y n)), [], []⟩) else none
 | _, _ => none
theorem eFormed_ok : FnOk CX 203 eFormedS := by
 refine fnOkF hmo GE1_ok (fn := Tryz.f203) (c := bodyOf' Tryz.f203) (by kernel_rfl) (by kernel_rfl) (by kernel_rfl) ?_
 intro xs bl p o hF hp
 unfold eFormedS at hF
 split at hF
 ·rename_i mm1 x mm2 y n
  obtain ⟨hg, hF⟩ := guard_some hF
  simp only [Bool.and_eq_true] at hg
  have hg0 := beqN hg.1
  have hg1 := beqN hg.2
  subst hg0; subst hg1
  injection hF with hF; injection hF with e1 e2; subst e1; subst e2
  refine ⟨Nat.le_of_ble_eq_true (by kernel_rfl), fun X hX hfa => ⟨[], 999, ?_⟩⟩
  refine ⟨bif n then some (Out.mk (AV.c (CV.bool false)) [] []) = some (Out.mk (AV.c (CV.bool (formedE x y n))) [] []) else kB 2 ∧ bif !fbelow 2 x then some (Out.mk (AV.c (CV.bool false)) [] []) = some (Out.mk (AV.c (CV.bool (formedE x y n))) [] []) else kB 2 ∧ bif !fbelow 2 y then some (Out.mk (AV.c (CV.bool false)) [] []) = some (Out.mk (AV.c (CV.bool (formedE x y n))) [] []) else some (Out.mk (AV.c (CV.bool ((fsub 2 (fmul 2 y y) (fmul 2 x x)).beq (fadd 2 1 (fmul 2 edD (fmul 2 (fmul 2 x x) (fmul 2 y y))))))) [] []) = some (Out.mk (AV.c (CV.bool (formedE x y n))) [] []), by kernel_rfl, ?_⟩
  unfold formedE onE
  refine cond_intro (fun h => ?_) (fun h => ⟨kB2, cond_intro (fun h1 => ?_) (fun h1 => ⟨kB2, cond_intro (fun h2 => ?_) (fun h2 => ?_)⟩)⟩)
  ·subst h; simp
  ·subst h; simp at h1; simp [h1]
  ·subst h; simp at h2; simp [h2]
  ·subst h; simp at h1 h2; simp [h1, h2]
 ·cases hF
abbrev T4 := Nat × Nat × Nat × Nat
def cv4 (t : T4) : CV := quadC t.1 t.2.1 t.2.2.1 t.2.2.2
noncomputable def GE2 : Tab := (203, lift [true] eFormedS) :: GE1
theorem GE2_ok : TabOk CX GE2 := .cons (lift_ok eFormed_ok _) GE1_ok
noncomputable def liftE (x y : Nat) (n : Bool) : T4 := bif formedE x y n then (x, y, 1, fmul 2 x y) else (0, 1, 1, 0)
noncomputable def eLiftS : FSpec := fun xs bl => match xs, bl with
 | [.c (.pr (.nat mm1 x) (.pr (.nat mm2 y) (.pr (.bool n) .nl)))], [] => bif Nat.beq mm1 two256 && Nat.beq mm2 two256 then some (none, ⟨.c (cv4 (liftE x y n)), [], []⟩) else none
 | _, _ => none
theorem eLift_ok : FnOk CX 274 eLiftS := by
 refine fnOkF hmo GE2_ok (fn := Tryz.f274) (c := bodyOf' Tryz.f274) (by kernel_rfl) (by kernel_rfl) (by kernel_rfl) ?_
 intro xs bl p o hF hp
 unfold eLiftS at hF
 split at hF
 ·rename_i mm1 x mm2 y n
  obtain ⟨hg, hF⟩ := guard_some hF
  simp only [Bool.and_eq_true] at hg
  have hg0 := beqN hg.1
  have hg1 := beqN hg.2
  subst hg0; subst hg1
  injection hF with hF; injection hF with e1 e2; subst e1; subst e2
  refine ⟨Nat.le_of_ble_eq_true (by kernel_rfl), fun X hX hfa => ⟨[], 999, ?_⟩⟩
  refine ⟨bif !formedE x y n then some (Out.mk (AV.c ((CV.nat two256 0).pr ((CV.nat two256 1).pr ((CV.nat two256 1).pr ((CV.nat two256 0).pr CV.nl))))) [] []) = some (Out.mk (AV.c (cv4 (liftE x y n))) [] []) else some (Out.mk (AV.c ((CV.nat two256 x).pr ((CV.nat two256 y).pr ((CV.nat two256 1).pr ((CV.nat two256 (fmul 2 x y)).pr CV.nl))))) [] []) = some (Out.mk (AV.c (cv4 (liftE x y n))) [] []), by kernel_rfl, ?_⟩
  unfold liftE
  cases formedE x y n <;> rfl
 ·cases hF
noncomputable def dropE (t : T4) : Nat × Nat × Bool := (fmul 2 t.1 (finv 2 t.2.2.1), fmul 2 t.2.1 (finv 2 t.2.2.1), false)
noncomputable def eDropS : FSpec := fun xs bl => match xs, bl with
 | [.c (.pr (.nat mm1 x) (.pr (.nat mm2 y) (.pr (.nat mm3 z) (.pr (.nat mm4 t) .nl))))], [] => bif Nat.beq mm1 two256 && Nat.beq mm2 two256 && Nat.beq mm3 two256 && Nat.beq mm4 two256 then some (none, ⟨.c (.pr (.nat two256 (dropE (x, y, z, t)).1) (.pr (.nat two256 (dropE (x, y, z, t)).2.1) (.pr (.bool false) .nl))), [], []⟩) else none
 | _, _ => none
theorem eDrop_ok : FnOk CX 277 eDropS := by
 refine fnOkF hmo GE2_ok (fn := Tryz.f277) (c := bodyOf' Tryz.f277) (by kernel_rfl) (by kernel_rfl) (by kernel_rfl) ?_
 intro xs bl p o hF hp
 unfold eDropS at hF
 split at hF
 ·rename_i mm1 x mm2 y mm3 z mm4 t
  obtain ⟨hg, hF⟩ := guard_some hF
  simp only [Bool.and_eq_true] at hg
  have hg0 := beqN hg.1.1.1
  have hg1 := beqN hg.1.1.2
  have hg2 := beqN hg.1.2
  have hg3 := beqN hg.2
  subst hg0; subst hg1; subst hg2; subst hg3
  injection hF with hF; injection hF with e1 e2; subst e1; subst e2
  refine ⟨Nat.le_of_ble_eq_true (by kernel_rfl), fun X hX hfa => ⟨[], 999, ?_⟩⟩
  refine ⟨kB 2 ∧ some (Out.mk (AV.c ((CV.nat two256 (fmul 2 x (finv 2 z))).pr ((CV.nat two256 (fmul 2 y (finv 2 z))).pr ((CV.bool false).pr CV.nl)))) [] []) = some (Out.mk (AV.c ((CV.nat two256 (dropE (x, y, z, t)).fst).pr ((CV.nat two256 (dropE (x, y, z, t)).snd.fst).pr ((CV.bool false).pr CV.nl)))) [] []), by kernel_rfl, ?_⟩
  exact ⟨kB2, rfl⟩
 ·cases hF
noncomputable def plsE (p q : T4) : T4 :=
 let mul := fmul 2
 let add := fadd 2
 let sub := fsub 2
 let a := mul (sub p.2.1 p.1) (sub q.2.1 q.1)
 let b := mul (add p.2.1 p.1) (add q.2.1 q.1)
 let c := mul (mul p.2.2.2 edT) q.2.2.2
 let e := mul p.2.2.1 q.2.2.1
 let e := add e e
 let f := sub b a
 let g := sub e c
 let h := add e c
 let k := add b a
 (mul f g, mul h k, mul g h, mul f k)
noncomputable def ePlusS : FSpec := fun xs bl => match xs, bl with
 | [.c (.pr (.nat mm1 x) (.pr (.nat mm2 y) (.pr (.nat mm3 z) (.pr (.nat mm4 t) .nl)))), .c (.pr (.nat mm5 u) (.pr (.nat mm6 v) (.pr (.nat mm7 w) (.pr (.nat mm8 s) .nl))))], [] => bif Nat.beq mm1 two256 && Nat.beq mm2 two256 && Nat.beq mm3 two256 && Nat.beq mm4 two256 && Nat.beq mm5 two256 && Nat.beq mm6 two256 && Nat.beq mm7 two256 && Nat.beq mm8 two256 then some (none, ⟨.c (cv4 (plsE (x, y, z, t) (u, v, w, s))), [], []⟩) else none
 | _, _ => none
theorem ePlus_ok : FnOk CX 275 ePlusS := by
 refine fnOkF hmo GE2_ok (fn := Tryz.f275) (c := bodyOf' Tryz.f275) (by kernel_rfl) (by kernel_rfl) (by kernel_rfl) ?_
 intro xs bl p o hF hp
 unfold ePlusS at hF
 split at hF
 ·rename_i mm1 x mm2 y mm3 z mm4 t mm5 u mm6 v mm7 w mm8 s
  obtain ⟨hg, hF⟩ := guard_some hF
  simp only [Bool.and_eq_true] at hg
  have hg0 := beqN hg.1.1.1.1.1.1.1
  have hg1 := beqN hg.1.1.1.1.1.1.2
  have hg2 := beqN hg.1.1.1.1.1.2
  have hg3 := beqN hg.1.1.1.1.2
  have hg4 := beqN hg.1.1.1.2
  have hg5 := beqN hg.1.1.2
  have hg6 := beqN hg.1.2
  have hg7 := beqN hg.2
  subst hg0; subst hg1; subst hg2; subst hg3; subst hg4; subst hg5; subst hg6; subst hg7
  injection hF with hF; injection hF with e1 e2; subst e1; subst e2
  refine ⟨Nat.le_of_ble_eq_true (by kernel_rfl), fun X hX hfa => ⟨[], 999, ?_⟩⟩
  refine ⟨some (Out.mk (.c (cv4 (plsE (x, y, z, t) (u, v, w, s)))) [] []) = some (Out.mk (.c (cv4 (plsE (x, y, z, t) (u, v, w, s)))) [] []), by kernel_rfl, rfl⟩
 ·cases hF
end Go.Proofs.YtffdoihhjfjgoaaGreatDoor
/- The layer ed: multiples. -/
namespace Go.Proofs.YtffdoihhjfjgoaaGreatDoor
open Go Go.Ab Go.RowKit Go.Chr
set_option maxRecDepth 100000
abbrev PtQ := Nat × Nat × Bool
def cvQ (t : PtQ) : CV := .pr (.nat two256 t.1) (.pr (.nat two256 t.2.1) (.pr (.bool t.2.2) .nl))
noncomputable def GE3 : Tab := (274, lift [true] eLiftS) :: (277, lift [true] eDropS) :: (275, lift [true, true] ePlusS) :: GE2
theorem GE3_ok : TabOk CX GE3 := .cons (lift_ok eLift_ok _) <| .cons (lift_ok eDrop_ok _) <| .cons (lift_ok ePlus_ok _) GE2_ok
noncomputable def pickE (P Q : T4) (k : Int) : T4 := bif k == 3 then plsE P Q else bif k == 2 then Q else P
noncomputable def stepE (u v : Nat) (P Q : T4) (i : Nat) (o : T4) : T4 :=
 bif decide (bitI u i + 2 * bitI v i > 0) then plsE (plsE o o) (pickE P Q (bitI u i + 2 * bitI v i)) else plsE o o
noncomputable def bothE (u v : Nat) (P Q : T4) : Nat → T4
 | 0 => (0, 1, 1, 0)
 | n + 1 => stepE u v P Q (255 - n) (bothE u v P Q n)
def epB (t : PtQ) : Blk' := .cells 143 9 (.els [.c (cvQ t)])
def quaB (t : T4) : Blk' := .cells 308 16 (.els [.c (cv4 t)])
noncomputable def taeB (P Q : T4) : Blk' := .cells 311 64 (.els [.c (.pr (cv4 (0, 1, 1, 0)) (.pr (cv4 P) (.pr (cv4 Q) (.pr (cv4 (plsE P Q)) .nl))))])
noncomputable def ebT (u v : Nat) (P Q o : T4) (i : Int) : St :=
 ⟨[(4, .ptr (.l 0) 0 4 0), (6, .ptr (.l 1) 0 4 0), (8, .ptr (.l 2) 0 9 0), (11, .ptr (.l 3) 0 64 0), (12, .ptr (.l 4) 0 16 0), (13, .c (.int .i64 i))], [(0, natB u), (1, natB v), (2, epB (0, 0, false)), (3, taeB P Q), (4, quaB o)], 5, 51⟩
noncomputable def ebI (u v : Nat) (P Q o : T4) (k : Nat) : St := ebT u v P Q o ((255 : Int) - (k : Nat))
noncomputable def ebY (u v : Nat) (P Q : T4) (k : Nat) (o : T4) : Prop := ∃ j, some (ebT u v P Q o (IntKind.i64.wrap (255 - (k : Int) - 1))) = some (ebI u v P Q (bothE u v P Q j) j) ∧ 256 - j < 256 - k ∧ j ≤ 256
noncomputable def kkI (u v k : Nat) : Int := IntKind.i64.wrap (bitI u (255 - (k : Int)) + IntKind.i64.wrap (2 * bitI v (255 - (k : Int))))
def ebF (o : T4) : St := ⟨[(8, .ptr (.l 0) 0 9 0), (12, .ptr (.l 1) 0 16 0)], [(0, epB (0, 0, false)), (1, quaB o)], 2, 51⟩
noncomputable def ebQ (u v : Nat) (P Q : T4) (k : Nat) (o : T4) : Prop := cond (decide (255 - (k : Int) ≥ 0)) (((0 : Int) ≤ 255 - (k : Int) ∧ 255 - (k : Int) ≤ 255) ∧ ((0 : Int) ≤ 255 - (k : Int) ∧ 255 - (k : Int) ≤ 255) ∧ cond (decide (kkI u v k > 0)) (cond (kkI u v k == 3) (ebY u v P Q k (plsE (plsE o o) (plsE P Q))) <| cond (kkI u v k == 2) (ebY u v P Q k (plsE (plsE o o) Q)) <| cond (kkI u v k == 1) (ebY u v P Q k (plsE (plsE o o) P)) <| cond (kkI u v k == 0) (ebY u v P Q k (plsE (plsE o o) (0, 1, 1, 0))) False) (ebY u v P Q k (plsE o o))) (false = false ∧ some (ebF o) = some (ebF (bothE u v P Q 256)))
theorem bit01e (x : Nat) (i : Int) : bitI x i = 0 ∨ bitI x i = 1 := by rw [bitI_eq]; omega
theorem bothe_l0 {X : Snap} (hX : ∀ b L, X.ι b = some L → b < 0) (u v : Nat) (P Q : T4) : LOk CX X 0 (loopAt 0 Tryz.f186) (loopW 0 [] [4, 6, 8, 11, 12, 13] (ebI u v P Q (0, 1, 1, 0) 0) True false (ebF (bothE u v P Q 256))) := by
 refine loopW_ok hmo GE3_ok (by kernel_rfl) hX [8, 12] [] (fun k => ebI u v P Q (bothE u v P Q k) k) (fun k => k ≤ 256) (fun k => 256 - k) 0 (fun _ => rfl) (fun _ => by omega) ?_
 intro hp k hk hfa
 refine ⟨[], 999, ?_⟩
 refine ⟨ebQ u v P Q k (bothE u v P Q k), by kernel_rfl, ?_⟩
 obtain ⟨o, ho⟩ : ∃ o, o = bothE u v P Q k := ⟨_, rfl⟩
 have hn : bothE u v P Q (k + 1) = stepE u v P Q (255 - k) (bothE u v P Q k) := rfl
 rw [← ho] at hn ⊢
 have hk : k ≤ 256 := hk
 unfold ebQ
 refine cond_intro (fun h => ?_) (fun h => ?_)
 ·have h := of_decide_eq_true h
  refine ⟨by omega, by omega, ?_⟩
  have ei : ((255 - k : Nat) : Int) = 255 - (k : Int) := by omega
  have e13 : IntKind.i64.wrap ((255 : Int) - (k : Int) - 1) = 255 - ((k + 1 : Nat) : Int) := by rw [wi (by omega)]; omega
  unfold stepE at hn
  rw [ei] at hn
  have hu := bit01e u (255 - (k : Int))
  have hv := bit01e v (255 - (k : Int))
  have hkk : kkI u v k = bitI u (255 - (k : Int)) + 2 * bitI v (255 - (k : Int)) := by unfold kkI; rw [wi (x := 2 * _) (by omega), wi (by omega)]
  rw [← hkk] at hn
  have hk4 : kkI u v k = 0 ∨ kkI u v k = 1 ∨ kkI u v k = 2 ∨ kkI u v k = 3 := by omega
  have hm : 256 - (k + 1) < 256 - k ∧ k + 1 ≤ 256 := by omega
  have hy : ebY u v P Q k (bothE u v P Q (k + 1)) := ⟨k + 1, by rw [e13]; rfl, hm⟩
  generalize kkI u v k = kk at hn hk4 ⊢
  rw [hn] at hy
  rcases hk4 with rfl | rfl | rfl | rfl
  ·exact cond_no rfl hy
  ·exact cond_at rfl <| cond_no rfl <| cond_no rfl <| cond_at rfl hy
  ·exact cond_at rfl <| cond_no rfl <| cond_at rfl hy
  ·exact cond_at rfl <| cond_at rfl hy
 ·have h := of_decide_eq_false h
  obtain rfl : k = 256 := by omega
  rw [ho]
  exact ⟨rfl, rfl⟩
noncomputable def eBothS : FSpec := fun xs bl => match xs, bl with
 | [.c (.nat mm1 u), .c (.pr (.nat mm2 x1) (.pr (.nat mm3 y1) (.pr (.bool n1) .nl))), .c (.nat mm4 v), .c (.pr (.nat mm5 x2) (.pr (.nat mm6 y2) (.pr (.bool n2) .nl)))], [] => bif Nat.beq mm1 two256 && Nat.beq mm2 two256 && Nat.beq mm3 two256 && Nat.beq mm4 two256 && Nat.beq mm5 two256 && Nat.beq mm6 two256 then some (none, ⟨.c (cvQ (dropE (bothE u v (liftE x1 y1 n1) (liftE x2 y2 n2) 256))), [], []⟩) else none
 | _, _ => none
theorem eBoth_ok : FnOk CX 186 eBothS := by
 refine fnOkF hmo GE3_ok (fn := Tryz.f186) (c := bodyOf' Tryz.f186) (by kernel_rfl) (by kernel_rfl) (by kernel_rfl) ?_
 intro xs bl p o hF hp
 unfold eBothS at hF
 split at hF
 ·rename_i mm1 u mm2 x1 mm3 y1 n1 mm4 v mm5 x2 mm6 y2 n2
  obtain ⟨hg, hF⟩ := guard_some hF
  simp only [Bool.and_eq_true] at hg
  have hg0 := beqN hg.1.1.1.1.1
  have hg1 := beqN hg.1.1.1.1.2
  have hg2 := beqN hg.1.1.1.2
  have hg3 := beqN hg.1.1.2
  have hg4 := beqN hg.1.2
  have hg5 := beqN hg.2
  subst hg0; subst hg1; subst hg2; subst hg3; subst hg4; subst hg5
  injection hF with hF; injection hF with e1 e2; subst e1; subst e2
  refine ⟨Nat.le_of_ble_eq_true (by kernel_rfl), fun X hX hfa => ⟨[(0, loopW 0 [] [4, 6, 8, 11, 12, 13] (ebI u v (liftE x1 y1 n1) (liftE x2 y2 n2) (0, 1, 1, 0) 0) True false (ebF (bothE u v (liftE x1 y1 n1) (liftE x2 y2 n2) 256)))], 999, ?_⟩⟩
  refine ⟨LOk CX X 0 (loopAt 0 Tryz.f186) (loopW 0 [] [4, 6, 8, 11, 12, 13] (ebI u v (liftE x1 y1 n1) (liftE x2 y2 n2) (0, 1, 1, 0) 0) True false (ebF (bothE u v (liftE x1 y1 n1) (liftE x2 y2 n2) 256))) ∧ some (ebI u v (liftE x1 y1 n1) (liftE x2 y2 n2) (0, 1, 1, 0) 0) = some (ebI u v (liftE x1 y1 n1) (liftE x2 y2 n2) (0, 1, 1, 0) 0) ∧ True ∧ some (Out.mk (.c (cvQ (dropE (bothE u v (liftE x1 y1 n1) (liftE x2 y2 n2) 256)))) [] []) = some (Out.mk (.c (cvQ (dropE (bothE u v (liftE x1 y1 n1) (liftE x2 y2 n2) 256)))) [] []), by kernel_rfl, ?_⟩
  exact ⟨bothe_l0 hX u v _ _, rfl, trivial, rfl⟩
 ·cases hF
noncomputable def GE4 : Tab := (186, lift [true, true, true, true] eBothS) :: GE3
theorem GE4_ok : TabOk CX GE4 := .cons (lift_ok eBoth_ok _) GE3_ok
noncomputable def bothQ (u : Nat) (p : PtQ) (v : Nat) (q : PtQ) : PtQ := dropE (bothE u v (liftE p.1 p.2.1 p.2.2) (liftE q.1 q.2.1 q.2.2) 256)
noncomputable def eMulPS : FSpec := fun xs bl => match xs, bl with
 | [.c (.nat mm1 u), .c (.pr (.nat mm2 x) (.pr (.nat mm3 y) (.pr (.bool n) .nl)))], [] => bif Nat.beq mm1 two256 && Nat.beq mm2 two256 && Nat.beq mm3 two256 then some (none, ⟨.c (cvQ (bothQ u (x, y, n) 0 (x, y, n))), [], []⟩) else none
 | _, _ => none
theorem eMulP_ok : FnOk CX 93 eMulPS := by
 refine fnOkF hmo GE4_ok (fn := Tryz.f93) (c := bodyOf' Tryz.f93) (by kernel_rfl) (by kernel_rfl) (by kernel_rfl) ?_
 intro xs bl p o hF hp
 unfold eMulPS at hF
 split at hF
 ·rename_i mm1 u mm2 x mm3 y n
  obtain ⟨hg, hF⟩ := guard_some hF
  simp only [Bool.and_eq_true] at hg
  have hg0 := beqN hg.1.1
  have hg1 := beqN hg.1.2
  have hg2 := beqN hg.2
  subst hg0; subst hg1; subst hg2
  injection hF with hF; injection hF with e1 e2; subst e1; subst e2
  refine ⟨Nat.le_of_ble_eq_true (by kernel_rfl), fun X hX hfa => ⟨[], 999, ?_⟩⟩
  refine ⟨some (Out.mk (AV.c ((CV.nat two256 (dropE (bothE u 0 (liftE x y n) (liftE x y n) 256)).fst).pr ((CV.nat two256 (dropE (bothE u 0 (liftE x y n) (liftE x y n) 256)).snd.fst).pr ((CV.bool false).pr CV.nl)))) [] []) = some (Out.mk (AV.c (cvQ (bothQ u (x, y, n) 0 (x, y, n)))) [] []), by kernel_rfl, ?_⟩
  rfl
 ·cases hF
end Go.Proofs.YtffdoihhjfjgoaaGreatDoor
/- The layer ed: points as bytes. -/
namespace Go.Proofs.YtffdoihhjfjgoaaGreatDoor
open Go Go.Ab Go.RowKit Go.Chr
set_option maxRecDepth 100000
noncomputable def encX (x y : Nat) : List Int := (leL y).set 31 (ior .u8 ((leL y).getD 31 0) (ishl .u8 (IntKind.u8.wrap (iand .u64 (lb x 0) 1)) 7))
noncomputable def encE (x y : Nat) (n : Bool) : List Int := bif formedE x y n then encX x y else encX 0 1
noncomputable def eEncodeS : FSpec := fun xs bl => match xs, bl with
 | [.c (.pr (.nat mm1 x) (.pr (.nat mm2 y) (.pr (.bool n) .nl)))], [] => bif Nat.beq mm1 two256 && Nat.beq mm2 two256 then some (none, ⟨.own 0 1 32, [], [byB (encE x y n)]⟩) else none
 | _, _ => none
theorem eEncode_ok : FnOk CX 92 eEncodeS := by
 refine fnOkF hmo GE4_ok (fn := Tryz.f92) (c := bodyOf' Tryz.f92) (by kernel_rfl) (by kernel_rfl) (by kernel_rfl) ?_
 intro xs bl p o hF hp
 unfold eEncodeS at hF
 split at hF
 ·rename_i mm1 x mm2 y n
  obtain ⟨hg, hF⟩ := guard_some hF
  simp only [Bool.and_eq_true] at hg
  have hg0 := beqN hg.1
  have hg1 := beqN hg.2
  subst hg0; subst hg1
  injection hF with hF; injection hF with e1 e2; subst e1; subst e2
  refine ⟨Nat.le_of_ble_eq_true (by kernel_rfl), fun X hX hfa => ⟨[], 999, ?_⟩⟩
  refine ⟨bif !formedE x y n then some (Out.mk (AV.own 0 1 32) [] [Blk'.cells 5 1 (Body.ints IntKind.u8 ((leL 1).set 31 0))]) = some (Out.mk (AV.own 0 1 32) [] [byB (encE x y n)]) else some (Out.mk (AV.own 0 1 32) [] [Blk'.cells 5 1 (Body.ints IntKind.u8 ((leL y).set 31 (ior IntKind.u8 ((leL y).getD 31 0) (ishl IntKind.u8 (IntKind.u8.wrap (iand IntKind.u64 (lb x 0) 1)) 7))))]) = some (Out.mk (AV.own 0 1 32) [] [byB (encE x y n)]), by kernel_rfl, ?_⟩
  have e : encX 0 1 = (leL 1).set 31 0 := by kernel_rfl
  unfold encE
  rw [e]
  cases formedE x y n <;> rfl
 ·cases hF
end Go.Proofs.YtffdoihhjfjgoaaGreatDoor
/- The layer eddsa: keys. -/
namespace Go.Proofs.YtffdoihhjfjgoaaGreatDoor
open Go Go.Ab Go.RowKit Go.Chr
set_option maxRecDepth 100000
noncomputable def GS3 : Tab := (202, lift [true] sum5S) :: (183, lift [true] cLittleS) :: GE
theorem GS3_ok : TabOk CX GS3 := .cons (lift_ok sum5_ok _) <| .cons (lift_ok cLittle_ok _) GE_ok
noncomputable def edH (s : List Int) : List Int :=
 let h := sha5F sha5K sha5H s
 let h := h.set 0 (iand .u8 (h.getD 0 0) 248)
 h.set 31 (ior .u8 (iand .u8 (h.getD 31 0) 127) 64)
noncomputable def edA (s : List Int) : Nat := leW ((edH s).take 32)
noncomputable def dKeysS : FSpec := fun xs bl => match xs, bl with
 | [.c (.arr .u8 32 s)], [] => some (none, ⟨.t2 (.c (.nat two256 (edA s))) (.inn (.l 0) 0 64 32 1 32), [], [h64 (edH s)]⟩)
 | _, _ => none
theorem dKeys_ok : FnOk CX 91 dKeysS := by
 refine fnOkF hmo GS3_ok (fn := Tryz.f91) (c := bodyOf' Tryz.f91) (by kernel_rfl) (by kernel_rfl) (by kernel_rfl) ?_
 intro xs bl p o hF hp
 unfold dKeysS at hF
 split at hF
 ·rename_i s
  injection hF with hF; injection hF with e1 e2; subst e1; subst e2
  refine ⟨Nat.le_of_ble_eq_true (by kernel_rfl), fun X hX hfa => ⟨[], 999, ?_⟩⟩
  refine ⟨([s].flatten.length ≤ 1000000000 ∧ 1 ≤ 1000000000) ∧ 32 = 32 ∧ some (Out.mk ((AV.c (CV.nat two256 (leW (List.take 32 (List.drop 0 (((sha5F sha5K sha5H [s].flatten).set 0 (iand IntKind.u8 ((sha5F sha5K sha5H [s].flatten).getD 0 0) 248)).set 31 (ior IntKind.u8 (iand IntKind.u8 (((sha5F sha5K sha5H [s].flatten).set 0 (iand IntKind.u8 ((sha5F sha5K sha5H [s].flatten).getD 0 0) 248)).getD 31 0) 127) 64))))))).t2 (AV.inn (Base.l 0) 0 64 32 1 32)) [] [Blk'.cells 204 64 (Body.els [AV.c (CV.arr IntKind.u8 64 (((sha5F sha5K sha5H [s].flatten).set 0 (iand IntKind.u8 ((sha5F sha5K sha5H [s].flatten).getD 0 0) 248)).set 31 (ior IntKind.u8 (iand IntKind.u8 (((sha5F sha5K sha5H [s].flatten).set 0 (iand IntKind.u8 ((sha5F sha5K sha5H [s].flatten).getD 0 0) 248)).getD 31 0) 127) 64)))])]) = some (Out.mk ((AV.c (CV.nat two256 (edA s))).t2 (AV.inn (Base.l 0) 0 64 32 1 32)) [] [h64 (edH s)]), by kernel_rfl, ?_⟩
  have e1 : ∀ x : List Int, [x].flatten = x := fun x => by simp
  have hs : s.length = 32 := (hfa.sl 0 _ rfl).1.1
  rw [e1]
  exact ⟨⟨by omega, by omega⟩, rfl, rfl⟩
 ·cases hF
noncomputable def GS4 : Tab := (91, lift [true] dKeysS) :: (94, lift [] eBaseS) :: (93, lift [true, true] eMulPS) :: (92, lift [true] eEncodeS) :: GE
theorem GS4_ok : TabOk CX GS4 := .cons (lift_ok dKeys_ok _) <| .cons (lift_ok eBase_ok _) <| .cons (lift_ok eMulP_ok _) <| .cons (lift_ok eEncode_ok _) GE_ok
noncomputable def encQ (p : Nat × Nat × Bool) : List Int := encE p.1 p.2.1 p.2.2
noncomputable def edE (a : Nat) : List Int := encQ (bothQ a (edX, edY, false) 0 (edX, edY, false))
noncomputable def dPublicS : FSpec := fun xs bl => match xs, bl with
 | [.c (.arr .u8 32 s)], [] => some (none, ⟨.c (.arr .u8 32 (edE (edA s))), [], []⟩)
 | _, _ => none
theorem dPublic_ok : FnOk CX 21 dPublicS := by
 refine fnOkF hmo GS4_ok (fn := Tryz.f21) (c := bodyOf' Tryz.f21) (by kernel_rfl) (by kernel_rfl) (by kernel_rfl) ?_
 intro xs bl p o hF hp
 unfold dPublicS at hF
 split at hF
 ·rename_i s
  injection hF with hF; injection hF with e1 e2; subst e1; subst e2
  refine ⟨Nat.le_of_ble_eq_true (by kernel_rfl), fun X hX hfa => ⟨[], 999, ?_⟩⟩
  refine ⟨bif Nat.ble 32 (encE (bothQ (edA s) (edX, edY, false) 0 (edX, edY, false)).fst (bothQ (edA s) (edX, edY, false) 0 (edX, edY, false)).snd.fst false).length then some (Out.mk (AV.c (CV.arr IntKind.u8 32 (List.take 32 (List.drop 0 (encE (bothQ (edA s) (edX, edY, false) 0 (edX, edY, false)).fst (bothQ (edA s) (edX, edY, false) 0 (edX, edY, false)).snd.fst false))))) [] []) = some (Out.mk (AV.c (CV.arr IntKind.u8 32 (edE (edA s)))) [] []) else False, by kernel_rfl, ?_⟩
  have hl : ∀ x y n, (encE x y n).length = 32 := fun x y n => by unfold encE encX; cases formedE x y n <;> simp [leL_len]
  exact cond_at (by rw [hl]; rfl) (by rw [List.drop_zero, List.take_of_length_le (by rw [hl]; omega)]; rfl)
 ·cases hF
end Go.Proofs.YtffdoihhjfjgoaaGreatDoor
/- The layer witness: opened, where nothing is to be mended. -/
namespace Go.Proofs.YtffdoihhjfjgoaaGreatDoor
open Go Go.Ab Go.RowKit Go.Chr
set_option maxRecDepth 100000
def nstep (l : List Int) (n : Int) (i : Nat) : Int := ior .i64 n (ishl .i64 (IntKind.i64.wrap (l.getD i 0)) (8 * (i : Nat)))
def numN (l : List Int) : Int := nstep l (nstep l (nstep l (nstep l (nstep l (nstep l (nstep l (nstep l 0 0) 1) 2) 3) 4) 5) 6) 7
def numW (l : List Int) : Int := bif decide (l.getD 3 0 ≥ 128) || (l.getD 4 0 != 0 || (l.getD 5 0 != 0 || (l.getD 6 0 != 0 || l.getD 7 0 != 0))) then -1 else numN l
def nmQ8 (l : List Int) : Prop :=
 let M := fun n : Int => (some ⟨.c (.int .i64 n), [], []⟩ : Option Out) = some ⟨.c (.int .i64 (numW l)), [], []⟩
 cond (decide (l.getD 3 0 ≥ 128)) (M (-1)) <| cond (l.getD 4 0 != 0) (M (-1)) <| cond (l.getD 5 0 != 0) (M (-1)) <| cond (l.getD 6 0 != 0) (M (-1)) <| cond (l.getD 7 0 != 0) (M (-1)) (M (numN l))
theorem nmQ8_ok (l : List Int) : nmQ8 l := by
 unfold nmQ8 numW
 cases decide (l.getD 3 0 ≥ 128) <;> cases l.getD 4 0 != 0 <;> cases l.getD 5 0 != 0 <;> cases l.getD 6 0 != 0 <;> cases l.getD 7 0 != 0 <;> rfl
noncomputable def wNumberS : FSpec := fun xs bl => match xs, bl with
 | [.c (.ints .u8 l)], [] => some (some (l.length = 8), ⟨.c (.int .i64 (numW l)), [], []⟩)
 | _, _ => none
theorem wNumber_ok : FnOk CX 113 wNumberS := by
  refine fnOkF hmo GE_ok (fn := Tryz.f113) (c := bodyOf' Tryz.f113) (by kernel_rfl) (by kernel_rfl) (by kernel_rfl) ?_
  intro xs bl p o hF hp
  unfold wNumberS at hF
  split at hF
  · rename_i l
    injection hF with hF; injection hF with e1 e2; subst e1; subst e2
    have hp : l.length = 8 := hp
    refine ⟨Nat.le_of_ble_eq_true (by kernel_rfl), fun X hX hfa => ⟨[], 999, ?_⟩⟩
    match l, hp with
     | [a0, a1, a2, a3, a4, a5, a6, a7], _ => exact ⟨nmQ8 [a0, a1, a2, a3, a4, a5, a6, a7], by kernel_rfl, nmQ8_ok _⟩
  · cases hF
def wtV (d b : Nat) (nm sd ln : List Int) (lk : Int) (k : Nat) (sz : Int) (rt : List Int) (ov : Bool) : AV := .pr (.ptr (.l d) 0 4 0) (.pr (.c (.str nm)) (.pr (.c (.arr .u8 32 sd)) (.pr (.pr (.c (.str ln)) (.pr (.c (.int .u8 lk)) (.pr (.own b 1 k) (.c .nl)))) (.c (.pr (.int .i64 sz) (.pr (.arr .u8 32 rt) (.pr (.bool ov) .nl)))))))
def wtB (alive : Bool) (d b : Nat) (nm sd ln : List Int) (lk : Int) (k : Nat) (sz : Int) (rt : List Int) (ov : Bool) : Blk' := .opt alive 182 71 (.els [wtV d b nm sd ln lk k sz rt ov])
noncomputable def GW1 : Tab := (111, lift [false, false] mkMend0S) :: (112, lift [false, false] mkLoadS) :: (77, lift [true] tNameS) :: (113, lift [true] wNumberS) :: (101, lift [true, true] seqS) :: (114, flatO 5 .u8 cloneS) :: GE
theorem GW1_ok : TabOk CX GW1 := .cons (lift_ok mkMend0_ok _) <| .cons (lift_ok mkLoad_ok _) <| .cons (lift_ok tName_ok _) <| .cons (lift_ok wNumber_ok _) <| .cons (lift_ok seq_ok _) <| .cons (flatO_ok clone_c) GE_ok
theorem rdL_64 {xs : List (List Int)} {m : List (Int × List Int)} (hx : rowsFact (arrFact .u8 64) xs) (hm : rowsFact (fun p : Int × List Int => arrFact .u8 64 p.2) m) {n : Nat} {d : Bool} {i : Int} (hn : n = xs.length) (h : rdE n d i = 0) : (rdL xs m n d i).length = 64 := by
 unfold rdE at h
 unfold rdL
 cases d with
 | true => cases h
 | false =>
  cases e : decide (i < 0) || decide (i ≥ (n : Nat)) with
  | true => rw [e] at h; cases h
  | false =>
   cases mHas (.arr .u8 64) m i with
   | true => exact (mGet_fact (t := .arr .u8 64) zS_fact hm).1
   | false =>
    simp only [Bool.or_eq_false_iff, decide_eq_false_iff_not] at e
    have hlt : i.toNat < xs.length := by omega
    show (xs.getD i.toNat []).length = 64
    rw [List.getD_eq_getElem?_getD, List.getElem?_eq_getElem hlt]
    exact (hx _ _ (List.getElem?_eq_getElem hlt)).1
theorem mkL_64 {xs : List (List Int)} {m : List (Int × List Int)} (hx : rowsFact (arrFact .u8 64) xs) (hm : rowsFact (fun p : Int × List Int => arrFact .u8 64 p.2) m) {n : Nat} {d : Bool} {i : Int} (hn : n = xs.length) (h : mkE n d i = 0) : (mkL xs m n d i).length = 64 := by
 obtain ⟨h1, _, h3⟩ := mkE_zero h
 unfold mkL mkV
 cases sameB (rdL xs m n d (i + 1)) (rdL xs m n d (i + 2)) with
 | true => exact rdL_64 hx hm hn h3
 | false => exact rdL_64 hx hm hn h1
noncomputable def wBad (v : List Int) : Bool := bif decide (numW (v.take 8) < 0) then true else bif (numW (v.take 8) == 0) && !((v.drop 8).take 32 == List.replicate 32 0) then true else !sameB (v.drop 40) (List.replicate 24 0)
noncomputable def wLive (nm v : List Int) : Bool := nameB nm && !wBad v
noncomputable def wErr (nm v : List Int) : Int := bif nameB nm then (bif wBad v then 2 else 0) else 1
noncomputable def wZ (nm sd ln : List Int) (lk : Int) (v : List Int) (k : Nat) : List Blk' := [wtB false 0 (k + 1) nm sd ln lk 0 (numW (v.take 8)) ((v.drop 8).take 32) false, byB []]
noncomputable def wOpen0S : FSpec := fun xs bl => match xs, bl with
 | [.ptr (.l 0) 0 4 0, .c (.str nm), .c (.arr .u8 32 sd), .c (.pr (.str ln) (.pr (.int .u8 lk) (.pr (.ints .u8 lp) .nl)))], [.cells 194 4 (.els [.pr (.own 1 64 n) (.pr (.hd .mp 2) (.c (.pr (.int .i64 f) (.pr (.bool d) .nl))))]), .cells 204 64 (.rows (.arr .u8 64) xs), .map (.arr .u8 64) m] => some (some (steady xs m n d 0 ∧ mkE n d 0 = 0 ∧ nm.length ≤ 1000000000 ∧ lp.length ≤ 1000000000), ⟨.t2 (.hd (.opt 71) 3) (.c (.int .i64 (wErr nm (mkL xs m n d 0)))), [some (dkB 1 2 n f d), some (scB xs), some (mpB m)], [wtB (wLive nm (mkL xs m n d 0)) 0 4 nm sd ln lk (List.length (bif wLive nm (mkL xs m n d 0) then lp else [])) (numW ((mkL xs m n d 0).take 8)) (((mkL xs m n d 0).drop 8).take 32) false, byB (bif wLive nm (mkL xs m n d 0) then lp else [])]⟩)
 | [.c (.raw (.pointer none)), .c (.str nm), .c (.arr .u8 32 sd), .c (.pr (.str ln) (.pr (.int .u8 lk) (.pr (.ints .u8 lp) .nl)))], [] => some (none, ⟨.t2 (.c (.raw (.pointer none))) (.c (.int .i64 1)), [], []⟩)
 | _, _ => none
theorem wOpen0_ok : FnOk CX 29 wOpen0S := by
 refine fnOkP hmo GW1_ok (fn := Tryz.f29) (c := bodyOf' Tryz.f29) (by kernel_rfl) (by kernel_rfl) (by kernel_rfl) ?_
 intro xs bl p o hF hp
 unfold wOpen0S at hF
 split at hF
 ·rename_i nm sd ln lk lp n f d xs m
  injection hF with hF; injection hF with e1 e2; subst e1; subst e2
  obtain ⟨hs, h0, hm, hl⟩ : steady xs m n d 0 ∧ mkE n d 0 = 0 ∧ nm.length ≤ 1000000000 ∧ lp.length ≤ 1000000000 := hp
  refine ⟨Nat.le_of_ble_eq_true (by kernel_rfl), fun X hX hfa => ⟨[.optr 8 71 (wZ nm sd ln lk (mkL xs m n d 0))], [], 999, ?_⟩⟩
  refine ⟨let z0z := (Out.mk ((AV.hd (Hk.opt 71) 3).t2 (AV.c (CV.int IntKind.i64 (wErr nm (mkL xs m n d 0))))) [some (dkB 1 2 n f d), some (scB xs), some (mpB m)] [wtB (wLive nm (mkL xs m n d 0)) 0 4 nm sd ln lk (bif wLive nm (mkL xs m n d 0) then lp else []).length (numW (List.take 8 (mkL xs m n d 0))) (List.take 32 (List.drop 8 (mkL xs m n d 0))) false, byB (bif wLive nm (mkL xs m n d 0) then lp else [])]); let z4z := (Body.els [(AV.ptr (Base.l 0) 0 4 0).pr ((AV.c (CV.str nm)).pr ((AV.c (CV.arr IntKind.u8 32 sd)).pr (((AV.c (CV.str ln)).pr ((AV.c (CV.int IntKind.u8 lk)).pr ((AV.own 4 1 0).pr (AV.c CV.nl)))).pr (AV.c ((CV.int IntKind.i64 (numW (List.take 8 (mkL xs m n d 0)))).pr ((CV.arr IntKind.u8 32 (List.take 32 (List.drop 8 (mkL xs m n d 0)))).pr ((CV.bool false).pr CV.nl)))))))]); let z6z := (Blk'.cells 194 4 (Body.els [(AV.own 1 64 n).pr ((AV.hd Hk.mp 2).pr (AV.c ((CV.int IntKind.i64 f).pr ((CV.bool d).pr CV.nl))))])); let z1z := (Out.mk ((AV.hd (Hk.opt 71) 3).t2 (AV.c (CV.int IntKind.i64 2))) [some z6z, some (Blk'.cells 204 64 (Body.rows (Tag.arr IntKind.u8 64) xs)), some (Blk'.map (Tag.arr IntKind.u8 64) m)] [Blk'.opt false 182 71 z4z, Blk'.cells 5 1 (Body.ints IntKind.u8 [])]); let z5z := (List.take 32 (List.drop 8 (bif mkE n d 0 == 0 then mkL xs m n d 0 else []))); let z2z := (Out.mk ((AV.hd (Hk.opt 71) 3).t2 (AV.c (CV.int IntKind.i64 0))) [some z6z, some (Blk'.cells 204 64 (Body.rows (Tag.arr IntKind.u8 64) xs)), some (Blk'.map (Tag.arr IntKind.u8 64) m)] [Blk'.opt true 182 71 (Body.els [(AV.ptr (Base.l 0) 0 4 0).pr ((AV.c (CV.str nm)).pr ((AV.c (CV.arr IntKind.u8 32 sd)).pr (((AV.c (CV.str ln)).pr ((AV.c (CV.int IntKind.u8 lk)).pr ((AV.own 4 1 lp.length).pr (AV.c CV.nl)))).pr (AV.c ((CV.int IntKind.i64 (numW (List.take 8 (List.drop 0 (bif mkE n d 0 == 0 then mkL xs m n d 0 else []))))).pr ((CV.arr IntKind.u8 32 (List.take 32 (List.drop 0 z5z))).pr ((CV.bool false).pr CV.nl)))))))]), Blk'.cells 5 1 (Body.ints IntKind.u8 lp)]); let z3z := (List.take (natSub (hiB (bif mkE n d 0 == 0 then mkL xs m n d 0 else []).length none) 40) (List.drop 40 (bif mkE n d 0 == 0 then mkL xs m n d 0 else []))); nm.length ≤ 1000000000 ∧ bif !nameB nm then some (Out.mk ((AV.hd (Hk.opt 71) 3).t2 (AV.c (CV.int IntKind.i64 1))) [some z6z, some (Blk'.cells 204 64 (Body.rows (Tag.arr IntKind.u8 64) xs)), some (Blk'.map (Tag.arr IntKind.u8 64) m)] [Blk'.opt false 182 71 z4z, Blk'.cells 5 1 (Body.ints IntKind.u8 [])]) = some z0z else (((0 : Int) ≤ 0 ∧ (0 : Int) ≤ 1000000) ∧ steady xs m n d 0 ∧ mkE n d 0 = 0) ∧ ((0 : Int) ≤ 0 ∧ (0 : Int) ≤ 1000000) ∧ bif mkE n d 0 != 0 then some (Out.mk ((AV.hd (Hk.opt 71) 3).t2 (AV.c (CV.int IntKind.i64 (mkE n d 0)))) [some z6z, some (Blk'.cells 204 64 (Body.rows (Tag.arr IntKind.u8 64) xs)), some (Blk'.map (Tag.arr IntKind.u8 64) m)] [Blk'.opt false 182 71 z4z, Blk'.cells 5 1 (Body.ints IntKind.u8 [])]) = some z0z else bif bndB (bif mkE n d 0 == 0 then mkL xs m n d 0 else []).length none (some 8) then (List.take 8 (List.drop 0 (bif mkE n d 0 == 0 then mkL xs m n d 0 else []))).length = 8 ∧ bif bndB (bif mkE n d 0 == 0 then mkL xs m n d 0 else []).length (some 8) (some 40) then bif Nat.ble 32 z5z.length then bif Nat.ble 32 z5z.length then bif decide (numW (List.take (natSub (hiB (bif mkE n d 0 == 0 then mkL xs m n d 0 else []).length (some 8)) (loB none)) (List.drop (loB none) (bif mkE n d 0 == 0 then mkL xs m n d 0 else []))) < 0) then some z1z = some z0z else bif numW (List.take 8 (List.drop 0 (bif mkE n d 0 == 0 then mkL xs m n d 0 else []))) == 0 then bif !List.take 32 (List.drop 0 z5z) == (List.replicate 32 0) then some z1z = some z0z else bif bndB (bif mkE n d 0 == 0 then mkL xs m n d 0 else []).length (some 40) none then (z3z.length ≤ 1000000000 ∧ 24 ≤ 1000000000) ∧ bif !sameB z3z (List.replicate 24 0) then some z1z = some z0z else lp.length ≤ 1000000000 ∧ some z2z = some z0z else False else bif bndB (bif mkE n d 0 == 0 then mkL xs m n d 0 else []).length (some 40) none then (z3z.length ≤ 1000000000 ∧ 24 ≤ 1000000000) ∧ bif !sameB z3z (List.replicate 24 0) then some z1z = some z0z else lp.length ≤ 1000000000 ∧ some z2z = some z0z else False else False else False else False else False, by kernel_rfl, ?_⟩
  dsimp only
  have hx : rowsFact (arrFact .u8 64) xs := hfa.h 1 _ rfl
  have hmm : rowsFact (fun p : Int × List Int => arrFact .u8 64 p.2) m := hfa.h 2 _ rfl
  have hn : n = xs.length := (hfa.ln 0 _ rfl 0 _ rfl).1
  have hv := mkL_64 hx hmm hn h0
  generalize mkL xs m n d 0 = v at hv ⊢
  simp only [h0, beq_self_eq_true, cond_true, hv]
  have e1 : natSub (hiB 64 (some 8)) (loB none) = 8 := rfl
  have e2 : natSub (hiB 64 none) 40 = 24 := rfl
  have e3 : loB none = 0 := rfl
  have e4 : List.take 24 (List.drop 40 v) = List.drop 40 v := List.take_of_length_le (by simp; omega)
  have e5 : List.take 32 (List.take 32 (List.drop 8 v)) = List.take 32 (List.drop 8 v) := List.take_of_length_le (by simp; omega)
  rw [e1, e2, e3, e4, List.drop_zero, List.drop_zero, e5]
  have h32 : Nat.ble 32 (List.take 32 (List.drop 8 v)).length = true := by simp; omega
  have h40 : (List.drop 40 v).length ≤ 1000000000 := by simp; omega
  unfold wErr wLive wBad
  refine ⟨hm, cond_intro (fun h => ?_) fun h => ⟨⟨⟨by omega, by omega⟩, hs, trivial⟩, ⟨by omega, by omega⟩, cond_no rfl (cond_at rfl ⟨by simp; omega, cond_at rfl (cond_at h32 (cond_at h32 ?_))⟩)⟩⟩
  ·rw [Bool.not_eq_true'] at h; rw [h]; rfl
  ·rw [Bool.not_eq_false'] at h; rw [h]
   refine cond_intro (fun h1 => by rw [h1]; rfl) fun h1 => ?_
   rw [h1]
   refine cond_intro (fun h2 => ?_) fun h2 => ?_
   ·rw [h2]
    refine cond_intro (fun h3 => by rw [h3]; rfl) fun h3 => cond_at rfl ⟨⟨h40, by omega⟩, ?_⟩
    rw [h3]
    exact cond_intro (fun h4 => by rw [h4]; rfl) fun h4 => ⟨hl, by rw [h4]; rfl⟩
   ·rw [h2]
    exact cond_at rfl ⟨⟨h40, by omega⟩, cond_intro (fun h4 => by rw [h4]; rfl) fun h4 => ⟨hl, by rw [h4]; rfl⟩⟩
 ·rename_i nm sd ln lk lp
  injection hF with hF; injection hF with e1 e2; subst e1; subst e2
  refine ⟨Nat.le_of_ble_eq_true (by kernel_rfl), fun X hX hfa => ⟨[], [], 999, ?_⟩⟩
  refine ⟨some (Out.mk ((AV.c (CV.raw (Value.pointer none))).t2 (AV.c (CV.int IntKind.i64 1))) [] []) = some (Out.mk ((AV.c (CV.raw (Value.pointer none))).t2 (AV.c (CV.int IntKind.i64 1))) [] []), by kernel_rfl, ?_⟩
  rfl
 ·cases hF
end Go.Proofs.YtffdoihhjfjgoaaGreatDoor
/- The layer sha256: a block. -/
namespace Go.Proofs.YtffdoihhjfjgoaaGreatDoor
open Go Go.Ab Go.RowKit Go.Chr
set_option maxRecDepth 100000
noncomputable def rotl32S : FSpec := fun xs bl => match xs, bl with
 | [.c (.int .u32 x), .c (.int .i64 n)], [] => some (none, ⟨.c (.int .u32 (rotl32 x n)), [], []⟩)
 | _, _ => none
theorem rotl32_ok : FnOk CX 354 rotl32S := by
 refine fnOkF hmo G2_ok (fn := Tryz.f354) (c := bodyOf' Tryz.f354) (by kernel_rfl) (by kernel_rfl) (by kernel_rfl) ?_
 intro xs bl p o hF hp
 unfold rotl32S at hF
 split at hF
 ·rename_i x n
  injection hF with hF; injection hF with e1 e2; subst e1; subst e2
  refine ⟨Nat.le_of_ble_eq_true (by kernel_rfl), fun X hX hfa => ⟨[], 999, ?_⟩⟩
  refine ⟨some (Out.mk (AV.c (CV.int IntKind.u32 (ior IntKind.u32 (ishl IntKind.u32 x (iand IntKind.u64 (IntKind.u64.wrap n) 31)) (ishr IntKind.u32 x (IntKind.u64.wrap (32 - iand IntKind.u64 (IntKind.u64.wrap n) 31)))))) [] []) = some (Out.mk (AV.c (CV.int IntKind.u32 (rotl32 x n))) [] []), by kernel_rfl, ?_⟩
  rfl
 ·cases hF
noncomputable def shaWordS : FSpec := fun xs bl => match xs, bl with
 | [.c (.ints .u8 l)], [] => some (some (4 ≤ l.length), ⟨.c (.int .u32 (word32 l)), [], []⟩)
 | _, _ => none
theorem shaWord_ok : FnOk CX 327 shaWordS := by
 refine fnOkF hmo G2_ok (fn := Tryz.f327) (c := bodyOf' Tryz.f327) (by kernel_rfl) (by kernel_rfl) (by kernel_rfl) ?_
 intro xs bl p o hF hp
 unfold shaWordS at hF
 split at hF
 ·rename_i l
  injection hF with hF; injection hF with e1 e2; subst e1; subst e2
  refine ⟨Nat.le_of_ble_eq_true (by kernel_rfl), fun X hX hfa => ⟨[], 999, ?_⟩⟩
  have hp : 4 ≤ l.length := hp
  refine ⟨bif decide (0 < (Nat.cast (R := Int) l.length)) then bif decide (1 < (Nat.cast (R := Int) l.length)) then bif decide (2 < (Nat.cast (R := Int) l.length)) then bif decide (3 < (Nat.cast (R := Int) l.length)) then some (Out.mk (AV.c (CV.int IntKind.u32 (ior IntKind.u32 (ior IntKind.u32 (ior IntKind.u32 (ishl IntKind.u32 (IntKind.u32.wrap (l.getD 0 0)) 24) (ishl IntKind.u32 (IntKind.u32.wrap (l.getD 1 0)) 16)) (ishl IntKind.u32 (IntKind.u32.wrap (l.getD 2 0)) 8)) (IntKind.u32.wrap (l.getD 3 0))))) [] []) = some (Out.mk (AV.c (CV.int IntKind.u32 (word32 l))) [] []) else False else False else False else False, by kernel_rfl, ?_⟩
  exact cond_at (by simp; omega) <| cond_at (by simp; omega) <| cond_at (by simp; omega) <| cond_at (by simp; omega) rfl
 ·cases hF
noncomputable def G3a : Tab := (354, lift [true, true] rotl32S) :: (327, lift [true] shaWordS) :: G2
theorem G3a_ok : TabOk CX G3a := .cons (lift_ok rotl32_ok _) <| .cons (lift_ok shaWord_ok _) G2_ok
noncomputable def shaRightS : FSpec := fun xs bl => match xs, bl with
 | [.c (.int .u32 x), .c (.int .i64 n)], [] => some (none, ⟨.c (.int .u32 (rotr32 x n)), [], []⟩)
 | _, _ => none
theorem shaRight_ok : FnOk CX 328 shaRightS := by
 refine fnOkF hmo G3a_ok (fn := Tryz.f328) (c := bodyOf' Tryz.f328) (by kernel_rfl) (by kernel_rfl) (by kernel_rfl) ?_
 intro xs bl p o hF hp
 unfold shaRightS at hF
 split at hF
 ·rename_i x n
  injection hF with hF; injection hF with e1 e2; subst e1; subst e2
  refine ⟨Nat.le_of_ble_eq_true (by kernel_rfl), fun X hX hfa => ⟨[], 999, ?_⟩⟩
  refine ⟨some (Out.mk (AV.c (CV.int IntKind.u32 (rotl32 x (IntKind.i64.wrap (0 - n))))) [] []) = some (Out.mk (AV.c (CV.int IntKind.u32 (rotr32 x n))) [] []), by kernel_rfl, ?_⟩
  rfl
 ·cases hF
noncomputable def G3 : Tab := (328, lift [true, true] shaRightS) :: G3a
theorem G3_ok : TabOk CX G3 := .cons (lift_ok shaRight_ok _) G3a_ok
def tkI (s l : List Int) (ls : List (Nat × AV)) (ws : List Int) : St :=
 ⟨(2, .ptr (.l 0) 0 8 0) :: (4, .ptr (.l 1) 0 8 0) :: (5, .ptr (.l 2) 0 64 0) :: ls, [(0, .cells 255 8 (.els [.c (.arr .u32 8 s)])), (1, .cells 255 8 (.els [.c (.arr .u32 8 (List.replicate 8 0))])), (2, .cells 292 64 (.els [.c (.arr .u32 64 ws)]))], 3, 185⟩
theorem takes_l0 {X : Snap} (hX : ∀ b L, X.ι b = some L → b < 0) (s l : List Int) : LOk CX X 0 (loopAt 0 Tryz.f296) (loopW 0 [] [2, 4, 5, 1, 21] (tkI s l [(1, .c (.ints .u8 l)), (21, .c (.int .i64 0))] (ws0 l 0)) (l.length = 64) false (tkI s l [] (ws0 l 16))) := by
 refine loopW_ok hmo G3_ok (by kernel_rfl) hX [2, 4, 5] [] (fun t : Nat => tkI s l [(1, .c (.ints .u8 l)), (21, .c (.int .i64 t))] (ws0 l t)) (fun t => t ≤ 16) (fun t => 16 - t) 0 (fun _ => rfl) (fun _ => by omega) ?_
 intro hp t ht hfa
 refine ⟨[], 999, ?_⟩
 refine ⟨bif decide ((Nat.cast (R := Int) t) < 16) then bif bndB l.length (some (IntKind.i64.wrap (4 * (Nat.cast (R := Int) t)))) none then 4 ≤ (List.take (natSub (hiB l.length none) (loB (some (IntKind.i64.wrap (4 * (Nat.cast (R := Int) t)))))) (List.drop (loB (some (IntKind.i64.wrap (4 * (Nat.cast (R := Int) t))))) l)).length ∧ bif decide ((Nat.cast (R := Int) t) < (Nat.cast (R := Int) 64)) then ∃ (v' : Nat), some (St.mk [(2, AV.ptr (Base.l 0) 0 8 0), (4, AV.ptr (Base.l 1) 0 8 0), (5, AV.ptr (Base.l 2) 0 64 0), (1, AV.c (CV.ints IntKind.u8 l)), (21, AV.c (CV.int IntKind.i64 (IntKind.i64.wrap ((Nat.cast (R := Int) t) + 1))))] [(0, Blk'.cells 255 8 (Body.els [AV.c (CV.arr IntKind.u32 8 s)])), (1, Blk'.cells 255 8 (Body.els [AV.c (CV.arr IntKind.u32 8 (List.replicate 8 0))])), (2, Blk'.cells 292 64 (Body.els [AV.c (CV.arr IntKind.u32 64 ((ws0 l t).set (0 + (Nat.cast (R := Int) t).toNat * 1) (word32 (List.take (natSub (hiB l.length none) (loB (some (IntKind.i64.wrap (4 * (Nat.cast (R := Int) t)))))) (List.drop (loB (some (IntKind.i64.wrap (4 * (Nat.cast (R := Int) t))))) l)))))]))] 3 185) = some (tkI s l [(1, AV.c (CV.ints IntKind.u8 l)), (21, AV.c (CV.int IntKind.i64 (Nat.cast (R := Int) v')))] (ws0 l v')) ∧ 16 - v' < 16 - t ∧ v' ≤ 16 else False else False else false = false ∧ some (St.mk [(2, AV.ptr (Base.l 0) 0 8 0), (4, AV.ptr (Base.l 1) 0 8 0), (5, AV.ptr (Base.l 2) 0 64 0)] [(0, Blk'.cells 255 8 (Body.els [AV.c (CV.arr IntKind.u32 8 s)])), (1, Blk'.cells 255 8 (Body.els [AV.c (CV.arr IntKind.u32 8 (List.replicate 8 0))])), (2, Blk'.cells 292 64 (Body.els [AV.c (CV.arr IntKind.u32 64 (ws0 l t))]))] 3 185) = some (tkI s l [] (ws0 l 16)), by kernel_rfl, ?_⟩
 simp (disch := omega) only [wi, bndB, loB, hiB, natSub, Nat.mul_one, Nat.zero_add, Int.toNat_natCast]
 refine cond_intro (fun h => ?_) (fun h => ?_)
 ·simp at h
  refine cond_at (by simp; omega) ⟨?_, cond_at (by simp; omega) ⟨t + 1, ?_, by omega, by omega⟩⟩
  ·simp; omega
  ·have e : (4 * (t : Int)).toNat = 4 * t := by omega
   rw [e, List.take_of_length_le (by simp)]
   show _ = _
   kernel_rfl
 ·simp at h
  have e : t = 16 := by omega
  subst e; exact ⟨by simp, by kernel_rfl⟩
theorem takes_l2 {X : Snap} (hX : ∀ b L, X.ι b = some L → b < 0) (s l : List Int) : LOk CX X 2 (loopAt 2 Tryz.f296) (loopW 0 [] [2, 4, 5, 7] (tkI s l [(7, .c (.int .i64 16))] (wsN l 0)) True false (tkI s l [] (wsN l 48))) := by
 refine loopW_ok hmo G3_ok (by kernel_rfl) hX [2, 4, 5] [] (fun t : Nat => tkI s l [(7, .c (.int .i64 ((16 + t : Nat) : Int)))] (wsN l t)) (fun t => t ≤ 48) (fun t => 48 - t) 0 (fun _ => rfl) (fun _ => by omega) ?_
 intro hp t ht hfa
 refine ⟨[], 999, ?_⟩
 refine ⟨bif decide ((Nat.cast (R := Int) (16 + t)) < 64) then bif decide (0 ≤ IntKind.i64.wrap ((Nat.cast (R := Int) (16 + t)) - 15)) && decide (IntKind.i64.wrap ((Nat.cast (R := Int) (16 + t)) - 15) < (Nat.cast (R := Int) 64)) then bif decide (0 ≤ IntKind.i64.wrap ((Nat.cast (R := Int) (16 + t)) - 2)) && decide (IntKind.i64.wrap ((Nat.cast (R := Int) (16 + t)) - 2) < (Nat.cast (R := Int) 64)) then bif decide (0 ≤ IntKind.i64.wrap ((Nat.cast (R := Int) (16 + t)) - 7)) && decide (IntKind.i64.wrap ((Nat.cast (R := Int) (16 + t)) - 7) < (Nat.cast (R := Int) 64)) then bif decide (0 ≤ IntKind.i64.wrap ((Nat.cast (R := Int) (16 + t)) - 16)) && decide (IntKind.i64.wrap ((Nat.cast (R := Int) (16 + t)) - 16) < (Nat.cast (R := Int) 64)) then bif decide ((Nat.cast (R := Int) (16 + t)) < (Nat.cast (R := Int) 64)) then ∃ (v' : Nat), some (St.mk [(2, AV.ptr (Base.l 0) 0 8 0), (4, AV.ptr (Base.l 1) 0 8 0), (5, AV.ptr (Base.l 2) 0 64 0), (7, AV.c (CV.int IntKind.i64 (IntKind.i64.wrap ((Nat.cast (R := Int) (16 + t)) + 1))))] [(0, Blk'.cells 255 8 (Body.els [AV.c (CV.arr IntKind.u32 8 s)])), (1, Blk'.cells 255 8 (Body.els [AV.c (CV.arr IntKind.u32 8 (List.replicate 8 0))])), (2, Blk'.cells 292 64 (Body.els [AV.c (CV.arr IntKind.u32 64 ((wsN l t).set (0 + (Nat.cast (R := Int) (16 + t)).toNat * 1) (IntKind.u32.wrap (IntKind.u32.wrap (IntKind.u32.wrap (ixor IntKind.u32 (ixor IntKind.u32 (rotr32 ((wsN l t).getD (0 + (IntKind.i64.wrap ((Nat.cast (R := Int) (16 + t)) - 2)).toNat * 1) 0) 17) (rotr32 ((wsN l t).getD (0 + (IntKind.i64.wrap ((Nat.cast (R := Int) (16 + t)) - 2)).toNat * 1) 0) 19)) (ishr IntKind.u32 ((wsN l t).getD (0 + (IntKind.i64.wrap ((Nat.cast (R := Int) (16 + t)) - 2)).toNat * 1) 0) 10) + (wsN l t).getD (0 + (IntKind.i64.wrap ((Nat.cast (R := Int) (16 + t)) - 7)).toNat * 1) 0) + ixor IntKind.u32 (ixor IntKind.u32 (rotr32 ((wsN l t).getD (0 + (IntKind.i64.wrap ((Nat.cast (R := Int) (16 + t)) - 15)).toNat * 1) 0) 7) (rotr32 ((wsN l t).getD (0 + (IntKind.i64.wrap ((Nat.cast (R := Int) (16 + t)) - 15)).toNat * 1) 0) 18)) (ishr IntKind.u32 ((wsN l t).getD (0 + (IntKind.i64.wrap ((Nat.cast (R := Int) (16 + t)) - 15)).toNat * 1) 0) 3)) + (wsN l t).getD (0 + (IntKind.i64.wrap ((Nat.cast (R := Int) (16 + t)) - 16)).toNat * 1) 0))))]))] 3 185) = some (tkI s l [(7, AV.c (CV.int IntKind.i64 (Nat.cast (R := Int) (16 + v'))))] (wsN l v')) ∧ 48 - v' < 48 - t ∧ v' ≤ 48 else False else False else False else False else False else false = false ∧ some (St.mk [(2, AV.ptr (Base.l 0) 0 8 0), (4, AV.ptr (Base.l 1) 0 8 0), (5, AV.ptr (Base.l 2) 0 64 0)] [(0, Blk'.cells 255 8 (Body.els [AV.c (CV.arr IntKind.u32 8 s)])), (1, Blk'.cells 255 8 (Body.els [AV.c (CV.arr IntKind.u32 8 (List.replicate 8 0))])), (2, Blk'.cells 292 64 (Body.els [AV.c (CV.arr IntKind.u32 64 (wsN l t))]))] 3 185) = some (tkI s l [] (wsN l 48)), by kernel_rfl, ?_⟩
 simp (disch := omega) only [wi, bndB, loB, hiB, natSub, Nat.mul_one, Nat.zero_add, Int.toNat_natCast]
 refine cond_intro (fun h => ?_) (fun h => ?_)
 ·simp at h
  refine cond_at (by simp; omega) <| cond_at (by simp; omega) <| cond_at (by simp; omega) <| cond_at (by simp; omega) <| cond_at (by simp; omega) ⟨t + 1, ?_, by omega, by omega⟩
  have e1 : (((16 + t : Nat) : Int) - 15).toNat = 16 + t - 15 := by omega
  have e2 : (((16 + t : Nat) : Int) - 2).toNat = 16 + t - 2 := by omega
  have e3 : (((16 + t : Nat) : Int) - 7).toNat = 16 + t - 7 := by omega
  have e4 : (((16 + t : Nat) : Int) - 16).toNat = 16 + t - 16 := by omega
  rw [e1, e2, e3, e4]
  show _ = _
  kernel_rfl
 ·simp at h
  have e : t = 48 := by omega
  subst e; exact ⟨by simp, by kernel_rfl⟩
def tkV (v : List Int) : List (Nat × AV) := [(10, .c (.int .u32 (v.getD 0 0))), (11, .c (.int .u32 (v.getD 1 0))), (12, .c (.int .u32 (v.getD 2 0))), (13, .c (.int .u32 (v.getD 3 0))), (14, .c (.int .u32 (v.getD 4 0))), (15, .c (.int .u32 (v.getD 5 0))), (16, .c (.int .u32 (v.getD 6 0))), (17, .c (.int .u32 (v.getD 7 0)))]
theorem takes_l4 {X : Snap} (hX : ∀ b L, X.ι b = some L → b < 0) (s l : List Int) : LOk CX X 4 (loopAt 4 Tryz.f296) (loopW 0 [] [2, 4, 5, 89, 10, 11, 12, 13, 14, 15, 16, 17] (tkI s l ((89, .c (.int .i64 0)) :: tkV s) (wsN l 48)) True false (tkI s l (tkV (rN32 shaK (wsN l 48) s 64)) (wsN l 48))) := by
 refine loopW_ok hmo G3_ok (by kernel_rfl) hX [2, 4, 5, 10, 11, 12, 13, 14, 15, 16, 17] [] (fun t : Nat => tkI s l ((89, .c (.int .i64 t)) :: tkV (rN32 shaK (wsN l 48) s t)) (wsN l 48)) (fun t => t ≤ 64) (fun t => 64 - t) 0 (fun _ => rfl) (fun _ => by omega) ?_
 intro hp t ht hfa
 refine ⟨[], 999, ?_⟩
 refine ⟨bif decide ((Nat.cast (R := Int) t) < 64) then bif decide ((Nat.cast (R := Int) t) < (Nat.cast (R := Int) 64)) then bif decide ((Nat.cast (R := Int) t) < (Nat.cast (R := Int) 64)) then ∃ (v' : Nat), some (St.mk [(2, AV.ptr (Base.l 0) 0 8 0), (4, AV.ptr (Base.l 1) 0 8 0), (5, AV.ptr (Base.l 2) 0 64 0), (89, AV.c (CV.int IntKind.i64 (IntKind.i64.wrap ((Nat.cast (R := Int) t) + 1)))), (10, AV.c (CV.int IntKind.u32 (IntKind.u32.wrap (IntKind.u32.wrap (IntKind.u32.wrap (IntKind.u32.wrap (IntKind.u32.wrap ((rN32 shaK (wsN l 48) s t).getD 7 0 + ixor IntKind.u32 (ixor IntKind.u32 (rotr32 ((rN32 shaK (wsN l 48) s t).getD 4 0) 6) (rotr32 ((rN32 shaK (wsN l 48) s t).getD 4 0) 11)) (rotr32 ((rN32 shaK (wsN l 48) s t).getD 4 0) 25)) + ixor IntKind.u32 (iand IntKind.u32 ((rN32 shaK (wsN l 48) s t).getD 4 0) ((rN32 shaK (wsN l 48) s t).getD 5 0)) (iand IntKind.u32 (inot IntKind.u32 ((rN32 shaK (wsN l 48) s t).getD 4 0)) ((rN32 shaK (wsN l 48) s t).getD 6 0))) + shaK.getD (0 + (Nat.cast (R := Int) t).toNat * 1) 0) + (wsN l 48).getD (0 + (Nat.cast (R := Int) t).toNat * 1) 0) + IntKind.u32.wrap (ixor IntKind.u32 (ixor IntKind.u32 (rotr32 ((rN32 shaK (wsN l 48) s t).getD 0 0) 2) (rotr32 ((rN32 shaK (wsN l 48) s t).getD 0 0) 13)) (rotr32 ((rN32 shaK (wsN l 48) s t).getD 0 0) 22) + ixor IntKind.u32 (ixor IntKind.u32 (iand IntKind.u32 ((rN32 shaK (wsN l 48) s t).getD 0 0) ((rN32 shaK (wsN l 48) s t).getD 1 0)) (iand IntKind.u32 ((rN32 shaK (wsN l 48) s t).getD 0 0) ((rN32 shaK (wsN l 48) s t).getD 2 0))) (iand IntKind.u32 ((rN32 shaK (wsN l 48) s t).getD 1 0) ((rN32 shaK (wsN l 48) s t).getD 2 0))))))), (11, AV.c (CV.int IntKind.u32 ((rN32 shaK (wsN l 48) s t).getD 0 0))), (12, AV.c (CV.int IntKind.u32 ((rN32 shaK (wsN l 48) s t).getD 1 0))), (13, AV.c (CV.int IntKind.u32 ((rN32 shaK (wsN l 48) s t).getD 2 0))), (14, AV.c (CV.int IntKind.u32 (IntKind.u32.wrap ((rN32 shaK (wsN l 48) s t).getD 3 0 + IntKind.u32.wrap (IntKind.u32.wrap (IntKind.u32.wrap (IntKind.u32.wrap ((rN32 shaK (wsN l 48) s t).getD 7 0 + ixor IntKind.u32 (ixor IntKind.u32 (rotr32 ((rN32 shaK (wsN l 48) s t).getD 4 0) 6) (rotr32 ((rN32 shaK (wsN l 48) s t).getD 4 0) 11)) (rotr32 ((rN32 shaK (wsN l 48) s t).getD 4 0) 25)) + ixor IntKind.u32 (iand IntKind.u32 ((rN32 shaK (wsN l 48) s t).getD 4 0) ((rN32 shaK (wsN l 48) s t).getD 5 0)) (iand IntKind.u32 (inot IntKind.u32 ((rN32 shaK (wsN l 48) s t).getD 4 0)) ((rN32 shaK (wsN l 48) s t).getD 6 0))) + shaK.getD (0 + (Nat.cast (R := Int) t).toNat * 1) 0) + (wsN l 48).getD (0 + (Nat.cast (R := Int) t).toNat * 1) 0))))), (15, AV.c (CV.int IntKind.u32 ((rN32 shaK (wsN l 48) s t).getD 4 0))), (16, AV.c (CV.int IntKind.u32 ((rN32 shaK (wsN l 48) s t).getD 5 0))), (17, AV.c (CV.int IntKind.u32 ((rN32 shaK (wsN l 48) s t).getD 6 0)))] [(0, Blk'.cells 255 8 (Body.els [AV.c (CV.arr IntKind.u32 8 s)])), (1, Blk'.cells 255 8 (Body.els [AV.c (CV.arr IntKind.u32 8 (List.replicate 8 0))])), (2, Blk'.cells 292 64 (Body.els [AV.c (CV.arr IntKind.u32 64 (wsN l 48))]))] 3 185) = some (tkI s l ((89, AV.c (CV.int IntKind.i64 (Nat.cast (R := Int) v'))) :: tkV (rN32 shaK (wsN l 48) s v')) (wsN l 48)) ∧ 64 - v' < 64 - t ∧ v' ≤ 64 else False else False else false = false ∧ some (St.mk [(2, AV.ptr (Base.l 0) 0 8 0), (4, AV.ptr (Base.l 1) 0 8 0), (5, AV.ptr (Base.l 2) 0 64 0), (10, AV.c (CV.int IntKind.u32 ((rN32 shaK (wsN l 48) s t).getD 0 0))), (11, AV.c (CV.int IntKind.u32 ((rN32 shaK (wsN l 48) s t).getD 1 0))), (12, AV.c (CV.int IntKind.u32 ((rN32 shaK (wsN l 48) s t).getD 2 0))), (13, AV.c (CV.int IntKind.u32 ((rN32 shaK (wsN l 48) s t).getD 3 0))), (14, AV.c (CV.int IntKind.u32 ((rN32 shaK (wsN l 48) s t).getD 4 0))), (15, AV.c (CV.int IntKind.u32 ((rN32 shaK (wsN l 48) s t).getD 5 0))), (16, AV.c (CV.int IntKind.u32 ((rN32 shaK (wsN l 48) s t).getD 6 0))), (17, AV.c (CV.int IntKind.u32 ((rN32 shaK (wsN l 48) s t).getD 7 0)))] [(0, Blk'.cells 255 8 (Body.els [AV.c (CV.arr IntKind.u32 8 s)])), (1, Blk'.cells 255 8 (Body.els [AV.c (CV.arr IntKind.u32 8 (List.replicate 8 0))])), (2, Blk'.cells 292 64 (Body.els [AV.c (CV.arr IntKind.u32 64 (wsN l 48))]))] 3 185) = some (tkI s l (tkV (rN32 shaK (wsN l 48) s 64)) (wsN l 48)), by kernel_rfl, ?_⟩
 simp (disch := omega) only [wi, bndB, loB, hiB, natSub, Nat.mul_one, Nat.zero_add, Int.toNat_natCast]
 refine cond_intro (fun h => ?_) (fun h => ?_)
 ·simp at h
  exact cond_at (by simp; omega) <| cond_at (by simp; omega) ⟨t + 1, by kernel_rfl, by omega, by omega⟩
 ·simp at h
  have e : t = 64 := by omega
  subst e; exact ⟨by simp, by kernel_rfl⟩
noncomputable def takesS : FSpec := fun xs bl => match xs, bl with
 | [.c (.arr .u32 8 s), .c (.ints .u8 l)], [] => some (some (l.length = 64), ⟨.c (.arr .u32 8 (shaTake shaK s l)), [], []⟩)
 | _, _ => none
theorem takes_ok : FnOk CX 296 takesS := by
 refine fnOkF hmo G3_ok (fn := Tryz.f296) (c := bodyOf' Tryz.f296) (by kernel_rfl) (by kernel_rfl) (by kernel_rfl) ?_
 intro xs bl p o hF hp
 unfold takesS at hF
 split at hF
 ·rename_i s l
  injection hF with hF; injection hF with e1 e2; subst e1; subst e2
  refine ⟨Nat.le_of_ble_eq_true (by kernel_rfl), fun X hX hfa => ⟨[(0, loopW 0 [] [2, 4, 5, 1, 21] (tkI s l [(1, .c (.ints .u8 l)), (21, .c (.int .i64 0))] (ws0 l 0)) (l.length = 64) false (tkI s l [] (ws0 l 16))), (2, loopW 0 [] [2, 4, 5, 7] (tkI s l [(7, .c (.int .i64 16))] (wsN l 0)) True false (tkI s l [] (wsN l 48))), (4, loopW 0 [] [2, 4, 5, 89, 10, 11, 12, 13, 14, 15, 16, 17] (tkI s l ((89, .c (.int .i64 0)) :: tkV s) (wsN l 48)) True false (tkI s l (tkV (rN32 shaK (wsN l 48) s 64)) (wsN l 48)))], 999, ?_⟩⟩
  refine ⟨LOk CX X 0 (loopAt 0 Tryz.f296) (loopW 0 [] [2, 4, 5, 1, 21] (tkI s l [(1, AV.c (CV.ints IntKind.u8 l)), (21, AV.c (CV.int IntKind.i64 0))] (ws0 l 0)) (l.length = 64) false (tkI s l [] (ws0 l 16))) ∧ some (St.mk [(2, AV.ptr (Base.l 0) 0 8 0), (4, AV.ptr (Base.l 1) 0 8 0), (5, AV.ptr (Base.l 2) 0 64 0), (1, AV.c (CV.ints IntKind.u8 l)), (21, AV.c (CV.int IntKind.i64 0))] [(0, Blk'.cells 255 8 (Body.els [AV.c (CV.arr IntKind.u32 8 s)])), (1, Blk'.cells 255 8 (Body.els [AV.c (CV.arr IntKind.u32 8 (List.replicate 8 0))])), (2, Blk'.cells 292 64 (Body.els [AV.c (CV.arr IntKind.u32 64 (List.replicate 64 0))]))] 3 185) = some (tkI s l [(1, AV.c (CV.ints IntKind.u8 l)), (21, AV.c (CV.int IntKind.i64 0))] (ws0 l 0)) ∧ l.length = 64 ∧ LOk CX X 2 (loopAt 2 Tryz.f296) (loopW 0 [] [2, 4, 5, 7] (tkI s l [(7, AV.c (CV.int IntKind.i64 16))] (wsN l 0)) True false (tkI s l [] (wsN l 48))) ∧ some (St.mk [(2, AV.ptr (Base.l 0) 0 8 0), (4, AV.ptr (Base.l 1) 0 8 0), (5, AV.ptr (Base.l 2) 0 64 0), (7, AV.c (CV.int IntKind.i64 16))] [(0, Blk'.cells 255 8 (Body.els [AV.c (CV.arr IntKind.u32 8 s)])), (1, Blk'.cells 255 8 (Body.els [AV.c (CV.arr IntKind.u32 8 (List.replicate 8 0))])), (2, Blk'.cells 292 64 (Body.els [AV.c (CV.arr IntKind.u32 64 (ws0 l 16))]))] 3 185) = some (tkI s l [(7, AV.c (CV.int IntKind.i64 16))] (wsN l 0)) ∧ True ∧ LOk CX X 4 (loopAt 4 Tryz.f296) (loopW 0 [] [2, 4, 5, 89, 10, 11, 12, 13, 14, 15, 16, 17] (tkI s l ((89, AV.c (CV.int IntKind.i64 0)) :: tkV s) (wsN l 48)) True false (tkI s l (tkV (rN32 shaK (wsN l 48) s 64)) (wsN l 48))) ∧ some (St.mk [(2, AV.ptr (Base.l 0) 0 8 0), (4, AV.ptr (Base.l 1) 0 8 0), (5, AV.ptr (Base.l 2) 0 64 0), (89, AV.c (CV.int IntKind.i64 0)), (10, AV.c (CV.int IntKind.u32 (s.getD 0 0))), (11, AV.c (CV.int IntKind.u32 (s.getD 1 0))), (12, AV.c (CV.int IntKind.u32 (s.getD 2 0))), (13, AV.c (CV.int IntKind.u32 (s.getD 3 0))), (14, AV.c (CV.int IntKind.u32 (s.getD 4 0))), (15, AV.c (CV.int IntKind.u32 (s.getD 5 0))), (16, AV.c (CV.int IntKind.u32 (s.getD 6 0))), (17, AV.c (CV.int IntKind.u32 (s.getD 7 0)))] [(0, Blk'.cells 255 8 (Body.els [AV.c (CV.arr IntKind.u32 8 s)])), (1, Blk'.cells 255 8 (Body.els [AV.c (CV.arr IntKind.u32 8 (List.replicate 8 0))])), (2, Blk'.cells 292 64 (Body.els [AV.c (CV.arr IntKind.u32 64 (wsN l 48))]))] 3 185) = some (tkI s l ((89, AV.c (CV.int IntKind.i64 0)) :: tkV s) (wsN l 48)) ∧ True ∧ some (Out.mk (AV.c (CV.arr IntKind.u32 8 (((((((((List.replicate 8 0).set 0 (IntKind.u32.wrap (s.getD 0 0 + (rN32 shaK (wsN l 48) s 64).getD 0 0))).set 1 (IntKind.u32.wrap (s.getD 1 0 + (rN32 shaK (wsN l 48) s 64).getD 1 0))).set 2 (IntKind.u32.wrap (s.getD 2 0 + (rN32 shaK (wsN l 48) s 64).getD 2 0))).set 3 (IntKind.u32.wrap (s.getD 3 0 + (rN32 shaK (wsN l 48) s 64).getD 3 0))).set 4 (IntKind.u32.wrap (s.getD 4 0 + (rN32 shaK (wsN l 48) s 64).getD 4 0))).set 5 (IntKind.u32.wrap (s.getD 5 0 + (rN32 shaK (wsN l 48) s 64).getD 5 0))).set 6 (IntKind.u32.wrap (s.getD 6 0 + (rN32 shaK (wsN l 48) s 64).getD 6 0))).set 7 (IntKind.u32.wrap (s.getD 7 0 + (rN32 shaK (wsN l 48) s 64).getD 7 0))))) [] []) = some (Out.mk (AV.c (CV.arr IntKind.u32 8 (shaTake shaK s l))) [] []), by kernel_rfl, ?_⟩
  exact ⟨takes_l0 hX s l, by kernel_rfl, hp, takes_l2 hX s l, by kernel_rfl, trivial, takes_l4 hX s l, by kernel_rfl, trivial, by kernel_rfl⟩
 ·cases hF
end Go.Proofs.YtffdoihhjfjgoaaGreatDoor
/- The layer sha256: bytes taken in. -/
namespace Go.Proofs.YtffdoihhjfjgoaaGreatDoor
open Go Go.Ab Go.RowKit Go.Chr
set_option maxRecDepth 100000
noncomputable def G4 : Tab := (296, lift [true, true] takesS) :: G3
theorem G4_ok : TabOk CX G4 := .cons (lift_ok takes_ok _) G3_ok
def dgB (j : Nat) (s : List Int) (k : Nat) (n : Int) : Blk' := .cells 257 10 (.els [.pr (.c (.arr .u32 8 s)) (.pr (.own j 1 k) (.c (.pr (.int .u64 n) .nl)))])
def wrI (j : Nat) (s all : List Int) (c : Int) (k : Nat) : St := ⟨[(0, .ptr (.l 0) 0 10 0)], [(0, dgB j (shaRun shaK s all k) (all.length - 64 * k) c), (j, byB (all.drop (64 * k)))], j + 1, 61⟩
theorem write_l1 {X : Snap} (hX : ∀ b L, X.ι b = some L → b < 1) (s all : List Int) (c : Int) : LOk CX X 0 (loopAt 0 Tryz.f204) (loopW 1 [.blk 0 8] [0] (wrI 1 s all c 0) True false (wrI 1 s all c (all.length / 64))) := by
 refine loopW_ok hmo G4_ok (by kernel_rfl) hX [0] [] (wrI 1 s all c) (fun k => 64 * k ≤ all.length) (fun k => all.length - 64 * k) 0 (fun _ => rfl) (fun _ => by omega) ?_
 intro hp k hk hfa
 refine ⟨[], 999, ?_⟩
 refine ⟨bif decide ((Nat.cast (R := Int) (all.length - 64 * k)) ≥ 64) then bif bndB (all.length - 64 * k) none (some 64) then (List.take 64 (List.drop 0 (List.drop (64 * k) all))).length = 64 ∧ bif bndB (all.length - 64 * k) (some 64) none then ∃ (v' : Nat), some (St.mk [(0, AV.ptr (Base.l 0) 0 10 0)] [(0, Blk'.cells 257 10 (Body.els [(AV.c (CV.arr IntKind.u32 8 (shaTake shaK (shaRun shaK s all k) (List.take 64 (List.drop 0 (List.drop (64 * k) all)))))).pr ((AV.own 1 1 (natSub (hiB (all.length - 64 * k) none) 64)).pr (AV.c ((CV.int IntKind.u64 c).pr CV.nl)))])), (1, Blk'.cells 5 1 (Body.ints IntKind.u8 (List.take (natSub (hiB (all.length - 64 * k) none) 64) (List.drop 64 (List.drop (64 * k) all)))))] 2 61) = some (wrI 1 s all c v') ∧ all.length - 64 * v' < all.length - 64 * k ∧ 64 * v' ≤ all.length else False else False else false = false ∧ some (St.mk [(0, AV.ptr (Base.l 0) 0 10 0)] [(0, Blk'.cells 257 10 (Body.els [(AV.c (CV.arr IntKind.u32 8 (shaRun shaK s all k))).pr ((AV.own 1 1 (all.length - 64 * k)).pr (AV.c ((CV.int IntKind.u64 c).pr CV.nl)))])), (1, Blk'.cells 5 1 (Body.ints IntKind.u8 (List.drop (64 * k) all)))] 2 61) = some (wrI 1 s all c (all.length / 64)), by kernel_rfl, ?_⟩
 simp only [bndB, loB, hiB, natSub, List.drop_zero]
 refine cond_intro (fun h => ?_) (fun h => ?_)
 ·simp at h
  refine cond_at (by simp; omega) ⟨by simp; omega, cond_at (by simp; omega) ⟨k + 1, ?_, by omega, by omega⟩⟩
  rw [List.drop_drop, List.take_of_length_le (l := all.drop (64 * k + 64)) (by simp; omega), Nat.sub_sub]
  rfl
 ·simp at h
  have e : all.length / 64 = k := by omega
  rw [e]; exact ⟨by simp, rfl⟩
theorem write_l2 {X : Snap} (hX : ∀ b L, X.ι b = some L → b < 2) (s all : List Int) (c : Int) : LOk CX X 0 (loopAt 0 Tryz.f204) (loopW 2 [.blk 0 8] [0] (wrI 2 s all c 0) True false (wrI 2 s all c (all.length / 64))) := by
 refine loopW_ok hmo G4_ok (by kernel_rfl) hX [0] [] (wrI 2 s all c) (fun k => 64 * k ≤ all.length) (fun k => all.length - 64 * k) 0 (fun _ => rfl) (fun _ => by omega) ?_
 intro hp k hk hfa
 refine ⟨[], 999, ?_⟩
 refine ⟨bif decide ((Nat.cast (R := Int) (all.length - 64 * k)) ≥ 64) then bif bndB (all.length - 64 * k) none (some 64) then (List.take 64 (List.drop 0 (List.drop (64 * k) all))).length = 64 ∧ bif bndB (all.length - 64 * k) (some 64) none then ∃ (v' : Nat), some (St.mk [(0, AV.ptr (Base.l 0) 0 10 0)] [(0, Blk'.cells 257 10 (Body.els [(AV.c (CV.arr IntKind.u32 8 (shaTake shaK (shaRun shaK s all k) (List.take 64 (List.drop 0 (List.drop (64 * k) all)))))).pr ((AV.own 2 1 (natSub (hiB (all.length - 64 * k) none) 64)).pr (AV.c ((CV.int IntKind.u64 c).pr CV.nl)))])), (2, Blk'.cells 5 1 (Body.ints IntKind.u8 (List.take (natSub (hiB (all.length - 64 * k) none) 64) (List.drop 64 (List.drop (64 * k) all)))))] 3 61) = some (wrI 2 s all c v') ∧ all.length - 64 * v' < all.length - 64 * k ∧ 64 * v' ≤ all.length else False else False else false = false ∧ some (St.mk [(0, AV.ptr (Base.l 0) 0 10 0)] [(0, Blk'.cells 257 10 (Body.els [(AV.c (CV.arr IntKind.u32 8 (shaRun shaK s all k))).pr ((AV.own 2 1 (all.length - 64 * k)).pr (AV.c ((CV.int IntKind.u64 c).pr CV.nl)))])), (2, Blk'.cells 5 1 (Body.ints IntKind.u8 (List.drop (64 * k) all)))] 3 61) = some (wrI 2 s all c (all.length / 64)), by kernel_rfl, ?_⟩
 simp only [bndB, loB, hiB, natSub, List.drop_zero]
 refine cond_intro (fun h => ?_) (fun h => ?_)
 ·simp at h
  refine cond_at (by simp; omega) ⟨by simp; omega, cond_at (by simp; omega) ⟨k + 1, ?_, by omega, by omega⟩⟩
  rw [List.drop_drop, List.take_of_length_le (l := all.drop (64 * k + 64)) (by simp; omega), Nat.sub_sub]
  rfl
 ·simp at h
  have e : all.length / 64 = k := by omega
  rw [e]; exact ⟨by simp, rfl⟩
def cnt64 (n : Int) (k : Nat) : Int := IntKind.u64.wrap (n + IntKind.u64.wrap (k : Int))
def dgOut (j : Nat) (s all : List Int) (c : Int) : Blk' := dgB j (shaRun shaK s all (all.length / 64)) (all.length - 64 * (all.length / 64)) c
noncomputable def shaWriteS : FSpec := fun xs bl => match xs, bl with
 | [.ptr (.l 0) 0 10 0, .c (.ints .u8 l)], [.cells 257 10 (.els [.c (.pr (.arr .u32 8 s) (.pr (.raw (.slice none 0 0)) (.pr (.int .u64 n) .nl)))])] => some (some (l.length ≤ 1000000000), ⟨.t0, [some (dgOut 1 (orFirst shaH s n) l (cnt64 n l.length))], [byB (l.drop (64 * (l.length / 64)))]⟩)
 | [.ptr (.l 0) 0 10 0, .c (.ints .u8 l)], [.cells 257 10 (.els [.pr (.c (.arr .u32 8 s)) (.pr (.own 1 1 k) (.c (.pr (.int .u64 n) .nl)))]), .cells 5 1 (.ints .u8 r)] => some (some (l.length ≤ 1000000000 ∧ r.length ≤ 1000000000), ⟨.t0, [some (dgOut 2 (orFirst shaH s n) (r ++ l) (cnt64 n l.length)), none], [byB ((r ++ l).drop (64 * ((r ++ l).length / 64)))]⟩)
 | _, _ => none
theorem shaWrite_ok : FnOk CX 204 shaWriteS := by
 refine fnOkF hmo G4_ok (fn := Tryz.f204) (c := bodyOf' Tryz.f204) (by kernel_rfl) (by kernel_rfl) (by kernel_rfl) ?_
 intro xs bl p o hF hp
 unfold shaWriteS at hF
 split at hF
 ·rename_i l s n
  injection hF with hF; injection hF with e1 e2; subst e1; subst e2
  refine ⟨Nat.le_of_ble_eq_true (by kernel_rfl), fun X hX hfa => ⟨[(0, loopW 1 [.blk 0 8] [0] (wrI 1 (orFirst shaH s n) l (cnt64 n l.length) 0) True false (wrI 1 (orFirst shaH s n) l (cnt64 n l.length) (l.length / 64)))], 999, ?_⟩⟩
  have hp : l.length ≤ 1000000000 := hp
  refine ⟨bif n == 0 then bif ((0 + (Body.ints IntKind.u8 l).len) * 1).ble 140737488355328 && (0 + (Body.ints IntKind.u8 l).len).ble 4611686018427387904 then LOk CX X 0 (loopAt 0 Tryz.f204) (loopW 1 [Path.blk 0 8] [0] (wrI 1 (orFirst shaH s n) l (cnt64 n l.length) 0) True false (wrI 1 (orFirst shaH s n) l (cnt64 n l.length) (l.length / 64))) ∧ some (St.mk [(0, AV.ptr (Base.l 0) 0 10 0)] [(0, Blk'.cells 257 10 (Body.els [(AV.c (CV.arr IntKind.u32 8 shaH)).pr ((AV.own 1 1 (Body.ints IntKind.u8 l).len).pr (AV.c ((CV.int IntKind.u64 (IntKind.u64.wrap (n + IntKind.u64.wrap (Nat.cast (R := Int) l.length)))).pr CV.nl)))])), (1, Blk'.cells 5 1 (Body.ints IntKind.u8 l))] 2 61) = some (wrI 1 (orFirst shaH s n) l (cnt64 n l.length) 0) ∧ True ∧ some (Out.mk AV.t0 [some (Blk'.cells 257 10 (Body.els [(AV.c (CV.arr IntKind.u32 8 (shaRun shaK (orFirst shaH s n) l (l.length / 64)))).pr ((AV.own 1 1 (l.length - 64 * (l.length / 64))).pr (AV.c ((CV.int IntKind.u64 (cnt64 n l.length)).pr CV.nl)))]))] [Blk'.cells 5 1 (Body.ints IntKind.u8 (List.drop (64 * (l.length / 64)) l))]) = some (Out.mk AV.t0 [some (dgOut 1 (orFirst shaH s n) l (cnt64 n l.length))] [byB (List.drop (64 * (l.length / 64)) l)]) else False else bif ((0 + (Body.ints IntKind.u8 l).len) * 1).ble 140737488355328 && (0 + (Body.ints IntKind.u8 l).len).ble 4611686018427387904 then LOk CX X 0 (loopAt 0 Tryz.f204) (loopW 1 [Path.blk 0 8] [0] (wrI 1 (orFirst shaH s n) l (cnt64 n l.length) 0) True false (wrI 1 (orFirst shaH s n) l (cnt64 n l.length) (l.length / 64))) ∧ some (St.mk [(0, AV.ptr (Base.l 0) 0 10 0)] [(0, Blk'.cells 257 10 (Body.els [(AV.c (CV.arr IntKind.u32 8 s)).pr ((AV.own 1 1 (Body.ints IntKind.u8 l).len).pr (AV.c ((CV.int IntKind.u64 (IntKind.u64.wrap (n + IntKind.u64.wrap (Nat.cast (R := Int) l.length)))).pr CV.nl)))])), (1, Blk'.cells 5 1 (Body.ints IntKind.u8 l))] 2 61) = some (wrI 1 (orFirst shaH s n) l (cnt64 n l.length) 0) ∧ True ∧ some (Out.mk AV.t0 [some (Blk'.cells 257 10 (Body.els [(AV.c (CV.arr IntKind.u32 8 (shaRun shaK (orFirst shaH s n) l (l.length / 64)))).pr ((AV.own 1 1 (l.length - 64 * (l.length / 64))).pr (AV.c ((CV.int IntKind.u64 (cnt64 n l.length)).pr CV.nl)))]))] [Blk'.cells 5 1 (Body.ints IntKind.u8 (List.drop (64 * (l.length / 64)) l))]) = some (Out.mk AV.t0 [some (dgOut 1 (orFirst shaH s n) l (cnt64 n l.length))] [byB (List.drop (64 * (l.length / 64)) l)]) else False, by kernel_rfl, ?_⟩
  refine cond_intro (fun h => ?_) (fun h => ?_)
  ·refine cond_at (by simp [Body.len]; omega) ⟨write_l1 hX _ _ _, ?_, trivial, rfl⟩
   unfold orFirst; rw [h]; rfl
  ·refine cond_at (by simp [Body.len]; omega) ⟨write_l1 hX _ _ _, ?_, trivial, rfl⟩
   unfold orFirst; rw [h]; rfl
 ·rename_i l s k n r
  injection hF with hF; injection hF with e1 e2; subst e1; subst e2
  refine ⟨Nat.le_of_ble_eq_true (by kernel_rfl), fun X hX hfa => ⟨[(0, loopW 2 [.blk 0 8] [0] (wrI 2 (orFirst shaH s n) (r ++ l) (cnt64 n l.length) 0) True false (wrI 2 (orFirst shaH s n) (r ++ l) (cnt64 n l.length) ((r ++ l).length / 64)))], 999, ?_⟩⟩
  have hp : l.length ≤ 1000000000 ∧ r.length ≤ 1000000000 := hp
  refine ⟨bif n == 0 then bif (((Body.ints IntKind.u8 r).len + (Body.ints IntKind.u8 l).len) * 1).ble 140737488355328 && ((Body.ints IntKind.u8 r).len + (Body.ints IntKind.u8 l).len).ble 4611686018427387904 then LOk CX X 0 (loopAt 0 Tryz.f204) (loopW 2 [Path.blk 0 8] [0] (wrI 2 (orFirst shaH s n) (r ++ l) (cnt64 n l.length) 0) True false (wrI 2 (orFirst shaH s n) (r ++ l) (cnt64 n l.length) ((r ++ l).length / 64))) ∧ some (St.mk [(0, AV.ptr (Base.l 0) 0 10 0)] [(0, Blk'.cells 257 10 (Body.els [(AV.c (CV.arr IntKind.u32 8 shaH)).pr ((AV.own 2 1 (Body.ints IntKind.u8 (r ++ l)).len).pr (AV.c ((CV.int IntKind.u64 (IntKind.u64.wrap (n + IntKind.u64.wrap (Nat.cast (R := Int) l.length)))).pr CV.nl)))])), (2, Blk'.cells 5 1 (Body.ints IntKind.u8 (r ++ l)))] 3 61) = some (wrI 2 (orFirst shaH s n) (r ++ l) (cnt64 n l.length) 0) ∧ True ∧ some (Out.mk AV.t0 [some (Blk'.cells 257 10 (Body.els [(AV.c (CV.arr IntKind.u32 8 (shaRun shaK (orFirst shaH s n) (r ++ l) ((r ++ l).length / 64)))).pr ((AV.own 2 1 ((r ++ l).length - 64 * ((r ++ l).length / 64))).pr (AV.c ((CV.int IntKind.u64 (cnt64 n l.length)).pr CV.nl)))])), none] [Blk'.cells 5 1 (Body.ints IntKind.u8 (List.drop (64 * ((r ++ l).length / 64)) (r ++ l)))]) = some (Out.mk AV.t0 [some (dgOut 2 (orFirst shaH s n) (r ++ l) (cnt64 n l.length)), none] [byB (List.drop (64 * ((r ++ l).length / 64)) (r ++ l))]) else False else bif (((Body.ints IntKind.u8 r).len + (Body.ints IntKind.u8 l).len) * 1).ble 140737488355328 && ((Body.ints IntKind.u8 r).len + (Body.ints IntKind.u8 l).len).ble 4611686018427387904 then LOk CX X 0 (loopAt 0 Tryz.f204) (loopW 2 [Path.blk 0 8] [0] (wrI 2 (orFirst shaH s n) (r ++ l) (cnt64 n l.length) 0) True false (wrI 2 (orFirst shaH s n) (r ++ l) (cnt64 n l.length) ((r ++ l).length / 64))) ∧ some (St.mk [(0, AV.ptr (Base.l 0) 0 10 0)] [(0, Blk'.cells 257 10 (Body.els [(AV.c (CV.arr IntKind.u32 8 s)).pr ((AV.own 2 1 (Body.ints IntKind.u8 (r ++ l)).len).pr (AV.c ((CV.int IntKind.u64 (IntKind.u64.wrap (n + IntKind.u64.wrap (Nat.cast (R := Int) l.length)))).pr CV.nl)))])), (2, Blk'.cells 5 1 (Body.ints IntKind.u8 (r ++ l)))] 3 61) = some (wrI 2 (orFirst shaH s n) (r ++ l) (cnt64 n l.length) 0) ∧ True ∧ some (Out.mk AV.t0 [some (Blk'.cells 257 10 (Body.els [(AV.c (CV.arr IntKind.u32 8 (shaRun shaK (orFirst shaH s n) (r ++ l) ((r ++ l).length / 64)))).pr ((AV.own 2 1 ((r ++ l).length - 64 * ((r ++ l).length / 64))).pr (AV.c ((CV.int IntKind.u64 (cnt64 n l.length)).pr CV.nl)))])), none] [Blk'.cells 5 1 (Body.ints IntKind.u8 (List.drop (64 * ((r ++ l).length / 64)) (r ++ l)))]) = some (Out.mk AV.t0 [some (dgOut 2 (orFirst shaH s n) (r ++ l) (cnt64 n l.length)), none] [byB (List.drop (64 * ((r ++ l).length / 64)) (r ++ l))]) else False, by kernel_rfl, ?_⟩
  refine cond_intro (fun h => ?_) (fun h => ?_)
  ·refine cond_at (by simp [Body.len]; omega) ⟨write_l2 hX _ _ _, ?_, trivial, rfl⟩
   unfold orFirst; rw [h]; rfl
  ·refine cond_at (by simp [Body.len]; omega) ⟨write_l2 hX _ _ _, ?_, trivial, rfl⟩
   unfold orFirst; rw [h]; rfl
 ·cases hF
end Go.Proofs.YtffdoihhjfjgoaaGreatDoor
