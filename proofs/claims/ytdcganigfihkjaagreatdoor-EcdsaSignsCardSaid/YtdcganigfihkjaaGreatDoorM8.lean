import Derived.Test.YtdcganigfihkjaaGreatDoorRows
import Derived.Test.YtdcganigfihkjaaGreatDoorM1
import Derived.WalkKit
import Derived.WalkSpells
import Derived.WalkLawsBesides
import Derived.Lib.Hide
import Derived.Deep.QuietTactic
import Derived.BigQuiet
import Derived.StillTailTactics
import Derived.Deep.RegionHeld3
import Derived.Shelf.Spec.BitsCarry
import Derived.Laws.BitsAllLaws
import Derived.Shelf.Bits.Mul64
/- What the seat's program says of its types, and the laws of append at it. -/
namespace Go.Proofs.YtdcganigfihkjaaGreatDoor
open Go.RowKit Go.Chr
theorem info_u8 : (Tryz.prog.info? 5).map (fun i => (i.zero, i.size, i.bytes)) = some (some (.int .u8 0), 1, 1) := by kernel_rfl
theorem app_u8 {w : World} {B : Nat} {ops : Array Oper} {rest : List Oper} {o : Oper} {a : Act} {Q : Exit → Act → World → Prop} (hgd : o.guard = none) (s x : Operand)
  (ho : o.op = .call { callee := .builtin .append, args := #[s, x], argTypes := #[22, 22] })
  (v u : Value) (l m : List Int) (hs : a.eval s = v) (hx : a.eval x = u) (hown : OI w B 5 .u8 v l) (hr : RI w .u8 u m)
  (hlen : l.length + m.length ≤ 140737488355328) (hbase : B ≤ w.heap.size)
  (h : ∀ v' w', OI w' B 5 .u8 v' (l ++ m) → Below B w w' → w.grownBy w' v.ownBlock → (v'.ownBlock = v.ownBlock ∨ v'.ownBlock = some w.heap.size) → wpList Tryz.prog ops Q rest (a.put o.dst v') w') :
  wpList Tryz.prog ops Q (o :: rest) a w := by
 obtain ⟨i0, hi0, hz0, hz1, hz2⟩ := info_parts info_u8
 obtain ⟨A, c, rfl, hc, hr⟩ := hr
 refine wpList_append_any w hgd s x 22 ho B 5 i0 _ 1 1 Tryz.underlying22 hi0 hz0 hz1 hz2 rfl (by omega) v l.length _ hs hown w.heap.size A m.length c _ hx hr
  (fun _ hu => oneCell_ints hu) (by simp only [maxLen]; omega) (by omega) hbase ?_
 intro v' w' h1 h2 h3
 refine h v' w' ?_ ?_ h2 h3
 ·unfold OI; rw [List.map_append, List.length_append]; exact h1
 ·refine (Below.refl B w).grown h2 hbase fun k hk => ?_
  exact (hown.lt k hk).1
theorem step_app_u8 {w : World} {B : Nat} {ops : Array Oper} {o : Oper} {a : Act} {K : Act → World → Prop} {Q : Exit → Act → World → Prop} {E : Prop} (hgd : o.guard = none) (s x : Operand)
  (ho : o.op = .call { callee := .builtin .append, args := #[s, x], argTypes := #[22, 22] })
  (v u : Value) (l m : List Int) (hs : a.eval s = v) (hx : a.eval x = u) (hown : OI w B 5 .u8 v l) (hr : RI w .u8 u m)
  (hlen : l.length + m.length ≤ 140737488355328) (hbase : B ≤ w.heap.size)
  (h : ∀ v' w', OI w' B 5 .u8 v' (l ++ m) → Below B w w' → w.grownBy w' v.ownBlock → (v'.ownBlock = v.ownBlock ∨ v'.ownBlock = some w.heap.size) → K (a.put o.dst v') w') :
  if Region.wanted o (yielded ops a.tmps) = true then Oper.wp Tryz.prog o a w K Q else E := by
 obtain ⟨i0, hi0, hz0, hz1, hz2⟩ := info_parts info_u8
 obtain ⟨A, c, rfl, hc, hr⟩ := hr
 refine step_append_any w hgd s x 22 ho B 5 i0 _ 1 1 Tryz.underlying22 hi0 hz0 hz1 hz2 rfl (by omega) v l.length _ hs hown w.heap.size A m.length c _ hx hr
  (fun _ hu => oneCell_ints hu) (by simp only [maxLen]; omega) (by omega) hbase ?_
 intro v' w' h1 h2 h3
 refine h v' w' ?_ ?_ h2 h3
 ·unfold OI; rw [List.map_append, List.length_append]; exact h1
 ·refine (Below.refl B w).grown h2 hbase fun k hk => ?_
  exact (hown.lt k hk).1
set_option maxRecDepth 100000 in
theorem mk_u8 (n : Nat) (hn : n ≤ 1000000000) (w : World) : (Instr.makeSlice 22 (.int .i64 n) (.int .i64 n)).run Tryz.prog w = .ok (.slice (some ⟨w.heap.size, 0, none⟩) n n) (w.alloc (.cells (Array.replicate n (.int .u8 0)) 5)) := by
 obtain ⟨i0, hi0, hz0, hz1, hz2⟩ := info_parts info_u8
 have h := run_make (P := Tryz.prog) w 22 5 i0 (.int .u8 0) Tryz.underlying22 hi0 hz0 .i64 .i64 n n (by omega) (by omega) (by rw [hz2]; omega) (by omega)
 rw [h, hz1]
 simp only [Int.toNat_natCast, Nat.mul_one]
 congr 3
 apply Array.ext
 ·simp [madeCells]
 ·intro i h1 h2; simp [madeCells, Value.cells, Nat.mod_one]
end Go.Proofs.YtdcganigfihkjaaGreatDoor
/- Contracts of the layer limb. -/
namespace Go.Proofs.YtdcganigfihkjaaGreatDoor
open Go.RowKit Go.Chr
theorem add64 (x y c : Int) (hx : 0 ≤ x) (hx' : x < 18446744073709551616) (hy : 0 ≤ y) (hy' : y < 18446744073709551616) (hc0 : 0 ≤ c) (hc : c ≤ 1) (w : World) :
  (callFunc 109 #[.int .u64 x, .int .u64 y, .int .u64 c]).run Tryz.prog w = .ok (.value (.tuple #[.int .u64 ((x + y + c) % 18446744073709551616), .int .u64 ((x + y + c) / 18446744073709551616)])) w := by
 obtain ⟨x, rfl⟩ := Int.eq_ofNat_of_zero_le hx
 obtain ⟨y, rfl⟩ := Int.eq_ofNat_of_zero_le hy
 obtain ⟨c, rfl⟩ := Int.eq_ofNat_of_zero_le hc0
 rw [run_callFunc_extern Tryz.func109 (by kernel_rfl) (by kernel_rfl) (by kernel_rfl) (e := add64Entry) (by kernel_rfl), run_add64 x y c (by omega) (by omega) (by omega) (by omega)]
 simp only [Result.andThen]
theorem sub64 (x y b : Int) (hx : 0 ≤ x) (hy : 0 ≤ y) (hy' : y < 18446744073709551616) (hb0 : 0 ≤ b) (hb : b ≤ 1) (w : World) :
  (callFunc 85 #[.int .u64 x, .int .u64 y, .int .u64 b]).run Tryz.prog w = .ok (.value (.tuple #[.int .u64 ((x - y - b) % 18446744073709551616), .int .u64 (bor x (y + b))])) w := by
 obtain ⟨x, rfl⟩ := Int.eq_ofNat_of_zero_le hx
 obtain ⟨y, rfl⟩ := Int.eq_ofNat_of_zero_le hy
 obtain ⟨b, rfl⟩ := Int.eq_ofNat_of_zero_le hb0
 have e1 : (((x + 18446744073709551616 - y - b) % 18446744073709551616 : Nat) : Int) = ((x : Int) - y - b) % 18446744073709551616 := by omega
 have e2 : ((if x < y + b then 1 else 0 : Nat) : Int) = bor (x : Int) (y + b) := by unfold bor; split <;> split <;> omega
 rw [← e1, ← e2]
 rw [run_callFunc_extern Tryz.func85 (by kernel_rfl) (by kernel_rfl) (by kernel_rfl) (e := sub64Entry) (by kernel_rfl), run_sub64 x y b (by omega)]
 rfl
abbrev natC (x : Nat) : Array Value := #[.int .u64 (lb x 0), .int .u64 (lb x 1), .int .u64 (lb x 2), .int .u64 (lb x 3)]
abbrev nat4 (x : Nat) : Value := .agg #[.int .u64 (lb x 0), .int .u64 (lb x 1), .int .u64 (lb x 2), .int .u64 (lb x 3)]
abbrev lbs (x : Nat) : List Int := [lb x 0, lb x 1, lb x 2, lb x 3]
def RetV (w : World) (v : Value) (e : Ending) (w' : World) : Prop := e = .returned v ∧ Below w.heap.size w w'
theorem lbs_getD (x : Nat) {i : Nat} (hi : i < 4) : (lbs x).getD i 0 = lb x i := by
 rcases i with _ | _ | _ | _ | i <;> first | rfl | omega
def cA (x y : Nat) : Nat → Int
 | 0 => 0
 | i + 1 => (lb x i + lb y i + cA x y i) / 18446744073709551616
theorem cA_bd (x y i : Nat) : 0 ≤ cA x y i ∧ cA x y i ≤ 1 := by
 induction i with
 | zero => simp [cA]
 | succ i ih =>
  have a := lb_nn x i; have b := lb_lt x i; have c := lb_nn y i; have d := lb_lt y i
  unfold cA
  omega
def sA (x y i : Nat) : Int := (lb x i + lb y i + cA x y i) % 18446744073709551616
def lA (x y i : Nat) : List Int := [if 0 < i then sA x y 0 else 0, if 1 < i then sA x y 1 else 0, if 2 < i then sA x y 2 else 0, if 3 < i then sA x y 3 else 0]
theorem lA_set (x y : Nat) {i : Nat} (hi : i < 4) : (lA x y i).set i (sA x y i) = lA x y (i + 1) := by
 rcases i with _ | _ | _ | _ | i <;> first | rfl | omega
set_option maxRecDepth 100000 in
set_option maxHeartbeats 1000000 in
theorem limbAdd_any (x y : Nat) (w : World) (hx : x < 115792089237316195423570985008687907853269984665640564039457584007913129639936) (hy : y < 115792089237316195423570985008687907853269984665640564039457584007913129639936) :
  Calls Tryz.prog 98 #[nat4 x, nat4 y] w (RetV w (.tuple #[nat4 (x + y), .bool (decide (115792089237316195423570985008687907853269984665640564039457584007913129639936 ≤ x + y))])) := by
 have HX := Lib.hid hx; have HY := Lib.hid hy
 clear hx hy
 go_enter Tryz.func98, Tryz.ntmps98
 go_wp2
 go_loopw [7, 9] (fun c i wr => ∃ k : Nat, k ≤ 4 ∧ i = .int .i64 k ∧ c = .int .u64 (cA x y k) ∧ IB wr (w.heap.size + 3) 27 .u64 (lA x y k) ∧ IB wr w.heap.size 27 .u64 (lbs x) ∧ IB wr (w.heap.size + 1) 27 .u64 (lbs y) ∧ IB wr (w.heap.size + 2) 27 .u64 [0, 0, 0, 0] ∧ Below w.heap.size w wr) (fun _ i _ => 4 - (intOf i).toNat)
 case atStart =>
  have h0 := (((IB.new w 27 .u64 (lbs x)).alloc (.cells (natC y) 27)).alloc (.cells #[.int .u64 0, .int .u64 0, .int .u64 0, .int .u64 0] 27)).alloc (.cells #[.int .u64 0, .int .u64 0, .int .u64 0, .int .u64 0] 27)
  have h1 := ((IB.new (w.alloc (.cells (natC x) 27)) 27 .u64 (lbs y)).alloc (.cells #[.int .u64 0, .int .u64 0, .int .u64 0, .int .u64 0] 27)).alloc (.cells #[.int .u64 0, .int .u64 0, .int .u64 0, .int .u64 0] 27)
  have h2 := (IB.new ((w.alloc (.cells (natC x) 27)).alloc (.cells (natC y) 27)) 27 .u64 [0, 0, 0, 0]).alloc (.cells #[.int .u64 0, .int .u64 0, .int .u64 0, .int .u64 0] 27)
  have h3 := IB.new (((w.alloc (.cells (natC x) 27)).alloc (.cells (natC y) 27)).alloc (.cells #[.int .u64 0, .int .u64 0, .int .u64 0, .int .u64 0] 27)) 27 .u64 [0, 0, 0, 0]
  rw [World.size_alloc] at h1
  rw [World.size_alloc, World.size_alloc] at h2
  rw [World.size_alloc, World.size_alloc, World.size_alloc] at h3
  exact ⟨0, by omega, rfl, rfl, h3, h0, h1, h2, ((((Below.refl _ _).alloc (Nat.le_refl _) _).alloc (by simp) _).alloc (by simp; omega) _).alloc (by simp; omega) _⟩
 case round =>
  obtain ⟨k, hk, rfl, rfl, ho, hA, hB, hr, hbel⟩ := hrel
  by_cases hlt : k < 4
  ·have q1 := hA.cell (i := k) (by simpa using hlt)
   have q2 := hB.cell (i := k) (by simpa using hlt)
   rw [lbs_getD _ hlt] at q1 q2
   have q3 := ho.cell (i := k) (by simpa [lA] using hlt)
   have q4 := ho.frozen k
   have hcall := fun W => add64 (lb x k) (lb y k) (cA x y k) (lb_nn x k) (lb_lt x k) (lb_nn y k) (lb_lt y k) (cA_bd x y k).1 (cA_bd x y k).2 W
   have HA := Lib.hid hA; have HB := Lib.hid hB; have HO := Lib.hid ho; have HR := Lib.hid hr
   clear hA hB ho hr
   have d1 : decide ((k : Int) < 4) = true := by simp; omega
   have i1 : (k : Int) < 4 := by omega
   go_wp2
   go_region
   go_wp2
   go_roundw
   case rel =>
    have hs := HO.out.set k (sA x y k)
    rw [lA_set x y hlt] at hs
    refine ⟨k + 1, by omega, by go_num, rfl, hs.drew, ?_, ?_, ?_, ?_⟩
    ·exact (HA.out.far (p := ⟨w.heap.size + 3, k, none⟩) (by simp) _).drew
    ·exact (HB.out.far (p := ⟨w.heap.size + 3, k, none⟩) (by simp) _).drew
    ·exact (HR.out.far (p := ⟨w.heap.size + 3, k, none⟩) (by simp) _).drew
    ·exact (hbel.setCell (p := ⟨w.heap.size + 3, k, none⟩) (by simp) _).drew
   case measure => simp [intOf]; omega
  ·have h4 : k = 4 := by omega
   subst h4
   have d1 : decide (((4 : Nat) : Int) < 4) = false := by decide
   obtain ⟨⟨r0, r1, r2, r3⟩, r4⟩ := lb_add HX.out HY.out (c1 := cA x y 1) (c2 := cA x y 2) (c3 := cA x y 3) (c4 := cA x y 4) (by simp [cA]) rfl rfl rfl
   have e0 : sA x y 0 = lb (x + y) 0 := by rw [r0]; simp [sA, cA]
   have e1 : sA x y 1 = lb (x + y) 1 := r1.symm
   have e2 : sA x y 2 = lb (x + y) 2 := r2.symm
   have e3 : sA x y 3 = lb (x + y) 3 := r3.symm
   have el : lA x y 4 = lbs (x + y) := by simp [lA, e0, e1, e2, e3]
   have hc : (cA x y 4 != 0) = decide (115792089237316195423570985008687907853269984665640564039457584007913129639936 ≤ x + y) := by
    rw [r4]; exact carry_dec _
   rw [el] at ho
   have q0 := ho.cell (i := 0) (by simp)
   have q1 := ho.cell (i := 1) (by simp)
   have q2 := ho.cell (i := 2) (by simp)
   have q3 := ho.cell (i := 3) (by simp)
   simp only [List.getD_cons_zero, List.getD_cons_succ] at q0 q1 q2 q3
   have p0 := hr.cell (i := 0) (by simp)
   have p1 := hr.cell (i := 1) (by simp)
   have p2 := hr.cell (i := 2) (by simp)
   have p3 := hr.cell (i := 3) (by simp)
   have pf := hr.frozen
   have HR := Lib.hid hr; have HBL := Lib.hid hbel
   clear e0 e1 e2 e3 el r0 r1 r2 r3 r4 ho hA hB hr hbel
   go_wp2
   have hfin : Blk _ (w.heap.size + 2) 27 (natC (x + y)) := (((HR.out.set 0 (lb (x + y) 0)).set 1 (lb (x + y) 1)).set 2 (lb (x + y) 2)).set 3 (lb (x + y) 3)
   have hbf := (((HBL.out.setCell (p := ⟨w.heap.size + 2, 0, none⟩) (by simp) (.int .u64 (lb (x + y) 0))).setCell (p := ⟨w.heap.size + 2, 1, none⟩) (by simp) (.int .u64 (lb (x + y) 1))).setCell (p := ⟨w.heap.size + 2, 2, none⟩) (by simp) (.int .u64 (lb (x + y) 2))).setCell (p := ⟨w.heap.size + 2, 3, none⟩) (by simp) (.int .u64 (lb (x + y) 3))
   exact bodyPost_ret (results_blk_tmp (d := .array 4 25) Tryz.results98 rfl hfin rfl Tryz.underlying27 (by kernel_rfl)) rfl ⟨rfl, hbf⟩
def cB (x y : Nat) : Nat → Int
 | 0 => 0
 | i + 1 => bor (lb x i) (lb y i + cB x y i)
theorem cB_bd (x y i : Nat) : 0 ≤ cB x y i ∧ cB x y i ≤ 1 := by
 cases i with
 | zero => simp [cB]
 | succ i => exact bor_01 _ _
def sB (x y i : Nat) : Int := (lb x i - lb y i - cB x y i) % 18446744073709551616
def lB (x y i : Nat) : List Int := [if 0 < i then sB x y 0 else 0, if 1 < i then sB x y 1 else 0, if 2 < i then sB x y 2 else 0, if 3 < i then sB x y 3 else 0]
theorem lB_set (x y : Nat) {i : Nat} (hi : i < 4) : (lB x y i).set i (sB x y i) = lB x y (i + 1) := by
 rcases i with _ | _ | _ | _ | i <;> first | rfl | omega
set_option maxRecDepth 100000 in
set_option maxHeartbeats 1000000 in
theorem limbSub_any (x y : Nat) (w : World) (hx : x < 115792089237316195423570985008687907853269984665640564039457584007913129639936) (hy : y < 115792089237316195423570985008687907853269984665640564039457584007913129639936) :
  Calls Tryz.prog 45 #[nat4 x, nat4 y] w (RetV w (.tuple #[nat4 (115792089237316195423570985008687907853269984665640564039457584007913129639936 + x - y), .bool (decide (x < y))])) := by
 have HX := Lib.hid hx; have HY := Lib.hid hy
 clear hx hy
 go_enter Tryz.func45, Tryz.ntmps45
 go_wp2
 go_loopw [7, 9] (fun c i wr => ∃ k : Nat, k ≤ 4 ∧ i = .int .i64 k ∧ c = .int .u64 (cB x y k) ∧ IB wr (w.heap.size + 3) 27 .u64 (lB x y k) ∧ IB wr w.heap.size 27 .u64 (lbs x) ∧ IB wr (w.heap.size + 1) 27 .u64 (lbs y) ∧ IB wr (w.heap.size + 2) 27 .u64 [0, 0, 0, 0] ∧ Below w.heap.size w wr) (fun _ i _ => 4 - (intOf i).toNat)
 case atStart =>
  have h0 := (((IB.new w 27 .u64 (lbs x)).alloc (.cells (natC y) 27)).alloc (.cells #[.int .u64 0, .int .u64 0, .int .u64 0, .int .u64 0] 27)).alloc (.cells #[.int .u64 0, .int .u64 0, .int .u64 0, .int .u64 0] 27)
  have h1 := ((IB.new (w.alloc (.cells (natC x) 27)) 27 .u64 (lbs y)).alloc (.cells #[.int .u64 0, .int .u64 0, .int .u64 0, .int .u64 0] 27)).alloc (.cells #[.int .u64 0, .int .u64 0, .int .u64 0, .int .u64 0] 27)
  have h2 := (IB.new ((w.alloc (.cells (natC x) 27)).alloc (.cells (natC y) 27)) 27 .u64 [0, 0, 0, 0]).alloc (.cells #[.int .u64 0, .int .u64 0, .int .u64 0, .int .u64 0] 27)
  have h3 := IB.new (((w.alloc (.cells (natC x) 27)).alloc (.cells (natC y) 27)).alloc (.cells #[.int .u64 0, .int .u64 0, .int .u64 0, .int .u64 0] 27)) 27 .u64 [0, 0, 0, 0]
  rw [World.size_alloc] at h1
  rw [World.size_alloc, World.size_alloc] at h2
  rw [World.size_alloc, World.size_alloc, World.size_alloc] at h3
  exact ⟨0, by omega, rfl, rfl, h3, h0, h1, h2, ((((Below.refl _ _).alloc (Nat.le_refl _) _).alloc (by simp) _).alloc (by simp; omega) _).alloc (by simp; omega) _⟩
 case round =>
  obtain ⟨k, hk, rfl, rfl, ho, hA, hB, hr, hbel⟩ := hrel
  by_cases hlt : k < 4
  ·have q1 := hA.cell (i := k) (by simpa using hlt)
   have q2 := hB.cell (i := k) (by simpa using hlt)
   rw [lbs_getD _ hlt] at q1 q2
   have q3 := ho.cell (i := k) (by simpa [lB] using hlt)
   have q4 := ho.frozen k
   have hcall := fun W => sub64 (lb x k) (lb y k) (cB x y k) (lb_nn x k) (lb_nn y k) (lb_lt y k) (cB_bd x y k).1 (cB_bd x y k).2 W
   have HA := Lib.hid hA; have HB := Lib.hid hB; have HO := Lib.hid ho; have HR := Lib.hid hr
   clear hA hB ho hr
   have d1 : decide ((k : Int) < 4) = true := by simp; omega
   have i1 : (k : Int) < 4 := by omega
   go_wp2
   go_region
   go_wp2
   go_roundw
   case rel =>
    have hs := HO.out.set k (sB x y k)
    rw [lB_set x y hlt] at hs
    refine ⟨k + 1, by omega, by go_num, rfl, hs.drew, ?_, ?_, ?_, ?_⟩
    ·exact (HA.out.far (p := ⟨w.heap.size + 3, k, none⟩) (by simp) _).drew
    ·exact (HB.out.far (p := ⟨w.heap.size + 3, k, none⟩) (by simp) _).drew
    ·exact (HR.out.far (p := ⟨w.heap.size + 3, k, none⟩) (by simp) _).drew
    ·exact (hbel.setCell (p := ⟨w.heap.size + 3, k, none⟩) (by simp) _).drew
   case measure => simp [intOf]; omega
  ·have h4 : k = 4 := by omega
   subst h4
   have d1 : decide (((4 : Nat) : Int) < 4) = false := by decide
   obtain ⟨⟨r0, r1, r2, r3⟩, r4⟩ := lb_sub HX.out HY.out (z := 115792089237316195423570985008687907853269984665640564039457584007913129639936 + x - y) (c1 := cB x y 1) (c2 := cB x y 2) (c3 := cB x y 3) (c4 := cB x y 4) (by simp [cB]) rfl rfl rfl (sub_cast x y HY.out)
   have e0 : sB x y 0 = lb (115792089237316195423570985008687907853269984665640564039457584007913129639936 + x - y) 0 := by rw [r0]; simp [sB, cB]
   have e1 : sB x y 1 = lb (115792089237316195423570985008687907853269984665640564039457584007913129639936 + x - y) 1 := r1.symm
   have e2 : sB x y 2 = lb (115792089237316195423570985008687907853269984665640564039457584007913129639936 + x - y) 2 := r2.symm
   have e3 : sB x y 3 = lb (115792089237316195423570985008687907853269984665640564039457584007913129639936 + x - y) 3 := r3.symm
   have el : lB x y 4 = lbs (115792089237316195423570985008687907853269984665640564039457584007913129639936 + x - y) := by simp [lB, e0, e1, e2, e3]
   have hc : (cB x y 4 != 0) = decide (x < y) := by
    rw [r4]; by_cases h : x < y <;> simp [h]
   rw [el] at ho
   have q0 := ho.cell (i := 0) (by simp)
   have q1 := ho.cell (i := 1) (by simp)
   have q2 := ho.cell (i := 2) (by simp)
   have q3 := ho.cell (i := 3) (by simp)
   simp only [List.getD_cons_zero, List.getD_cons_succ] at q0 q1 q2 q3
   have p0 := hr.cell (i := 0) (by simp)
   have p1 := hr.cell (i := 1) (by simp)
   have p2 := hr.cell (i := 2) (by simp)
   have p3 := hr.cell (i := 3) (by simp)
   have pf := hr.frozen
   have HR := Lib.hid hr; have HBL := Lib.hid hbel
   clear e0 e1 e2 e3 el r0 r1 r2 r3 r4 ho hA hB hr hbel
   go_wp2
   have hfin : Blk _ (w.heap.size + 2) 27 (natC (115792089237316195423570985008687907853269984665640564039457584007913129639936 + x - y)) := (((HR.out.set 0 (lb (115792089237316195423570985008687907853269984665640564039457584007913129639936 + x - y) 0)).set 1 (lb (115792089237316195423570985008687907853269984665640564039457584007913129639936 + x - y) 1)).set 2 (lb (115792089237316195423570985008687907853269984665640564039457584007913129639936 + x - y) 2)).set 3 (lb (115792089237316195423570985008687907853269984665640564039457584007913129639936 + x - y) 3)
   have hbf := (((HBL.out.setCell (p := ⟨w.heap.size + 2, 0, none⟩) (by simp) (.int .u64 (lb (115792089237316195423570985008687907853269984665640564039457584007913129639936 + x - y) 0))).setCell (p := ⟨w.heap.size + 2, 1, none⟩) (by simp) (.int .u64 (lb (115792089237316195423570985008687907853269984665640564039457584007913129639936 + x - y) 1))).setCell (p := ⟨w.heap.size + 2, 2, none⟩) (by simp) (.int .u64 (lb (115792089237316195423570985008687907853269984665640564039457584007913129639936 + x - y) 2))).setCell (p := ⟨w.heap.size + 2, 3, none⟩) (by simp) (.int .u64 (lb (115792089237316195423570985008687907853269984665640564039457584007913129639936 + x - y) 3))
   exact bodyPost_ret (results_blk_tmp (d := .array 4 25) Tryz.results45 rfl hfin rfl Tryz.underlying27 (by kernel_rfl)) rfl ⟨rfl, hbf⟩
end Go.Proofs.YtdcganigfihkjaaGreatDoor
/- Contracts of the layer limb: Cmp, Pick, Bit. -/
namespace Go.Proofs.YtdcganigfihkjaaGreatDoor
open Go.RowKit Go.Chr
def cmpI (x y : Int) : Int := if x < y then -1 else if y < x then 1 else 0
theorem notNaN (x : Int) (w : World) : Calls Tryz.prog 120 #[.int .u64 x] w (fun e w' => e = .returned (.bool false) ∧ w = w') := by
 have d : (x != x) = false := by simp
 go_enter Tryz.func120, Tryz.ntmps120
 go_wp2
 go_ret
 exact ⟨rfl, rfl⟩
set_option maxRecDepth 100000 in
theorem compare_any (x y : Int) (w : World) : Calls Tryz.prog 107 #[.int .u64 x, .int .u64 y] w (fun e w' => e = .returned (.int .i64 (cmpI x y)) ∧ w = w') := by
 have e : cmpI x y = if x < y then -1 else if y < x then 1 else 0 := rfl
 by_cases h1 : x < y
 ·have d1 : decide (x < y) = true := by simpa using h1
  rw [if_pos h1] at e
  rw [e]
  go_enter Tryz.func107, Tryz.ntmps107
  go_wp2_with (go_at_call 120; refine (notNaN _ _).mono ?_; rintro e w' ⟨rfl, rfl⟩)
  go_ret
  exact ⟨rfl, rfl⟩
 ·have d1 : decide (x < y) = false := by simpa using h1
  rw [if_neg h1] at e
  by_cases h2 : y < x
  ·have d2 : decide (y < x) = true := by simpa using h2
   rw [if_pos h2] at e
   rw [e]
   go_enter Tryz.func107, Tryz.ntmps107
   go_wp2_with (go_at_call 120; refine (notNaN _ _).mono ?_; rintro e w' ⟨rfl, rfl⟩)
   go_ret
   exact ⟨rfl, rfl⟩
  ·have d2 : decide (y < x) = false := by simpa using h2
   rw [if_neg h2] at e
   rw [e]
   go_enter Tryz.func107, Tryz.ntmps107
   go_wp2_with (go_at_call 120; refine (notNaN _ _).mono ?_; rintro e w' ⟨rfl, rfl⟩)
   go_ret
   exact ⟨rfl, rfl⟩
theorem lt_at {x y : Nat} (hx : x < 115792089237316195423570985008687907853269984665640564039457584007913129639936) (hy : y < 115792089237316195423570985008687907853269984665640564039457584007913129639936) {k : Nat} (hk : k < 4)
  (he : ∀ j, k < j → j < 4 → lb x j = lb y j) (h : lb x k < lb y k) : x < y := by
 obtain ⟨a3, a2, a1, a0⟩ := lb_lt_iff hx hy
 rcases k with _ | _ | _ | _ | k
 ·exact a0 (he 3 (by omega) (by omega)) (he 2 (by omega) (by omega)) (he 1 (by omega) (by omega)) h
 ·exact a1 (he 3 (by omega) (by omega)) (he 2 (by omega) (by omega)) h
 ·exact a2 (he 3 (by omega) (by omega)) h
 ·exact a3 h
 ·omega
def cmpN (x y : Nat) : Int := if x < y then -1 else if y < x then 1 else 0
set_option maxRecDepth 100000 in
set_option maxHeartbeats 1000000 in
theorem limbCmp_any (x y : Nat) (w : World) (hx : x < 115792089237316195423570985008687907853269984665640564039457584007913129639936) (hy : y < 115792089237316195423570985008687907853269984665640564039457584007913129639936) :
  Calls Tryz.prog 83 #[nat4 x, nat4 y] w (RetV w (.int .i64 (cmpN x y))) := by
 have HX := Lib.hid hx; have HY := Lib.hid hy
 clear hx hy
 go_enter Tryz.func83, Tryz.ntmps83
 go_wp2
 go_loopw [5] (fun i wr => ∃ k : Nat, k ≤ 4 ∧ i = .int .i64 ((k : Int) - 1) ∧ (∀ j, k ≤ j → j < 4 → lb x j = lb y j) ∧ IB wr w.heap.size 27 .u64 (lbs x) ∧ IB wr (w.heap.size + 1) 27 .u64 (lbs y) ∧ Below w.heap.size w wr) (fun i _ => (intOf i + 1).toNat)
 case atStart =>
  have h0 := (IB.new w 27 .u64 (lbs x)).alloc (.cells (natC y) 27)
  have h1 := (IB.new (w.alloc (.cells (natC x) 27)) 27 .u64 (lbs y))
  rw [World.size_alloc] at h1
  exact ⟨4, by omega, rfl, fun j h1 h2 => by omega, h0, h1, ((Below.refl _ _).alloc (Nat.le_refl _) _).alloc (by simp) _⟩
 case round =>
  obtain ⟨k, hk, rfl, he, hA, hB, hbel⟩ := hrel
  rcases k with _ | k
  ·have hxy : x = y := lb_inj HX.out HY.out (he 0 (by omega) (by omega)) (he 1 (by omega) (by omega)) (he 2 (by omega) (by omega)) (he 3 (by omega) (by omega))
   have hc : cmpN x y = 0 := by unfold cmpN; rw [hxy]; simp
   have HBL := Lib.hid hbel
   clear he hA hB hbel hxy
   have HC := Lib.hid hc
   clear hc
   go_wp2
   go_ret
   exact ⟨by rw [HC.out]; rfl, HBL.out⟩
  ·have q1 := hA.cell (i := k) (by simp; omega)
   have q2 := hB.cell (i := k) (by simp; omega)
   rw [lbs_getD _ (by omega)] at q1 q2
   have ek : ((k + 1 : Nat) : Int) - 1 = (k : Int) := by omega
   rw [ek]
   have i1 : (k : Int) < 4 := by omega
   have i0 : (0 : Int) ≤ k := by omega
   have d0 : decide ((0 : Int) ≤ k) = true := by simp
   have HA := Lib.hid hA; have HB := Lib.hid hB; have HBL := Lib.hid hbel; have HE := Lib.hid he
   clear hA hB hbel he ek
   by_cases hq : lb x k = lb y k
   ·have dn : (lb x k != lb y k) = false := by simp [hq]
    have HQ := Lib.hid hq
    clear hq
    go_wp2
    go_region
    go_wp2
    go_roundw
    case rel => exact ⟨k, by omega, by go_num, fun j h1 h2 => by
     by_cases hj : j = k
     ·rw [hj]; exact HQ.out
     ·exact HE.out j (by omega) h2, HA.out.drew, HB.out.drew, HBL.out.drew⟩
    case measure => simp [intOf]
   ·have dn : (lb x k != lb y k) = true := by simpa using hq
    have hres : cmpI (lb x k) (lb y k) = cmpN x y := by
     unfold cmpI cmpN
     by_cases h1 : lb x k < lb y k
     ·rw [if_pos h1, if_pos (lt_at HX.out HY.out (by omega) (fun j a b => HE.out j (by omega) b) h1)]
     ·have h2 : lb y k < lb x k := by omega
      have h3 := lt_at HY.out HX.out (by omega) (fun j a b => (HE.out j (by omega) b).symm) h2
      rw [if_neg h1, if_pos h2, if_neg (by omega), if_pos h3]
    have HQ := Lib.hid hq; have HRS := Lib.hid hres
    clear hq hres
    go_wp2
    go_region
    go_wp2_with fail
    go_region_with ((go_at_call 107; refine (compare_any _ _ _).mono ?_; rintro e w' ⟨rfl, rfl⟩))
    all_goals
     go_wp2
     go_ret
     exact ⟨by rw [← HRS.out]; rfl, HBL.out.drew.drew⟩
theorem and_ones {a : Int} (h0 : 0 ≤ a) (h1 : a < 18446744073709551616) : bits .and .u64 a 18446744073709551615 = a := by
 obtain ⟨a, rfl⟩ := Int.eq_ofNat_of_zero_le h0
 have h := bits_and_u64_nat a 18446744073709551615 (by omega) (by omega)
 have e : a &&& 18446744073709551615 = a := by
  have := Nat.and_two_pow_sub_one_eq_mod a 64
  rw [Nat.mod_eq_of_lt (by omega)] at this
  exact this
 rw [e] at h
 exact h
theorem and_zero {a : Int} (h0 : 0 ≤ a) (h1 : a < 18446744073709551616) : bits .and .u64 a 0 = 0 := by
 obtain ⟨a, rfl⟩ := Int.eq_ofNat_of_zero_le h0
 have h := bits_and_u64_nat a 0 (by omega) (by omega)
 rw [Nat.and_zero] at h
 exact h
theorem andNot_ones {a : Int} (h0 : 0 ≤ a) (h1 : a < 18446744073709551616) : bits .andNot .u64 a 18446744073709551615 = 0 := by
 obtain ⟨a, rfl⟩ := Int.eq_ofNat_of_zero_le h0
 have h := u64_andNot_nat a 18446744073709551615 (by omega) (by omega)
 rw [Nat.sub_self, Nat.and_zero] at h
 exact h
theorem andNot_zero {a : Int} (h0 : 0 ≤ a) (h1 : a < 18446744073709551616) : bits .andNot .u64 a 0 = a := by
 obtain ⟨a, rfl⟩ := Int.eq_ofNat_of_zero_le h0
 have h := u64_andNot_nat a 0 (by omega) (by omega)
 have e : a &&& (18446744073709551615 - 0) = a := by
  have := Nat.and_two_pow_sub_one_eq_mod a 64
  rw [Nat.mod_eq_of_lt (by omega)] at this
  exact this
 rw [e] at h
 exact h
theorem or_zero {a : Int} (h0 : 0 ≤ a) (h1 : a < 18446744073709551616) : bits .or .u64 a 0 = a := by
 obtain ⟨a, rfl⟩ := Int.eq_ofNat_of_zero_le h0
 have h := bits_or_u64_nat a 0 (by omega) (by omega)
 rw [Nat.or_zero] at h
 exact h
theorem zero_or {a : Int} (h0 : 0 ≤ a) (h1 : a < 18446744073709551616) : bits .or .u64 0 a = a := by
 obtain ⟨a, rfl⟩ := Int.eq_ofNat_of_zero_le h0
 have h := bits_or_u64_nat 0 a (by omega) (by omega)
 rw [Nat.zero_or] at h
 exact h
def lP (x y i : Nat) : List Int := [if 0 < i then lb y 0 else lb x 0, if 1 < i then lb y 1 else lb x 1, if 2 < i then lb y 2 else lb x 2, if 3 < i then lb y 3 else lb x 3]
theorem lP_set (x y : Nat) {i : Nat} (hi : i < 4) : (lP x y i).set i (lb y i) = lP x y (i + 1) := by
 rcases i with _ | _ | _ | _ | i <;> first | rfl | omega
theorem lP_getD (x y : Nat) {i : Nat} (hi : i < 4) : (lP x y i).getD i 0 = lb x i := by
 rcases i with _ | _ | _ | _ | i <;> first | rfl | omega
theorem lbs_set (x : Nat) {i : Nat} (hi : i < 4) : (lbs x).set i (lb x i) = lbs x := by
 rcases i with _ | _ | _ | _ | i <;> first | rfl | omega
theorem pick_start (x y : Nat) (w : World) :
  let W := ((w.alloc (.cells (natC x) 27)).alloc (.cells (natC y) 27)).alloc (.cells #[.int .u64 0, .int .u64 0, .int .u64 0, .int .u64 0] 27)
  IB W w.heap.size 27 .u64 (lbs x) ∧ IB W (w.heap.size + 1) 27 .u64 (lbs y) ∧ IB W (w.heap.size + 2) 27 .u64 [0, 0, 0, 0] ∧ Below w.heap.size w W := by
 have h0 := ((IB.new w 27 .u64 (lbs x)).alloc (.cells (natC y) 27)).alloc (.cells #[.int .u64 0, .int .u64 0, .int .u64 0, .int .u64 0] 27)
 have h1 := (IB.new (w.alloc (.cells (natC x) 27)) 27 .u64 (lbs y)).alloc (.cells #[.int .u64 0, .int .u64 0, .int .u64 0, .int .u64 0] 27)
 have h2 := (IB.new ((w.alloc (.cells (natC x) 27)).alloc (.cells (natC y) 27)) 27 .u64 [0, 0, 0, 0])
 rw [World.size_alloc] at h1
 rw [World.size_alloc, World.size_alloc] at h2
 exact ⟨h0, h1, h2, (((Below.refl _ _).alloc (Nat.le_refl _) _).alloc (by simp) _).alloc (by simp; omega) _⟩
theorem pick_end {w W : World} {x : Nat} (HR : IB W (w.heap.size + 2) 27 .u64 [0, 0, 0, 0]) (HBL : Below w.heap.size w W) :
  Blk ((((W.setCell ⟨w.heap.size + 2, 0, none⟩ (.int .u64 (lb x 0))).setCell ⟨w.heap.size + 2, 1, none⟩ (.int .u64 (lb x 1))).setCell ⟨w.heap.size + 2, 2, none⟩ (.int .u64 (lb x 2))).setCell ⟨w.heap.size + 2, 3, none⟩ (.int .u64 (lb x 3))) (w.heap.size + 2) 27 (natC x) ∧
  Below w.heap.size w ((((W.setCell ⟨w.heap.size + 2, 0, none⟩ (.int .u64 (lb x 0))).setCell ⟨w.heap.size + 2, 1, none⟩ (.int .u64 (lb x 1))).setCell ⟨w.heap.size + 2, 2, none⟩ (.int .u64 (lb x 2))).setCell ⟨w.heap.size + 2, 3, none⟩ (.int .u64 (lb x 3))) := by
 have hfin : Blk _ (w.heap.size + 2) 27 (natC x) := (((HR.set 0 (lb x 0)).set 1 (lb x 1)).set 2 (lb x 2)).set 3 (lb x 3)
 have hbf := (((HBL.setCell (p := ⟨w.heap.size + 2, 0, none⟩) (by simp) (.int .u64 (lb x 0))).setCell (p := ⟨w.heap.size + 2, 1, none⟩) (by simp) (.int .u64 (lb x 1))).setCell (p := ⟨w.heap.size + 2, 2, none⟩) (by simp) (.int .u64 (lb x 2))).setCell (p := ⟨w.heap.size + 2, 3, none⟩) (by simp) (.int .u64 (lb x 3))
 exact ⟨hfin, hbf⟩
set_option maxRecDepth 100000 in
set_option maxHeartbeats 2000000 in
theorem limbPick_any (c : Bool) (x y : Nat) (w : World) :
  Calls Tryz.prog 99 #[.bool c, nat4 x, nat4 y] w (RetV w (nat4 (if c then x else y))) := by
 obtain ⟨s0, s1, s2, s3⟩ := pick_start x y w
 have S := Lib.hid (show _ ∧ _ ∧ _ ∧ _ from ⟨s0, s1, s2, s3⟩)
 clear s0 s1 s2 s3
 cases c with
 | true =>
  have hm : bits .xor .u64 IntKind.u64.max 0 = 18446744073709551615 := by kernel_rfl
  go_enter Tryz.func99, Tryz.ntmps99
  go_wp2
  go_loopw [12] (fun i wr => ∃ k : Nat, k ≤ 4 ∧ i = .int .i64 k ∧ IB wr w.heap.size 27 .u64 (lbs x) ∧ IB wr (w.heap.size + 1) 27 .u64 (lbs y) ∧ IB wr (w.heap.size + 2) 27 .u64 [0, 0, 0, 0] ∧ Below w.heap.size w wr) (fun i _ => 4 - (intOf i).toNat)
  case atStart => exact ⟨0, by omega, rfl, S.out.1, S.out.2.1, S.out.2.2.1, S.out.2.2.2⟩
  case round =>
   obtain ⟨k, hk, rfl, hA, hB, hr, hbel⟩ := hrel
   by_cases hlt : k < 4
   ·have q1 := hA.cell (i := k) (by simpa using hlt)
    have q2 := hB.cell (i := k) (by simpa using hlt)
    rw [lbs_getD _ hlt] at q1 q2
    have q4 := hA.frozen k
    have f1 := and_ones (lb_nn x k) (lb_lt x k)
    have f2 := andNot_ones (lb_nn y k) (lb_lt y k)
    have f3 := or_zero (lb_nn x k) (lb_lt x k)
    have HA := Lib.hid hA; have HB := Lib.hid hB; have HR := Lib.hid hr; have HBL := Lib.hid hbel
    clear hA hB hr hbel S
    have d1 : decide ((k : Int) < 4) = true := by simp; omega
    have i1 : (k : Int) < 4 := by omega
    go_wp2
    go_region
    go_wp2
    go_roundw
    case rel =>
     have hs := HA.out.set k (lb x k)
     rw [lbs_set x hlt] at hs
     exact ⟨k + 1, by omega, by go_num, hs.drew, (HB.out.far (p := ⟨w.heap.size, k, none⟩) (by simp) _).drew, (HR.out.far (p := ⟨w.heap.size, k, none⟩) (by simp) _).drew, (HBL.out.setCell (p := ⟨w.heap.size, k, none⟩) (by simp) _).drew⟩
    case measure => simp [intOf]; omega
   ·have h4 : k = 4 := by omega
    subst h4
    have d1 : decide (((4 : Nat) : Int) < 4) = false := by decide
    have q0 := hA.cell (i := 0) (by simp)
    have q1 := hA.cell (i := 1) (by simp)
    have q2 := hA.cell (i := 2) (by simp)
    have q3 := hA.cell (i := 3) (by simp)
    simp only [List.getD_cons_zero, List.getD_cons_succ] at q0 q1 q2 q3
    have p0 := hr.cell (i := 0) (by simp)
    have p1 := hr.cell (i := 1) (by simp)
    have p2 := hr.cell (i := 2) (by simp)
    have p3 := hr.cell (i := 3) (by simp)
    have pf := hr.frozen
    have HF := Lib.hid (pick_end (x := x) hr hbel)
    clear hA hB hr hbel S
    go_wp2
    exact bodyPost_ret (results_blk (d := .array 4 25) Tryz.results99 rfl HF.out.1 rfl Tryz.underlying27 (by kernel_rfl)) rfl ⟨rfl, HF.out.2⟩
 | false =>
  go_enter Tryz.func99, Tryz.ntmps99
  go_wp2
  go_loopw [12] (fun i wr => ∃ k : Nat, k ≤ 4 ∧ i = .int .i64 k ∧ IB wr w.heap.size 27 .u64 (lP x y k) ∧ IB wr (w.heap.size + 1) 27 .u64 (lbs y) ∧ IB wr (w.heap.size + 2) 27 .u64 [0, 0, 0, 0] ∧ Below w.heap.size w wr) (fun i _ => 4 - (intOf i).toNat)
  case atStart => exact ⟨0, by omega, rfl, S.out.1, S.out.2.1, S.out.2.2.1, S.out.2.2.2⟩
  case round =>
   obtain ⟨k, hk, rfl, hA, hB, hr, hbel⟩ := hrel
   by_cases hlt : k < 4
   ·have q1 := hA.cell (i := k) (by simpa [lP] using hlt)
    have q2 := hB.cell (i := k) (by simpa using hlt)
    rw [lbs_getD _ hlt] at q2
    rw [lP_getD _ _ hlt] at q1
    have q4 := hA.frozen k
    have f1 := and_zero (lb_nn x k) (lb_lt x k)
    have f2 := andNot_zero (lb_nn y k) (lb_lt y k)
    have f3 := zero_or (lb_nn y k) (lb_lt y k)
    have HA := Lib.hid hA; have HB := Lib.hid hB; have HR := Lib.hid hr; have HBL := Lib.hid hbel
    clear hA hB hr hbel S
    have d1 : decide ((k : Int) < 4) = true := by simp; omega
    have i1 : (k : Int) < 4 := by omega
    go_wp2
    go_region
    go_wp2
    go_roundw
    case rel =>
     have hs := HA.out.set k (lb y k)
     rw [lP_set x y hlt] at hs
     exact ⟨k + 1, by omega, by go_num, hs.drew, (HB.out.far (p := ⟨w.heap.size, k, none⟩) (by simp) _).drew, (HR.out.far (p := ⟨w.heap.size, k, none⟩) (by simp) _).drew, (HBL.out.setCell (p := ⟨w.heap.size, k, none⟩) (by simp) _).drew⟩
    case measure => simp [intOf]; omega
   ·have h4 : k = 4 := by omega
    subst h4
    have d1 : decide (((4 : Nat) : Int) < 4) = false := by decide
    have hA : IB wr w.heap.size 27 .u64 (lbs y) := hA
    have q0 := hA.cell (i := 0) (by simp)
    have q1 := hA.cell (i := 1) (by simp)
    have q2 := hA.cell (i := 2) (by simp)
    have q3 := hA.cell (i := 3) (by simp)
    simp only [List.getD_cons_zero, List.getD_cons_succ] at q0 q1 q2 q3
    have p0 := hr.cell (i := 0) (by simp)
    have p1 := hr.cell (i := 1) (by simp)
    have p2 := hr.cell (i := 2) (by simp)
    have p3 := hr.cell (i := 3) (by simp)
    have pf := hr.frozen
    have HF := Lib.hid (pick_end (x := y) hr hbel)
    clear hA hB hr hbel S
    go_wp2
    exact bodyPost_ret (results_blk (d := .array 4 25) Tryz.results99 rfl HF.out.1 rfl Tryz.underlying27 (by kernel_rfl)) rfl ⟨rfl, HF.out.2⟩
theorem mod_shift (a j : Nat) (hj : j < 64) : a % 18446744073709551616 / 2 ^ j % 2 = a / 2 ^ j % 2 := by
 have e := Nat.mod_mul_right_div_self a (2 ^ j) (2 ^ (64 - j))
 rw [← Nat.pow_add, show j + (64 - j) = 64 by omega] at e
 rw [show (18446744073709551616 : Nat) = 2 ^ 64 from rfl, e]
 obtain ⟨d, hd⟩ : ∃ d, 64 - j = d + 1 := ⟨63 - j, by omega⟩
 rw [hd, Nat.pow_succ, Nat.mul_comm, Nat.mod_mul_right_mod]
theorem lb_bit (x i : Nat) : lb x (i / 64) / 2 ^ (i % 64) % 2 = ((x / 2 ^ i % 2 : Nat) : Int) := by
 unfold lb
 have h := mod_shift (x / 2 ^ (64 * (i / 64))) (i % 64) (Nat.mod_lt _ (by decide))
 rw [Nat.div_div_eq_div_mul, ← Nat.pow_add, show 64 * (i / 64) + i % 64 = i by omega] at h
 rw [← h]
 simp
theorem and_one {a : Int} (h0 : 0 ≤ a) (h1 : a < 18446744073709551616) : bits .and .u64 a 1 = a % 2 := by
 obtain ⟨a, rfl⟩ := Int.eq_ofNat_of_zero_le h0
 have h := bits_and_u64_nat a 1 (by omega) (by omega)
 rw [Nat.and_one_is_mod] at h
 exact h
set_option maxRecDepth 100000 in
set_option maxHeartbeats 1000000 in
theorem limbBit_any (x i : Nat) (w : World) (hi : i ≤ 255) :
  Calls Tryz.prog 50 #[nat4 x, .int .i64 i] w (RetV w (.int .i64 ((x / 2 ^ i % 2 : Nat) : Int))) := by
 have d1 : decide ((i : Int) < 0) = false := by simp
 have d2 : decide ((255 : Int) < i) = false := by simp; omega
 obtain ⟨q, hq⟩ : ∃ q, q = i / 64 := ⟨_, rfl⟩
 obtain ⟨j, hj⟩ : ∃ j, j = i % 64 := ⟨_, rfl⟩
 have t1 : Int.tdiv (i : Int) 64 = (q : Int) := by rw [hq]; rfl
 have t2 : Int.tmod (i : Int) 64 = (j : Int) := by rw [hj]; rfl
 have hq4 : q < 4 := by omega
 have hj64 : j < 64 := by omega
 have hb := lb_bit x i
 rw [← hq, ← hj] at hb
 have HB := Lib.hid hb
 have b0 : 0 ≤ lb x q / 2 ^ j := Int.ediv_nonneg (lb_nn x q) (Int.pow_nonneg (by decide))
 have b1 : lb x q / 2 ^ j < 18446744073709551616 := Int.lt_of_le_of_lt (Int.ediv_le_self _ (lb_nn x q)) (lb_lt x q)
 have f1 := and_one b0 b1
 have i2 : (0 : Int) ≤ j := by omega
 have i3 : (j : Int) ≤ 64 := by omega
 have m2 : 0 ≤ lb x q / 2 ^ j % 2 ∧ lb x q / 2 ^ j % 2 < 2 := by omega
 clear hb hq hj
 have hqs : q = 0 ∨ q = 1 ∨ q = 2 ∨ q = 3 := by omega
 clear hq4
 rcases hqs with rfl | rfl | rfl | rfl
 all_goals
  go_enter Tryz.func50, Tryz.ntmps50
  go_wp2
  go_ret
  exact ⟨by rw [← HB.out]; rfl, (Below.refl _ _).alloc (Nat.le_refl _) _⟩
end Go.Proofs.YtdcganigfihkjaaGreatDoor
/- Contracts of the layer field: more. -/
namespace Go.Proofs.YtdcganigfihkjaaGreatDoor
open Go.RowKit Go.Chr
set_option maxRecDepth 100000 in
set_option maxHeartbeats 1000000 in
theorem mul64N (x y : Nat) (hx : x < 18446744073709551616) (hy : y < 18446744073709551616) (w : World) :
  Calls Tryz.prog 121 #[.int .u64 x, .int .u64 y] w fun e w' => e = .returned (.tuple #[.int .u64 ((x * y / 18446744073709551616 : Nat) : Int), .int .u64 ((x * y % 18446744073709551616 : Nat) : Int)]) ∧ w = w' := by
 obtain ⟨bd, bt, bw, hhi⟩ := Lib.mul64_hi x y hx hy
 have ba := Lib.half_mul_le (a := x / 4294967296) (b := y / 4294967296) (by omega) (by omega)
 have bb := Lib.half_mul_le (a := x / 4294967296) (b := y % 4294967296) (by omega) (by omega)
 have bc := Lib.half_mul_le (a := x % 4294967296) (b := y / 4294967296) (by omega) (by omega)
 have ba' : x / 4294967296 * (y / 4294967296) < 18446744073709551616 := by omega
 have bb' : x / 4294967296 * (y % 4294967296) < 18446744073709551616 := by omega
 have bc' : x % 4294967296 * (y / 4294967296) < 18446744073709551616 := by omega
 have bh1 : x / 4294967296 * (y / 4294967296) + (x / 4294967296 * (y % 4294967296) + x % 4294967296 * (y % 4294967296) / 4294967296) / 4294967296 < 18446744073709551616 := by omega
 have bh : x / 4294967296 * (y / 4294967296) + (x / 4294967296 * (y % 4294967296) + x % 4294967296 * (y % 4294967296) / 4294967296) / 4294967296 + ((x / 4294967296 * (y % 4294967296) + x % 4294967296 * (y % 4294967296) / 4294967296) % 4294967296 + x % 4294967296 * (y / 4294967296)) / 4294967296 < 18446744073709551616 := by omega
 go_enter Tryz.func121, Tryz.ntmps121
 go_wp2
 simp only [Mul64.maskN x hx, Mul64.maskN y hy, Mul64.divN, Mul64.mulN, Mul64.addN, Mul64.wrapN _ bd, Mul64.wrapN _ bb', Mul64.wrapN _ bt, Mul64.maskN _ bt, Mul64.wrapN _ bc', Mul64.wrapN _ bw, Mul64.wrapN _ ba', Mul64.wrapN _ bh1, Mul64.wrapN _ bh, Mul64.wrapM (x * y)]
 rw [hhi]
 go_ret2
 exact ⟨rfl, rfl⟩
theorem mul64 (x y : Int) (h0 : 0 ≤ x) (h1 : x < 18446744073709551616) (k0 : 0 ≤ y) (k1 : y < 18446744073709551616) (w : World) :
  Calls Tryz.prog 121 #[.int .u64 x, .int .u64 y] w fun e w' => e = .returned (.tuple #[.int .u64 (x * y / 18446744073709551616), .int .u64 (x * y % 18446744073709551616)]) ∧ w = w' := by
 obtain ⟨x, rfl⟩ := Int.eq_ofNat_of_zero_le h0
 obtain ⟨y, rfl⟩ := Int.eq_ofNat_of_zero_le k0
 refine (mul64N x y (by omega) (by omega) w).mono ?_
 rintro e w' ⟨rfl, rfl⟩
 exact ⟨by simp, rfl⟩
theorem more_lo {p s c B : Int} : (p + s + c) % B = (s + p + c) % B := by
 congr 1; omega
theorem more_hi {p s c : Int} (p0 : 0 ≤ p) (s0 : 0 ≤ s) (s1 : s < 18446744073709551616) (c0 : 0 ≤ c) (c1 : c < 18446744073709551616) (hp : p ≤ 340282366920938463426481119284349108225) :
  p / 18446744073709551616 + (p % 18446744073709551616 + s) / 18446744073709551616 + ((p + s) % 18446744073709551616 + c) / 18446744073709551616 = (s + p + c) / 18446744073709551616 ∧
  (s + p + c) / 18446744073709551616 < 18446744073709551616 := by omega
theorem prod_le {a b : Int} (a0 : 0 ≤ a) (a1 : a < 18446744073709551616) (b0 : 0 ≤ b) (b1 : b < 18446744073709551616) : 0 ≤ a * b ∧ a * b ≤ 340282366920938463426481119284349108225 := by
 refine ⟨Int.mul_nonneg a0 b0, ?_⟩
 have := Int.mul_le_mul (show a ≤ 18446744073709551615 by omega) (show b ≤ 18446744073709551615 by omega) b0 (by omega)
 omega
set_option maxRecDepth 100000 in
set_option maxHeartbeats 1000000 in
theorem more_any (s a b c : Int) (s0 : 0 ≤ s) (s1 : s < 18446744073709551616) (a0 : 0 ≤ a) (a1 : a < 18446744073709551616) (b0 : 0 ≤ b) (b1 : b < 18446744073709551616) (c0 : 0 ≤ c) (c1 : c < 18446744073709551616) (w : World) :
  Calls Tryz.prog 108 #[.int .u64 s, .int .u64 a, .int .u64 b, .int .u64 c] w fun e w' => e = .returned (.tuple #[.int .u64 ((s + a * b + c) % 18446744073709551616), .int .u64 ((s + a * b + c) / 18446744073709551616)]) ∧ w = w' := by
 obtain ⟨p0, p1⟩ := prod_le a0 a1 b0 b1
 obtain ⟨p, hp⟩ : ∃ p, p = a * b := ⟨_, rfl⟩
 have hm := mul64 a b a0 a1 b0 b1
 rw [← hp] at hm p0 p1 ⊢
 have h1 := fun W => add64 (p % 18446744073709551616) s 0 (by omega) (by omega) s0 s1 (by omega) (by omega) W
 have h2 := fun W => add64 ((p + s) % 18446744073709551616) c 0 (by omega) (by omega) c0 c1 (by omega) (by omega) W
 simp only [Int.add_zero] at h1 h2
 obtain ⟨e1, e2⟩ := more_hi p0 s0 s1 c0 c1 p1
 have e3 := more_lo (p := p) (s := s) (c := c) (B := 18446744073709551616)
 have E3 := Lib.hid e3; have E1 := Lib.hid e1
 clear e1 e2 e3 hp
 go_enter Tryz.func108, Tryz.ntmps108
 go_wp2_with (first | (go_at_call 121; refine (hm _).mono ?_; rintro e w' ⟨rfl, rfl⟩) | simp only [h1] | simp only [h2])
 go_ret2
 exact ⟨by rw [← E3.out, ← E1.out]; rfl, rfl⟩
end Go.Proofs.YtdcganigfihkjaaGreatDoor
/- Contracts of the layer field: fold, add, sub. -/
namespace Go.Proofs.YtdcganigfihkjaaGreatDoor
open Go.RowKit Go.Chr
abbrev modC (m s : Nat) (v : Int) : Array Value := #[.int .u64 (lb m 0), .int .u64 (lb m 1), .int .u64 (lb m 2), .int .u64 (lb m 3), .int .u64 (lb s 0), .int .u64 (lb s 1), .int .u64 (lb s 2), .int .u64 (lb s 3), .int .u64 v]
theorem nat4_congr {x y : Nat} (h : x % 115792089237316195423570985008687907853269984665640564039457584007913129639936 = y % 115792089237316195423570985008687907853269984665640564039457584007913129639936) : nat4 x = nat4 y := by
 unfold nat4
 rw [lb_congrK h (i := 0) (by omega), lb_congrK h (i := 1) (by omega), lb_congrK h (i := 2) (by omega), lb_congrK h (i := 3) (by omega)]
def intV : Value → Int
 | .int _ n => n
 | _ => 0
def numAt (w : World) (g : Nat) : Nat :=
 (intV ((w.cell? ⟨g, 0, none⟩).getD undef) + 18446744073709551616 * intV ((w.cell? ⟨g, 1, none⟩).getD undef) + 340282366920938463463374607431768211456 * intV ((w.cell? ⟨g, 2, none⟩).getD undef) + 6277101735386680763835789423207666416102355444464034512896 * intV ((w.cell? ⟨g, 3, none⟩).getD undef)).toNat
theorem blk_c4 {w : World} {g : Nat} {t : TypeId} {c0 c1 c2 c3 : Value} (h : Blk w g t #[c0, c1, c2, c3]) : w.cell? ⟨g, 0, none⟩ = some c0 ∧ w.cell? ⟨g, 1, none⟩ = some c1 ∧ w.cell? ⟨g, 2, none⟩ = some c2 ∧ w.cell? ⟨g, 3, none⟩ = some c3 := by
 refine ⟨?_, ?_, ?_, ?_⟩ <;> rw [h.cell] <;> rfl
theorem numAt_blk {w : World} {g : Nat} {x : Nat} (h : Blk w g 27 (natC x)) (hx : x < 115792089237316195423570985008687907853269984665640564039457584007913129639936) : numAt w g = x := by
 obtain ⟨h0, h1, h2, h3⟩ := blk_c4 h
 unfold numAt
 rw [h0, h1, h2, h3]
 have := num_digits hx
 simp only [Option.getD_some, intV]
 rw [← this]
 rfl
theorem blk_c9 {w : World} {g : Nat} {t : TypeId} {c0 c1 c2 c3 c4 c5 c6 c7 c8 : Value} (h : Blk w g t #[c0, c1, c2, c3, c4, c5, c6, c7, c8]) :
  (w.cell? ⟨g, 0, none⟩ = some c0 ∧ w.cell? ⟨g, 1, none⟩ = some c1 ∧ w.cell? ⟨g, 2, none⟩ = some c2 ∧ w.cell? ⟨g, 3, none⟩ = some c3) ∧
  (w.cell? ⟨g, 4, none⟩ = some c4 ∧ w.cell? ⟨g, 5, none⟩ = some c5 ∧ w.cell? ⟨g, 6, none⟩ = some c6 ∧ w.cell? ⟨g, 7, none⟩ = some c7) ∧ w.cell? ⟨g, 8, none⟩ = some c8 := by
 refine ⟨⟨?_, ?_, ?_, ?_⟩, ⟨?_, ?_, ?_, ?_⟩, ?_⟩ <;> rw [h.cell] <;> rfl
theorem cmp_ge (c m : Nat) : decide ((0 : Int) ≤ cmpN c m) = decide (m ≤ c) := by
 unfold cmpN
 by_cases h : c < m
 ·rw [if_pos h]; simp; omega
 ·by_cases h2 : m < c
  ·rw [if_neg h, if_pos h2]; simp; omega
  ·rw [if_neg h, if_neg h2]; simp; omega
theorem set_nat {W : World} {g : Nat} {cs : Array Value} (h : Blk W g 27 cs) (hs : cs.size = 4) (x : Nat) :
  Blk ((((W.setCell ⟨g, 0, none⟩ (.int .u64 (lb x 0))).setCell ⟨g, 1, none⟩ (.int .u64 (lb x 1))).setCell ⟨g, 2, none⟩ (.int .u64 (lb x 2))).setCell ⟨g, 3, none⟩ (.int .u64 (lb x 3))) g 27 (natC x) ∧
  W.grownBy ((((W.setCell ⟨g, 0, none⟩ (.int .u64 (lb x 0))).setCell ⟨g, 1, none⟩ (.int .u64 (lb x 1))).setCell ⟨g, 2, none⟩ (.int .u64 (lb x 2))).setCell ⟨g, 3, none⟩ (.int .u64 (lb x 3))) (some g) := by
 obtain ⟨l⟩ := cs
 rcases l with _ | ⟨c0, _ | ⟨c1, _ | ⟨c2, _ | ⟨c3, _ | ⟨c4, l⟩⟩⟩⟩⟩ <;> simp at hs
 exact ⟨(((h.set_ 0 (.int .u64 (lb x 0))).set_ 1 (.int .u64 (lb x 1))).set_ 2 (.int .u64 (lb x 2))).set_ 3 (.int .u64 (lb x 3)),
  gb_set (p := ⟨g, 3, none⟩) (gb_set (p := ⟨g, 2, none⟩) (gb_set (p := ⟨g, 1, none⟩) (gb_set (p := ⟨g, 0, none⟩) (World.grownBy.refl W _) rfl _) rfl _) rfl _) rfl _⟩
theorem fold_start (m s : Nat) (v : Int) (x : Nat) (w : World) :
  let W := ((w.alloc (.cells (modC m s v) 68)).alloc (.cells (natC x) 27)).alloc (.cells #[.int .u64 0, .int .u64 0, .int .u64 0, .int .u64 0] 27)
  Blk W w.heap.size 68 (modC m s v) ∧ Blk W (w.heap.size + 1) 27 (natC x) ∧ Blk W (w.heap.size + 2) 27 #[.int .u64 0, .int .u64 0, .int .u64 0, .int .u64 0] ∧ Below w.heap.size w W := by
 have h0 := ((Blk.new w 68 (modC m s v)).alloc (.cells (natC x) 27)).alloc (.cells #[.int .u64 0, .int .u64 0, .int .u64 0, .int .u64 0] 27)
 have h1 := (Blk.new (w.alloc (.cells (modC m s v) 68)) 27 (natC x)).alloc (.cells #[.int .u64 0, .int .u64 0, .int .u64 0, .int .u64 0] 27)
 have h2 := (Blk.new ((w.alloc (.cells (modC m s v) 68)).alloc (.cells (natC x) 27)) 27 #[.int .u64 0, .int .u64 0, .int .u64 0, .int .u64 0])
 rw [World.size_alloc] at h1
 rw [World.size_alloc, World.size_alloc] at h2
 exact ⟨h0, h1, h2, (((Below.refl _ _).alloc (Nat.le_refl _) _).alloc (by simp) _).alloc (by simp; omega) _⟩
set_option maxRecDepth 100000 in
set_option maxHeartbeats 2000000 in
theorem fold_any (m s : Nat) (v : Int) (x : Nat) (w : World) (hm : 0 < m) (hmK : m < 115792089237316195423570985008687907853269984665640564039457584007913129639936) (hx : x < 115792089237316195423570985008687907853269984665640564039457584007913129639936) :
  Calls Tryz.prog 47 #[.agg (modC m s v), nat4 x] w (RetV w (nat4 (x % m))) := by
 have HM := Lib.hid hm; have HMK := Lib.hid hmK; have HX := Lib.hid hx
 clear hm hmK hx
 have S := Lib.hid (fold_start m s v x w)
 go_enter Tryz.func47, Tryz.ntmps47
 go_wp2
 go_loopw [9] (fun _ wr => ∃ c : Nat, c < 115792089237316195423570985008687907853269984665640564039457584007913129639936 ∧ c % m = x % m ∧ Blk wr w.heap.size 68 (modC m s v) ∧ Blk wr (w.heap.size + 1) 27 (natC c) ∧ Blk wr (w.heap.size + 2) 27 #[.int .u64 0, .int .u64 0, .int .u64 0, .int .u64 0] ∧ Below w.heap.size w wr) (fun _ wr => numAt wr (w.heap.size + 1))
 case atStart => exact ⟨x, HX.out, rfl, S.out.1, S.out.2.1, S.out.2.2.1, S.out.2.2.2⟩
 case round =>
  obtain ⟨c, hc, hcm, hA, hB, hr, hbel⟩ := hrel
  have hnum := numAt_blk hB hc
  obtain ⟨⟨a0, a1, a2, a3⟩, -⟩ := blk_c9 hA
  obtain ⟨b0, b1, b2, b3⟩ := blk_c4 hB
  have HC := Lib.hid hc; have HCM := Lib.hid hcm; have HA := Lib.hid hA; have HB := Lib.hid hB; have HR := Lib.hid hr; have HBL := Lib.hid hbel; have HN := Lib.hid hnum
  clear hc hcm hA hB hr hbel hnum S
  go_wp2_with fail
  refine (limbCmp_any c m wr HC.out HMK.out).mono ?_
  rintro e w1 ⟨rfl, hb1⟩
  have hA1 := HA.out.below hb1 HA.out.lt
  have hB1 := HB.out.below hb1 HB.out.lt
  have hr1 := HR.out.below hb1 HR.out.lt
  have hbl1 := HBL.out.trans (hb1.mono HBL.out.size)
  obtain ⟨⟨a0, a1, a2, a3⟩, -⟩ := blk_c9 hA1
  obtain ⟨b0, b1, b2, b3⟩ := blk_c4 hB1
  have HA1 := Lib.hid hA1; have HB1 := Lib.hid hB1; have HR1 := Lib.hid hr1; have HBL1 := Lib.hid hbl1
  have hge := cmp_ge c m
  clear hA1 hB1 hr1 hbl1 hb1
  by_cases hle : m ≤ c
  ·have hd : decide ((0 : Int) ≤ cmpN c m) = true := by rw [hge]; simpa using hle
   have HLE := Lib.hid hle
   clear hge hle
   go_wp2_with fail
   refine (limbSub_any c m w1 HC.out HMK.out).mono ?_
   rintro e w2 ⟨rfl, hb2⟩
   rw [nat4_congr (wrap_le HLE.out)]
   have hA2 := HA1.out.below hb2 HA1.out.lt
   have hB2 := HB1.out.below hb2 HB1.out.lt
   have hr2 := HR1.out.below hb2 HR1.out.lt
   have hbl2 := HBL1.out.trans (hb2.mono HBL1.out.size)
   obtain ⟨b0, b1, b2, b3⟩ := blk_c4 hB2
   have bf := hB2.frozen
   have HA2 := Lib.hid hA2; have HB2 := Lib.hid hB2; have HR2 := Lib.hid hr2; have HBL2 := Lib.hid hbl2
   clear hA2 hB2 hr2 hbl2 hb2
   obtain ⟨d, hd⟩ : ∃ d, d = c - m := ⟨_, rfl⟩
   rw [← hd]
   have HD := Lib.hid hd
   clear hd
   go_wp2
   go_roundw
   case rel =>
    obtain ⟨k1, k2⟩ := set_nat HB2.out rfl d
    have hm' := HM.out
    have hle' := HLE.out
    have hc' := HC.out
    refine ⟨d, by rw [HD.out]; omega, ?_, HA2.out.grown k2 (by simp), k1, HR2.out.grown k2 (by simp), HBL2.out.trans (gb_to_below k2 HBL2.out.size (fun k e => by injection e; omega))⟩
    rw [← HCM.out, HD.out]
    exact (Nat.mod_eq_sub_mod hle').symm
   case measure =>
    obtain ⟨k1, k2⟩ := set_nat HB2.out rfl d
    have hm' := HM.out
    have hle' := HLE.out
    have hc' := HC.out
    have hn := HN.out
    have hn2 := numAt_blk k1 (by rw [HD.out]; omega)
    rw [hn2, hn, HD.out]
    omega
  ·have hd : decide ((0 : Int) ≤ cmpN c m) = false := by rw [hge]; simpa using hle
   have hcx : c = x % m := by rw [← HCM.out, Nat.mod_eq_of_lt (by omega)]
   have HCX := Lib.hid hcx
   obtain ⟨r0, r1, r2, r3⟩ := blk_c4 HR1.out
   have rf := HR1.out.frozen
   clear hge hle hcx
   go_wp2
   obtain ⟨k1, k2⟩ := set_nat HR1.out rfl c
   exact bodyPost_ret (results_blk (d := .array 4 25) Tryz.results47 rfl k1 rfl Tryz.underlying27 (by kernel_rfl)) rfl ⟨by rw [HCX.out], HBL1.out.trans (gb_to_below k2 HBL1.out.size (fun k e => by injection e; omega))⟩
theorem add_start (m s : Nat) (v : Int) (a b : Nat) (w : World) :
  let W := (((w.alloc (.cells (modC m s v) 68)).alloc (.cells (natC a) 27)).alloc (.cells (natC b) 27)).alloc (.cells #[.int .u64 0, .int .u64 0, .int .u64 0, .int .u64 0] 27)
  Blk W w.heap.size 68 (modC m s v) ∧ Blk W (w.heap.size + 1) 27 (natC a) ∧ Blk W (w.heap.size + 2) 27 (natC b) ∧ Blk W (w.heap.size + 3) 27 #[.int .u64 0, .int .u64 0, .int .u64 0, .int .u64 0] ∧ Below w.heap.size w W := by
 have h0 := (((Blk.new w 68 (modC m s v)).alloc (.cells (natC a) 27)).alloc (.cells (natC b) 27)).alloc (.cells #[.int .u64 0, .int .u64 0, .int .u64 0, .int .u64 0] 27)
 have h1 := ((Blk.new (w.alloc (.cells (modC m s v) 68)) 27 (natC a)).alloc (.cells (natC b) 27)).alloc (.cells #[.int .u64 0, .int .u64 0, .int .u64 0, .int .u64 0] 27)
 have h2 := (Blk.new ((w.alloc (.cells (modC m s v) 68)).alloc (.cells (natC a) 27)) 27 (natC b)).alloc (.cells #[.int .u64 0, .int .u64 0, .int .u64 0, .int .u64 0] 27)
 have h3 := Blk.new (((w.alloc (.cells (modC m s v) 68)).alloc (.cells (natC a) 27)).alloc (.cells (natC b) 27)) 27 #[.int .u64 0, .int .u64 0, .int .u64 0, .int .u64 0]
 rw [World.size_alloc] at h1
 rw [World.size_alloc, World.size_alloc] at h2
 rw [World.size_alloc, World.size_alloc, World.size_alloc] at h3
 exact ⟨h0, h1, h2, h3, ((((Below.refl _ _).alloc (Nat.le_refl _) _).alloc (by simp) _).alloc (by simp; omega) _).alloc (by simp; omega) _⟩
theorem add_val {m a b S : Nat} (ha : a < m) (hb : b < m) (hmK : m < 115792089237316195423570985008687907853269984665640564039457584007913129639936) (hS : S = (a + b) % 115792089237316195423570985008687907853269984665640564039457584007913129639936) :
  nat4 (if (decide (115792089237316195423570985008687907853269984665640564039457584007913129639936 ≤ a + b) || !decide (S < m)) = true then 115792089237316195423570985008687907853269984665640564039457584007913129639936 + S - m else S) = nat4 ((a + b) % m) := by
 refine nat4_congr ?_
 by_cases h1 : 115792089237316195423570985008687907853269984665640564039457584007913129639936 ≤ a + b
 ·have e1 : S = a + b - 115792089237316195423570985008687907853269984665640564039457584007913129639936 := by rw [hS, Nat.mod_eq_sub_mod h1, Nat.mod_eq_of_lt (by omega)]
  have e2 : (a + b) % m = a + b - m := by rw [Nat.mod_eq_sub_mod (by omega), Nat.mod_eq_of_lt (by omega)]
  rw [if_pos (by simp [h1]), e2]
  congr 1
  omega
 ·have e1 : S = a + b := by rw [hS, Nat.mod_eq_of_lt (by omega)]
  by_cases h2 : S < m
  ·rw [if_neg (by simp [h1, h2]), e1, Nat.mod_eq_of_lt (show a + b < m by omega)]
  ·have e2 : (a + b) % m = a + b - m := by rw [Nat.mod_eq_sub_mod (by omega), Nat.mod_eq_of_lt (by omega)]
   rw [if_pos (by simp [h2]), e1, e2]
   exact wrap_le (by omega)
set_option maxRecDepth 100000 in
set_option maxHeartbeats 2000000 in
theorem fadd_any (m s : Nat) (v : Int) (a b : Nat) (w : World) (ha : a < m) (hb : b < m) (hmK : m < 115792089237316195423570985008687907853269984665640564039457584007913129639936) :
  Calls Tryz.prog 61 #[.agg (modC m s v), nat4 a, nat4 b] w (RetV w (nat4 ((a + b) % m))) := by
 obtain ⟨S, hS⟩ : ∃ S, S = (a + b) % 115792089237316195423570985008687907853269984665640564039457584007913129639936 := ⟨_, rfl⟩
 have hval := add_val ha hb hmK hS
 have hSK : S < 115792089237316195423570985008687907853269984665640564039457584007913129639936 := by rw [hS]; exact Nat.mod_lt _ (by decide)
 have hadd := fun W => limbAdd_any a b W (Nat.lt_trans ha hmK) (Nat.lt_trans hb hmK)
 have hcg : nat4 (a + b) = nat4 S := nat4_congr (by rw [hS, Nat.mod_mod])
 simp only [hcg] at hadd
 have hsub := fun W => limbSub_any S m W hSK hmK
 obtain ⟨T, hT⟩ : ∃ T, T = 115792089237316195423570985008687907853269984665640564039457584007913129639936 + S - m := ⟨_, rfl⟩
 rw [← hT] at hval
 simp only [← hT] at hsub
 obtain ⟨ov, hov⟩ : ∃ ov, ov = decide (115792089237316195423570985008687907853269984665640564039457584007913129639936 ≤ a + b) := ⟨_, rfl⟩
 obtain ⟨un, hun⟩ : ∃ un, un = decide (S < m) := ⟨_, rfl⟩
 rw [← hov, ← hun] at hval
 simp only [← hov] at hadd
 simp only [← hun] at hsub
 have HVAL := Lib.hid hval; have HADD := Lib.hid hadd; have HSUB := Lib.hid hsub
 have Sx := Lib.hid (add_start m s v a b w)
 clear hS hval hSK hadd hcg hsub hT hov hun ha hb hmK
 go_enter Tryz.func61, Tryz.ntmps61
 obtain ⟨W0, hW0⟩ : ∃ W0, W0 = (((w.alloc (.cells (modC m s v) 68)).alloc (.cells (natC a) 27)).alloc (.cells (natC b) 27)).alloc (.cells #[.int .u64 0, .int .u64 0, .int .u64 0, .int .u64 0] 27) := ⟨_, rfl⟩
 have z := Sx.out
 simp only [← hW0] at z
 obtain ⟨z0, z1, z2, z3, z4⟩ := z
 have Z0 := Lib.hid z0; have Z3 := Lib.hid z3; have Z4 := Lib.hid z4
 clear Sx z0 z1 z2 z3 z4
 go_wp2_with fail
 rw [← hW0]
 clear hW0
 refine (HADD.out W0).mono ?_
 rintro e w1 ⟨rfl, hb1⟩
 have y0 := Lib.hid (Z0.out.below hb1 Z0.out.lt)
 have y3 := Lib.hid (Z3.out.below hb1 Z3.out.lt)
 have y4 := Lib.hid (Z4.out.trans (hb1.mono Z4.out.size))
 clear hb1 Z0 Z3 Z4 HADD
 obtain ⟨W1, hW1⟩ : ∃ W1, W1 = w1.alloc (.cells (natC S) 27) := ⟨_, rfl⟩
 have x0 := Lib.hid (show Blk W1 w.heap.size 68 (modC m s v) by rw [hW1]; exact y0.out.alloc _)
 have x3 := Lib.hid (show Blk W1 (w.heap.size + 3) 27 #[.int .u64 0, .int .u64 0, .int .u64 0, .int .u64 0] by rw [hW1]; exact y3.out.alloc _)
 have x5 := Lib.hid (show Blk W1 w1.heap.size 27 (natC S) by rw [hW1]; exact Blk.new w1 _ _)
 have x4 := Lib.hid (show Below w.heap.size w W1 by rw [hW1]; exact y4.out.alloc y4.out.size _)
 have l0 := y0.out.lt
 obtain ⟨⟨a0, a1, a2, a3⟩, -⟩ := blk_c9 y0.out
 clear y3 y4
 go_wp2_with fail
 rw [← hW1]
 clear hW1 a0 a1 a2 a3 y0 l0
 refine (HSUB.out W1).mono ?_
 rintro e w2 ⟨rfl, hb2⟩
 have y3 := Lib.hid (x3.out.below hb2 x3.out.lt)
 have y5 := Lib.hid (x5.out.below hb2 x5.out.lt)
 have y4 := Lib.hid (x4.out.trans (hb2.mono x4.out.size))
 clear hb2 x0 x3 x4 x5 HSUB
 obtain ⟨W2, hW2⟩ : ∃ W2, W2 = w2.alloc (.cells (natC T) 27) := ⟨_, rfl⟩
 have x3 := Lib.hid (show Blk W2 (w.heap.size + 3) 27 #[.int .u64 0, .int .u64 0, .int .u64 0, .int .u64 0] by rw [hW2]; exact y3.out.alloc _)
 have x4 := Lib.hid (show Below w.heap.size w W2 by rw [hW2]; exact y4.out.alloc y4.out.size _)
 have l5 := y5.out.lt
 obtain ⟨a0, a1, a2, a3⟩ := blk_c4 y5.out
 clear y3 y4
 cases ov
 all_goals
  go_wp2_with fail
  rw [← hW2]
  clear hW2 a0 a1 a2 a3 y5 l5
  refine (limbPick_any _ T S W2).mono ?_
  rintro e w3 ⟨rfl, hb3⟩
  have y3 := Lib.hid (x3.out.below hb3 x3.out.lt)
  have y4 := Lib.hid (x4.out.trans (hb3.mono x4.out.size))
  clear hb3 x3 x4
  have hv := HVAL.out
  first | rw [show (false || !un) = !un from rfl] at hv | rw [show (true || !un) = true from rfl] at hv
  rw [hv]
  obtain ⟨R, hR⟩ : ∃ R, R = (a + b) % m := ⟨_, rfl⟩
  rw [← hR]
  have HRR := Lib.hid hR
  clear hv hR HVAL
  obtain ⟨c0, c1, c2, c3⟩ := blk_c4 y3.out
  have cf := y3.out.frozen
  go_wp2
  obtain ⟨k1, k2⟩ := set_nat y3.out rfl R
  exact bodyPost_ret (results_blk (d := .array 4 25) Tryz.results61 rfl k1 rfl Tryz.underlying27 (by kernel_rfl)) rfl ⟨by rw [HRR.out], y4.out.trans (gb_to_below k2 y4.out.size (fun k e => by injection e; omega))⟩
theorem sub_val {m a b S : Nat} (ha : a < m) (hb : b < m) (hmK : m < 115792089237316195423570985008687907853269984665640564039457584007913129639936) (hS : S = (115792089237316195423570985008687907853269984665640564039457584007913129639936 + a - b) % 115792089237316195423570985008687907853269984665640564039457584007913129639936) :
  nat4 (if decide (a < b) = true then S + m else S) = nat4 ((m + a - b) % m) := by
 refine nat4_congr ?_
 by_cases h1 : a < b
 ·have e1 : S = 115792089237316195423570985008687907853269984665640564039457584007913129639936 + a - b := by rw [hS, Nat.mod_eq_of_lt (by omega)]
  rw [if_pos (by simpa using h1), Nat.mod_eq_of_lt (show m + a - b < m by omega), e1]
  rw [show 115792089237316195423570985008687907853269984665640564039457584007913129639936 + a - b + m = (m + a - b) + 115792089237316195423570985008687907853269984665640564039457584007913129639936 by omega, Nat.add_mod_right]
 ·have e1 : S = a - b := by rw [hS, show 115792089237316195423570985008687907853269984665640564039457584007913129639936 + a - b = (a - b) + 115792089237316195423570985008687907853269984665640564039457584007913129639936 by omega, Nat.add_mod_right, Nat.mod_eq_of_lt (by omega)]
  have e2 : (m + a - b) % m = a - b := by rw [show m + a - b = (a - b) + m by omega, Nat.add_mod_right, Nat.mod_eq_of_lt (by omega)]
  rw [if_neg (by simpa using h1), e1, e2]
set_option maxRecDepth 100000 in
set_option maxHeartbeats 2000000 in
theorem fsub_any (m s : Nat) (v : Int) (a b : Nat) (w : World) (ha : a < m) (hb : b < m) (hmK : m < 115792089237316195423570985008687907853269984665640564039457584007913129639936) :
  Calls Tryz.prog 119 #[.agg (modC m s v), nat4 a, nat4 b] w (RetV w (nat4 ((m + a - b) % m))) := by
 obtain ⟨S, hS⟩ : ∃ S, S = (115792089237316195423570985008687907853269984665640564039457584007913129639936 + a - b) % 115792089237316195423570985008687907853269984665640564039457584007913129639936 := ⟨_, rfl⟩
 have hval := sub_val ha hb hmK hS
 have hSK : S < 115792089237316195423570985008687907853269984665640564039457584007913129639936 := by rw [hS]; exact Nat.mod_lt _ (by decide)
 have hadd := fun W => limbSub_any a b W (Nat.lt_trans ha hmK) (Nat.lt_trans hb hmK)
 have hcg : nat4 (115792089237316195423570985008687907853269984665640564039457584007913129639936 + a - b) = nat4 S := nat4_congr (by rw [hS, Nat.mod_mod])
 simp only [hcg] at hadd
 have hsub := fun W => limbAdd_any S m W hSK hmK
 obtain ⟨T, hT⟩ : ∃ T, T = S + m := ⟨_, rfl⟩
 rw [← hT] at hval
 simp only [← hT] at hsub
 obtain ⟨un, hun⟩ : ∃ un, un = decide (a < b) := ⟨_, rfl⟩
 obtain ⟨ov, hov⟩ : ∃ ov, ov = decide (115792089237316195423570985008687907853269984665640564039457584007913129639936 ≤ T) := ⟨_, rfl⟩
 rw [← hun] at hval
 simp only [← hun] at hadd
 simp only [← hov] at hsub
 have HVAL := Lib.hid hval; have HADD := Lib.hid hadd; have HSUB := Lib.hid hsub
 have Sx := Lib.hid (add_start m s v a b w)
 clear hS hval hSK hadd hcg hsub hT hov hun ha hb hmK
 go_enter Tryz.func119, Tryz.ntmps119
 obtain ⟨W0, hW0⟩ : ∃ W0, W0 = (((w.alloc (.cells (modC m s v) 68)).alloc (.cells (natC a) 27)).alloc (.cells (natC b) 27)).alloc (.cells #[.int .u64 0, .int .u64 0, .int .u64 0, .int .u64 0] 27) := ⟨_, rfl⟩
 have z := Sx.out
 simp only [← hW0] at z
 obtain ⟨z0, z1, z2, z3, z4⟩ := z
 have Z0 := Lib.hid z0; have Z3 := Lib.hid z3; have Z4 := Lib.hid z4
 clear Sx z0 z1 z2 z3 z4
 go_wp2_with fail
 rw [← hW0]
 clear hW0
 refine (HADD.out W0).mono ?_
 rintro e w1 ⟨rfl, hb1⟩
 have y0 := Lib.hid (Z0.out.below hb1 Z0.out.lt)
 have y3 := Lib.hid (Z3.out.below hb1 Z3.out.lt)
 have y4 := Lib.hid (Z4.out.trans (hb1.mono Z4.out.size))
 clear hb1 Z0 Z3 Z4 HADD
 obtain ⟨W1, hW1⟩ : ∃ W1, W1 = w1.alloc (.cells (natC S) 27) := ⟨_, rfl⟩
 have x0 := Lib.hid (show Blk W1 w.heap.size 68 (modC m s v) by rw [hW1]; exact y0.out.alloc _)
 have x3 := Lib.hid (show Blk W1 (w.heap.size + 3) 27 #[.int .u64 0, .int .u64 0, .int .u64 0, .int .u64 0] by rw [hW1]; exact y3.out.alloc _)
 have x5 := Lib.hid (show Blk W1 w1.heap.size 27 (natC S) by rw [hW1]; exact Blk.new w1 _ _)
 have x4 := Lib.hid (show Below w.heap.size w W1 by rw [hW1]; exact y4.out.alloc y4.out.size _)
 have l0 := y0.out.lt
 obtain ⟨⟨a0, a1, a2, a3⟩, -⟩ := blk_c9 y0.out
 clear y3 y4
 go_wp2_with fail
 rw [← hW1]
 clear hW1 a0 a1 a2 a3 y0 l0
 refine (HSUB.out W1).mono ?_
 rintro e w2 ⟨rfl, hb2⟩
 have y3 := Lib.hid (x3.out.below hb2 x3.out.lt)
 have y5 := Lib.hid (x5.out.below hb2 x5.out.lt)
 have y4 := Lib.hid (x4.out.trans (hb2.mono x4.out.size))
 clear hb2 x0 x3 x4 x5 HSUB
 obtain ⟨W2, hW2⟩ : ∃ W2, W2 = w2.alloc (.cells (natC T) 27) := ⟨_, rfl⟩
 have x3 := Lib.hid (show Blk W2 (w.heap.size + 3) 27 #[.int .u64 0, .int .u64 0, .int .u64 0, .int .u64 0] by rw [hW2]; exact y3.out.alloc _)
 have x4 := Lib.hid (show Below w.heap.size w W2 by rw [hW2]; exact y4.out.alloc y4.out.size _)
 have l5 := y5.out.lt
 obtain ⟨a0, a1, a2, a3⟩ := blk_c4 y5.out
 clear y3 y4
 cases un
 all_goals
  go_wp2_with fail
  rw [← hW2]
  clear hW2 a0 a1 a2 a3 y5 l5
  refine (limbPick_any _ T S W2).mono ?_
  rintro e w3 ⟨rfl, hb3⟩
  have y3 := Lib.hid (x3.out.below hb3 x3.out.lt)
  have y4 := Lib.hid (x4.out.trans (hb3.mono x4.out.size))
  clear hb3 x3 x4
  first
  | (have hv : nat4 (if true = true then T else S) = nat4 ((m + a - b) % m) := HVAL.out; rw [hv]; clear hv)
  | (have hv : nat4 (if false = true then T else S) = nat4 ((m + a - b) % m) := HVAL.out; rw [hv]; clear hv)
  obtain ⟨R, hR⟩ : ∃ R, R = (m + a - b) % m := ⟨_, rfl⟩
  rw [← hR]
  have HRR := Lib.hid hR
  clear hR HVAL
  obtain ⟨c0, c1, c2, c3⟩ := blk_c4 y3.out
  have cf := y3.out.frozen
  go_wp2
  obtain ⟨k1, k2⟩ := set_nat y3.out rfl R
  exact bodyPost_ret (results_blk (d := .array 4 25) Tryz.results119 rfl k1 rfl Tryz.underlying27 (by kernel_rfl)) rfl ⟨by rw [HRR.out], y4.out.trans (gb_to_below k2 y4.out.size (fun k e => by injection e; omega))⟩
end Go.Proofs.YtdcganigfihkjaaGreatDoor
/- Montgomery's product: plain arithmetic. -/
namespace Go.Chr
def mc (T b : Nat) (y : Int) : Nat → Int
 | 0 => 0
 | i + 1 => (lb T i + y * lb b i + mc T b y i) / 18446744073709551616
def ms (T b : Nat) (y : Int) (i : Nat) : Int := (lb T i + y * lb b i + mc T b y i) % 18446744073709551616
def nc (T b m : Nat) (y q : Int) : Nat → Int
 | 0 => 0
 | i + 1 => (ms T b y i + q * lb m i + nc T b m y q i) / 18446744073709551616
def ns (T b m : Nat) (y q : Int) (i : Nat) : Int := (ms T b y i + q * lb m i + nc T b m y q i) % 18446744073709551616
theorem prod_bd {a b : Int} (a0 : 0 ≤ a) (a1 : a < 18446744073709551616) (b0 : 0 ≤ b) (b1 : b < 18446744073709551616) : 0 ≤ a * b ∧ a * b ≤ 340282366920938463426481119284349108225 := by
 refine ⟨Int.mul_nonneg a0 b0, ?_⟩
 have := Int.mul_le_mul (show a ≤ 18446744073709551615 by omega) (show b ≤ 18446744073709551615 by omega) b0 (by omega)
 omega
theorem carry_bd {s p c : Int} (s0 : 0 ≤ s) (s1 : s < 18446744073709551616) (p0 : 0 ≤ p) (p1 : p ≤ 340282366920938463426481119284349108225) (c0 : 0 ≤ c) (c1 : c < 18446744073709551616) :
  0 ≤ (s + p + c) / 18446744073709551616 ∧ (s + p + c) / 18446744073709551616 < 18446744073709551616 := by omega
theorem mod_bd (s : Int) : 0 ≤ s % 18446744073709551616 ∧ s % 18446744073709551616 < 18446744073709551616 := by omega
theorem mc_bd (T b : Nat) {y : Int} (y0 : 0 ≤ y) (y1 : y < 18446744073709551616) (i : Nat) : 0 ≤ mc T b y i ∧ mc T b y i < 18446744073709551616 := by
 induction i with
 | zero => simp [mc]
 | succ i ih =>
  obtain ⟨p0, p1⟩ := prod_bd y0 y1 (lb_nn b i) (lb_lt b i)
  exact carry_bd (lb_nn T i) (lb_lt T i) p0 p1 ih.1 ih.2
theorem ms_bd (T b : Nat) (y : Int) (i : Nat) : 0 ≤ ms T b y i ∧ ms T b y i < 18446744073709551616 := mod_bd _
theorem nc_bd (T b m : Nat) {y q : Int} (q0 : 0 ≤ q) (q1 : q < 18446744073709551616) (i : Nat) : 0 ≤ nc T b m y q i ∧ nc T b m y q i < 18446744073709551616 := by
 induction i with
 | zero => simp [nc]
 | succ i ih =>
  obtain ⟨p0, p1⟩ := prod_bd q0 q1 (lb_nn m i) (lb_lt m i)
  exact carry_bd (ms_bd T b y i).1 (ms_bd T b y i).2 p0 p1 ih.1 ih.2
theorem ns_bd (T b m : Nat) (y q : Int) (i : Nat) : 0 ≤ ns T b m y q i ∧ ns T b m y q i < 18446744073709551616 := mod_bd _
theorem div_split (s : Int) : s = s % 18446744073709551616 + 18446744073709551616 * (s / 18446744073709551616) := by omega
theorem ms_eq (T b : Nat) (y : Int) (i : Nat) : lb T i + y * lb b i + mc T b y i = ms T b y i + 18446744073709551616 * mc T b y (i + 1) := div_split _
theorem ns_eq (T b m : Nat) (y q : Int) (i : Nat) : ms T b y i + q * lb m i + nc T b m y q i = ns T b m y q i + 18446744073709551616 * nc T b m y q (i + 1) := div_split _
theorem num5 (T : Nat) :
  (T : Int) = lb T 0 + 18446744073709551616 * lb T 1 + 340282366920938463463374607431768211456 * lb T 2 + 6277101735386680763835789423207666416102355444464034512896 * lb T 3 + 115792089237316195423570985008687907853269984665640564039457584007913129639936 * ((T / 115792089237316195423570985008687907853269984665640564039457584007913129639936 : Nat) : Int) := by
 have h1 := num_digits (x := T % 115792089237316195423570985008687907853269984665640564039457584007913129639936) (Nat.mod_lt _ (by decide))
 rw [lb_modK T (i := 0) (by omega), lb_modK T (i := 1) (by omega), lb_modK T (i := 2) (by omega), lb_modK T (i := 3) (by omega)] at h1
 rw [← h1]
 have := Nat.mod_add_div T 115792089237316195423570985008687907853269984665640564039457584007913129639936
 omega
theorem comb_m {T Y l0 l1 l2 l3 t4 b0 b1 b2 b3 r0 r1 r2 r3 c1 c2 c3 c4 u4 u5 : Int}
  (hT : T = l0 + 18446744073709551616 * l1 + 340282366920938463463374607431768211456 * l2 + 6277101735386680763835789423207666416102355444464034512896 * l3 + 115792089237316195423570985008687907853269984665640564039457584007913129639936 * t4)
  (hY : Y = b0 + 18446744073709551616 * b1 + 340282366920938463463374607431768211456 * b2 + 6277101735386680763835789423207666416102355444464034512896 * b3)
  (f0 : l0 + b0 + 0 = r0 + 18446744073709551616 * c1) (f1 : l1 + b1 + c1 = r1 + 18446744073709551616 * c2) (f2 : l2 + b2 + c2 = r2 + 18446744073709551616 * c3) (f3 : l3 + b3 + c3 = r3 + 18446744073709551616 * c4)
  (f4 : t4 + c4 = u4 + 18446744073709551616 * u5) :
  T + Y = r0 + 18446744073709551616 * r1 + 340282366920938463463374607431768211456 * r2 + 6277101735386680763835789423207666416102355444464034512896 * r3 + 115792089237316195423570985008687907853269984665640564039457584007913129639936 * u4 + 2135987035920910082395021706169552114602704522356652769947041607822219725780640550022962086936576 * u5 := by omega
theorem comb_n {U Q r0 r1 r2 r3 u4 u5 p0 p1 p2 p3 n1 n2 n3 d1 d2 d3 d4 c3 cc : Int}
  (hU : U = r0 + 18446744073709551616 * r1 + 340282366920938463463374607431768211456 * r2 + 6277101735386680763835789423207666416102355444464034512896 * r3 + 115792089237316195423570985008687907853269984665640564039457584007913129639936 * u4 + 2135987035920910082395021706169552114602704522356652769947041607822219725780640550022962086936576 * u5)
  (hQ : Q = p0 + 18446744073709551616 * p1 + 340282366920938463463374607431768211456 * p2 + 6277101735386680763835789423207666416102355444464034512896 * p3)
  (f0 : r0 + p0 + 0 = 0 + 18446744073709551616 * d1) (f1 : r1 + p1 + d1 = n1 + 18446744073709551616 * d2) (f2 : r2 + p2 + d2 = n2 + 18446744073709551616 * d3) (f3 : r3 + p3 + d3 = n3 + 18446744073709551616 * d4)
  (f4 : u4 + d4 = c3 + 18446744073709551616 * cc) :
  U + Q = 18446744073709551616 * (n1 + 18446744073709551616 * n2 + 340282366920938463463374607431768211456 * n3 + 6277101735386680763835789423207666416102355444464034512896 * c3 + 115792089237316195423570985008687907853269984665640564039457584007913129639936 * (u5 + cc)) := by omega
theorem mul_digits (y : Int) {b : Nat} (hb : b < 115792089237316195423570985008687907853269984665640564039457584007913129639936) :
  y * (b : Int) = y * lb b 0 + 18446744073709551616 * (y * lb b 1) + 340282366920938463463374607431768211456 * (y * lb b 2) + 6277101735386680763835789423207666416102355444464034512896 * (y * lb b 3) := by
 rw [num_digits hb]
 grind
theorem low_zero {r v m0 : Int} (hv : (m0 * v + 1) % 18446744073709551616 = 0) : (r + (r * v % 18446744073709551616) * m0 + 0) % 18446744073709551616 = 0 := by
 have e : r + (r * v % 18446744073709551616) * m0 + 0 = r * (m0 * v + 1) + 18446744073709551616 * (-(r * v / 18446744073709551616) * m0) := by
  have := Int.emod_add_mul_ediv (r * v) 18446744073709551616
  have e2 : r * v % 18446744073709551616 = r * v - 18446744073709551616 * (r * v / 18446744073709551616) := by omega
  rw [e2]
  grind
 rw [e, Int.add_mul_emod_self_left, Int.mul_emod, hv]
 simp
theorem bound_T {T' T b m : Int} {Y Q : Int} (h : T + Y + Q = 18446744073709551616 * T') (hY : Y ≤ 18446744073709551615 * b) (hQ : Q ≤ 18446744073709551615 * m) (hT : T < 2 * m) (hb : b < m) : T' < 2 * m := by omega
theorem mont_step {T b m : Nat} {y v : Int} (hT : T < 2 * m) (hb : b < m) (hm : m < 115792089237316195423570985008687907853269984665640564039457584007913129639936)
  (y0 : 0 ≤ y) (y1 : y < 18446744073709551616) (hv : (lb m 0 * v + 1) % 18446744073709551616 = 0) {t4 q u4 u5 c3 cc : Int}
  (ht4 : t4 = ((T / 115792089237316195423570985008687907853269984665640564039457584007913129639936 : Nat) : Int)) (hq : q = ms T b y 0 * v % 18446744073709551616)
  (hu4 : u4 = (t4 + mc T b y 4) % 18446744073709551616) (hu5 : u5 = (t4 + mc T b y 4) / 18446744073709551616) (hc3 : c3 = (u4 + nc T b m y q 4) % 18446744073709551616) (hcc : cc = (u4 + nc T b m y q 4) / 18446744073709551616) :
  ∃ T' : Nat, T' < 2 * m ∧ 18446744073709551616 * (T' : Int) = T + y * b + q * m ∧ lb T' 0 = ns T b m y q 1 ∧ lb T' 1 = ns T b m y q 2 ∧ lb T' 2 = ns T b m y q 3 ∧ lb T' 3 = c3 ∧ u5 + cc = ((T' / 115792089237316195423570985008687907853269984665640564039457584007913129639936 : Nat) : Int) := by
 have q0 : 0 ≤ q ∧ q < 18446744073709551616 := by rw [hq]; exact mod_bd _
 have hT5 := num5 T
 rw [← ht4] at hT5
 have hY := mul_digits y (Nat.lt_trans hb hm)
 have hQ := mul_digits q hm
 have f4 := div_split (t4 + mc T b y 4)
 rw [← hu4, ← hu5] at f4
 have hU := comb_m hT5 hY (ms_eq T b y 0) (ms_eq T b y 1) (ms_eq T b y 2) (ms_eq T b y 3) f4
 have g0 := ns_eq T b m y q 0
 have z : ns T b m y q 0 = 0 := by
  unfold ns
  rw [hq]
  exact low_zero hv
 rw [z] at g0
 have g4 := div_split (u4 + nc T b m y q 4)
 rw [← hc3, ← hcc] at g4
 have hS := comb_n hU hQ g0 (ns_eq T b m y q 1) (ns_eq T b m y q 2) (ns_eq T b m y q 3) g4
 have hc3b : 0 ≤ c3 ∧ c3 < 18446744073709551616 := by rw [hc3]; exact mod_bd _
 have hmc := mc_bd T b y0 y1 4
 have hnc := nc_bd T b m (y := y) q0.1 q0.2 4
 have hu4b : 0 ≤ u4 ∧ u4 < 18446744073709551616 := by rw [hu4]; exact mod_bd _
 have ht40 : 0 ≤ t4 := by rw [ht4]; exact Int.natCast_nonneg _
 have hu50 : 0 ≤ u5 := by rw [hu5]; omega
 have hcc0 : 0 ≤ cc := by rw [hcc]; omega
 have b1 := ns_bd T b m y q 1
 have b2 := ns_bd T b m y q 2
 have b3 := ns_bd T b m y q 3
 have hYle : y * (b : Int) ≤ 18446744073709551615 * b := Int.mul_le_mul_of_nonneg_right (by omega) (Int.natCast_nonneg _)
 have hQle : q * (m : Int) ≤ 18446744073709551615 * m := Int.mul_le_mul_of_nonneg_right (by omega) (Int.natCast_nonneg _)
 generalize ns T b m y q 1 = n1 at *
 generalize ns T b m y q 2 = n2 at *
 generalize ns T b m y q 3 = n3 at *
 have hlt := bound_T hS hYle hQle (show (T : Int) < 2 * m by omega) (show (b : Int) < m by omega)
 have tb := top_bd b1.1 b1.2 b2.1 b2.2 b3.1 b3.2 hc3b.1 hc3b.2
 obtain ⟨X, hX⟩ : ∃ X : Int, X = n1 + 18446744073709551616 * n2 + 340282366920938463463374607431768211456 * n3 + 6277101735386680763835789423207666416102355444464034512896 * c3 + 115792089237316195423570985008687907853269984665640564039457584007913129639936 * (u5 + cc) := ⟨_, rfl⟩
 rw [← hX] at hS hlt
 have hX0 : 0 ≤ X := by
  rw [hX]
  have : 0 ≤ 115792089237316195423570985008687907853269984665640564039457584007913129639936 * (u5 + cc) := Int.mul_nonneg (by decide) (by omega)
  omega
 obtain ⟨T', hT'⟩ := Int.eq_ofNat_of_zero_le hX0
 rw [hT'] at hS hlt hX
 obtain ⟨k0, k1, k2, k3⟩ := lb_is hX b1.1 b1.2 b2.1 b2.2 b3.1 b3.2 hc3b.1 hc3b.2
 exact ⟨T', by omega, hS.symm, k0, k1, k2, k3, div_top hX tb.1 tb.2⟩
theorem lb_pow (a i : Nat) : lb a i = ((a / 18446744073709551616 ^ i % 18446744073709551616 : Nat) : Int) := by
 unfold lb
 rw [Nat.pow_mul]
theorem inv_step {T T' a b m i : Nat} {q Q : Int} (h : (T : Int) * ((18446744073709551616 ^ i : Nat) : Int) = ((a % 18446744073709551616 ^ i : Nat) : Int) * b + Q * m)
  (hs : 18446744073709551616 * (T' : Int) = T + lb a i * b + q * m) :
  (T' : Int) * ((18446744073709551616 ^ (i + 1) : Nat) : Int) = ((a % 18446744073709551616 ^ (i + 1) : Nat) : Int) * b + (Q + q * ((18446744073709551616 ^ i : Nat) : Int)) * m := by
 rw [Nat.mod_pow_succ, Nat.pow_succ]
 have e := lb_pow a i
 generalize a / 18446744073709551616 ^ i % 18446744073709551616 = d at *
 rw [e] at hs
 generalize (18446744073709551616 ^ i : Nat) = P at *
 rw [Int.natCast_mul, Int.natCast_add, Int.natCast_mul]
 have k : ((18446744073709551616 : Nat) : Int) = 18446744073709551616 := rfl
 rw [k]
 generalize (18446744073709551616 : Int) = B at *
 have e1 : (T' : Int) * ((P : Int) * B) = (P : Int) * (B * T') := by grind
 rw [e1, hs]
 grind
theorem mont_top {T m a b : Nat} {Q : Int} (hm : 0 < m) (h : (T : Int) * ((18446744073709551616 ^ 4 : Nat) : Int) = ((a % 18446744073709551616 ^ 4 : Nat) : Int) * b + Q * m) (ha : a < 115792089237316195423570985008687907853269984665640564039457584007913129639936) :
  T % m < m ∧ (T % m * 115792089237316195423570985008687907853269984665640564039457584007913129639936) % m = (a * b) % m := by
 refine ⟨Nat.mod_lt _ hm, ?_⟩
 rw [show (18446744073709551616 ^ 4 : Nat) = 115792089237316195423570985008687907853269984665640564039457584007913129639936 by decide, Nat.mod_eq_of_lt ha] at h
 generalize (115792089237316195423570985008687907853269984665640564039457584007913129639936 : Nat) = K at *
 rw [Nat.mod_mul_mod]
 have h2 : ((T * K : Nat) : Int) = ((a * b : Nat) : Int) + (m : Int) * Q := by
  rw [Int.natCast_mul, Int.natCast_mul, h]; grind
 have h3 : ((T * K : Nat) : Int) % (m : Int) = ((a * b : Nat) : Int) % (m : Int) := by
  rw [h2, Int.add_mul_emod_self_left]
 exact_mod_cast h3
theorem top_bits {T m : Nat} (hT : T < 2 * m) (hm : m < 115792089237316195423570985008687907853269984665640564039457584007913129639936) : T / 115792089237316195423570985008687907853269984665640564039457584007913129639936 ≤ 1 := by omega
theorem pow_zero_inv (a b m : Nat) : ((0 : Nat) : Int) * ((18446744073709551616 ^ 0 : Nat) : Int) = ((a % 18446744073709551616 ^ 0 : Nat) : Int) * b + 0 * m := by simp [Nat.mod_one]
end Go.Chr
/- Contracts of the layer field: half. -/
namespace Go.Proofs.YtdcganigfihkjaaGreatDoor
open Go.RowKit Go.Chr
theorem top_val {m T S : Nat} (hT : T < 2 * m) (hmK : m < 115792089237316195423570985008687907853269984665640564039457584007913129639936) (hS : S = T % 115792089237316195423570985008687907853269984665640564039457584007913129639936) :
  nat4 (if (decide (115792089237316195423570985008687907853269984665640564039457584007913129639936 ≤ T) || !decide (S < m)) = true then 115792089237316195423570985008687907853269984665640564039457584007913129639936 + S - m else S) = nat4 (T % m) := by
 refine nat4_congr ?_
 by_cases h1 : 115792089237316195423570985008687907853269984665640564039457584007913129639936 ≤ T
 ·have e1 : S = T - 115792089237316195423570985008687907853269984665640564039457584007913129639936 := by rw [hS, Nat.mod_eq_sub_mod h1, Nat.mod_eq_of_lt (by omega)]
  have e2 : T % m = T - m := by rw [Nat.mod_eq_sub_mod (by omega), Nat.mod_eq_of_lt (by omega)]
  rw [if_pos (by simp [h1]), e2]
  congr 1
  omega
 ·have e1 : S = T := by rw [hS, Nat.mod_eq_of_lt (by omega)]
  by_cases h2 : S < m
  ·rw [if_neg (by simp [h1, h2]), e1, Nat.mod_eq_of_lt (show T < m by omega)]
  ·have e2 : T % m = T - m := by rw [Nat.mod_eq_sub_mod (by omega), Nat.mod_eq_of_lt (by omega)]
   rw [if_pos (by simp [h2]), e1, e2]
   exact wrap_le (by omega)
def l1 (T b : Nat) (y t4 t5 : Int) (i : Nat) : List Int := [if 0 < i then ms T b y 0 else lb T 0, if 1 < i then ms T b y 1 else lb T 1, if 2 < i then ms T b y 2 else lb T 2, if 3 < i then ms T b y 3 else lb T 3, t4, t5]
theorem l1_set (T b : Nat) (y t4 t5 : Int) {i : Nat} (hi : i < 4) : (l1 T b y t4 t5 i).set i (ms T b y i) = l1 T b y t4 t5 (i + 1) := by
 rcases i with _ | _ | _ | _ | i <;> first | rfl | omega
theorem l1_getD (T b : Nat) (y t4 t5 : Int) {i : Nat} (hi : i < 4) : (l1 T b y t4 t5 i).getD i 0 = lb T i := by
 rcases i with _ | _ | _ | _ | i <;> first | rfl | omega
def l3 (T b m : Nat) (y q t4 t5 : Int) (i : Nat) : List Int := [if 1 < i then ns T b m y q 1 else ms T b y 0, if 2 < i then ns T b m y q 2 else ms T b y 1, if 3 < i then ns T b m y q 3 else ms T b y 2, ms T b y 3, t4, t5]
theorem l3_set (T b m : Nat) (y q t4 t5 : Int) {i : Nat} (h1 : 1 ≤ i) (hi : i < 4) : (l3 T b m y q t4 t5 i).set (i - 1) (ns T b m y q i) = l3 T b m y q t4 t5 (i + 1) := by
 rcases i with _ | _ | _ | _ | i <;> first | rfl | omega
theorem l3_getD (T b m : Nat) (y q t4 t5 : Int) {i : Nat} (h1 : 1 ≤ i) (hi : i < 4) : (l3 T b m y q t4 t5 i).getD i 0 = ms T b y i := by
 rcases i with _ | _ | _ | _ | i <;> first | rfl | omega
theorem idx_nat (a : Nat) {k : Nat} (hk : k < 4) (W : World) : (Instr.index 27 (.agg #[.int .u64 (lb a 0), .int .u64 (lb a 1), .int .u64 (lb a 2), .int .u64 (lb a 3)]) (.int .i64 k)).run Tryz.prog W = .ok (.int .u64 (lb a k)) W := by
 rcases k with _ | _ | _ | _ | k
 ·kernel_rfl
 ·kernel_rfl
 ·kernel_rfl
 ·kernel_rfl
 ·omega
theorem modC_get (m s : Nat) (v : Int) {j : Nat} (hj : j < 4) : (modC m s v)[j]? = some (.int .u64 (lb m j)) := by
 rcases j with _ | _ | _ | _ | j <;> first | rfl | omega
def HalfS (m s : Nat) (v : Int) (b : Nat) (w W : World) : Prop :=
 Blk W w.heap.size 68 (modC m s v) ∧ IB W (w.heap.size + 2) 27 .u64 (lbs b) ∧ Blk W (w.heap.size + 3) 27 #[.int .u64 0, .int .u64 0, .int .u64 0, .int .u64 0] ∧ Below w.heap.size w W
theorem HalfS.set {m s : Nat} {v : Int} {b : Nat} {w W : World} (h : HalfS m s v b w W) (i : Nat) (u : Value) : HalfS m s v b w (W.setCell ⟨w.heap.size + 4, i, none⟩ u) :=
 ⟨h.1.far (by simp) u, h.2.1.far (by simp) u, h.2.2.1.far (by simp) u, h.2.2.2.setCell (by simp) u⟩
theorem HalfS.drew {m s : Nat} {v : Int} {b : Nat} {w W : World} (h : HalfS m s v b w W) : HalfS m s v b w W.drew := ⟨h.1.drew, h.2.1.drew, h.2.2.1.drew, h.2.2.2.drew⟩
set_option maxRecDepth 100000 in
set_option maxHeartbeats 8000000 in
theorem half_any (m s : Nat) (v : Int) (a b : Nat) (w : World) (ha : a < 115792089237316195423570985008687907853269984665640564039457584007913129639936) (hb : b < m) (hmK : m < 115792089237316195423570985008687907853269984665640564039457584007913129639936) (hv : (lb m 0 * v + 1) % 18446744073709551616 = 0) :
  Calls Tryz.prog 86 #[.agg (modC m s v), nat4 a, nat4 b] w (fun e w' => ∃ r, e = .returned (nat4 r) ∧ r < m ∧ (r * 115792089237316195423570985008687907853269984665640564039457584007913129639936) % m = (a * b) % m ∧ Below w.heap.size w w') := by
 have Sx := Lib.hid (add_start m s v a b w)
 have HA := Lib.hid ha; have HB := Lib.hid hb; have HMK := Lib.hid hmK; have HV := Lib.hid hv
 clear ha hb hmK hv
 go_enter Tryz.func86, Tryz.ntmps86
 go_wp2_with fail
 go_loopw [19] (fun i wr => ∃ (k T : Nat) (x5 : Int), k ≤ 4 ∧ i = .int .i64 k ∧ T < 2 * m ∧ (∃ Q : Int, (T : Int) * ((18446744073709551616 ^ k : Nat) : Int) = ((a % 18446744073709551616 ^ k : Nat) : Int) * b + Q * m) ∧
   IB wr (w.heap.size + 4) 122 .u64 [lb T 0, lb T 1, lb T 2, lb T 3, ((T / 115792089237316195423570985008687907853269984665640564039457584007913129639936 : Nat) : Int), x5] ∧ HalfS m s v b w wr) (fun i _ => 4 - (intOf i).toNat)
 case atStart =>
  obtain ⟨z0, z1, z2, z3, z4⟩ := Sx.out
  have zt := IB.new ((((w.alloc (.cells (modC m s v) 68)).alloc (.cells (natC a) 27)).alloc (.cells (natC b) 27)).alloc (.cells #[.int .u64 0, .int .u64 0, .int .u64 0, .int .u64 0] 27)) 122 .u64 [0, 0, 0, 0, 0, 0]
  rw [World.size_alloc, World.size_alloc, World.size_alloc, World.size_alloc] at zt
  have hB := HB.out
  refine ⟨0, 0, 0, by omega, rfl, by omega, ⟨0, pow_zero_inv a b m⟩, ?_, z0.alloc _, z2.alloc _, z3.alloc _, z4.alloc z4.size _⟩
  have e0 : ∀ i, lb 0 i = 0 := fun i => by simp [lb]
  have e1 : ((0 / 115792089237316195423570985008687907853269984665640564039457584007913129639936 : Nat) : Int) = 0 := by simp
  rw [e0, e0, e0, e0, e1]
  exact zt
 case round =>
  obtain ⟨k, T, x5, hk, rfl, hT, ⟨Q, hQ⟩, ht, hS⟩ := hrel
  by_cases hlt : k < 4
  ·have hidx := fun W => idx_nat a hlt W
   obtain ⟨y, hy⟩ : ∃ y, y = lb a k := ⟨_, rfl⟩
   have y0 : 0 ≤ y := by rw [hy]; exact lb_nn a k
   have y1 : y < 18446744073709551616 := by rw [hy]; exact lb_lt a k
   rw [← hy] at hidx
   obtain ⟨t4, ht4⟩ : ∃ t4 : Int, t4 = ((T / 115792089237316195423570985008687907853269984665640564039457584007913129639936 : Nat) : Int) := ⟨_, rfl⟩
   rw [← ht4] at ht
   have b4 : 0 ≤ t4 ∧ t4 ≤ 1 := by
    have := top_bits hT HMK.out
    rw [ht4]; omega
   have HY := Lib.hid hy; have HT4 := Lib.hid ht4; have HT := Lib.hid hT; have HQ := Lib.hid hQ; have HI := Lib.hid ht; have HS := Lib.hid hS
   have d1 : decide ((k : Int) < 4) = true := by simp; omega
   clear hy ht4 hT hQ ht hS Sx
   go_wp2_with fail
   obtain ⟨w0, hw0⟩ : ∃ w0 : World, w0 = wr := ⟨_, rfl⟩
   have HI' : Hid (IB wr (w.heap.size + 4) 122 .u64 (l1 T b y t4 x5 0)) := HI
   go_loopw [10, 22] (fun c i wr => ∃ j : Nat, j ≤ 4 ∧ i = .int .i64 j ∧ c = .int .u64 (mc T b y j) ∧ IB wr (w.heap.size + 4) 122 .u64 (l1 T b y t4 x5 j) ∧ HalfS m s v b w wr) (fun _ i _ => 4 - (intOf i).toNat)
   case atStart => exact ⟨0, by omega, rfl, rfl, HI'.out, HS.out⟩
   case round =>
    obtain ⟨j, hj, rfl, rfl, ht, hS⟩ := hrel
    by_cases hjl : j < 4
    ·have q1 := ht.cell (i := j) (by simp [l1]; omega)
     rw [l1_getD _ _ _ _ _ hjl] at q1
     have q2 := hS.2.1.cell (i := j) (by simpa using hjl)
     rw [lbs_getD _ hjl] at q2
     have q3 := ht.frozen j
     have hmore := fun W => more_any (lb T j) y (lb b j) (mc T b y j) (lb_nn T j) (lb_lt T j) y0 y1 (lb_nn b j) (lb_lt b j) (mc_bd T b y0 y1 j).1 (mc_bd T b y0 y1 j).2 W
     have HMORE := Lib.hid hmore
     have HTj := Lib.hid ht; have HSj := Lib.hid hS
     have e1 : decide ((j : Int) < 4) = true := by simp; omega
     have i1 : (j : Int) < 4 := by omega
     have i2 : (j : Int) < 6 := by omega
     clear ht hS hmore HI HI' HS
     go_wp2_with fail
     go_region_with ((go_at_call 108; refine (HMORE.out _).mono ?_; rintro e w' ⟨rfl, rfl⟩))
     all_goals
      go_wp2
      go_roundw
      case rel =>
       have hs := HTj.out.set j (ms T b y j)
       rw [l1_set _ _ _ _ _ hjl] at hs
       exact ⟨j + 1, by omega, by go_num, rfl, hs.drew, (HSj.out.set j _).drew⟩
      case measure => simp [intOf]; omega
    ·have h4 : j = 4 := by omega
     subst h4
     have e1 : decide (((4 : Nat) : Int) < 4) = false := by decide
     obtain ⟨u4, hu4⟩ : ∃ u4, u4 = (t4 + mc T b y 4) % 18446744073709551616 := ⟨_, rfl⟩
     obtain ⟨u5, hu5⟩ : ∃ u5, u5 = (t4 + mc T b y 4) / 18446744073709551616 := ⟨_, rfl⟩
     obtain ⟨q, hq⟩ : ∃ q, q = ms T b y 0 * v % 18446744073709551616 := ⟨_, rfl⟩
     obtain ⟨c3, hc3⟩ : ∃ c3, c3 = (u4 + nc T b m y q 4) % 18446744073709551616 := ⟨_, rfl⟩
     obtain ⟨cc, hcc⟩ : ∃ cc, cc = (u4 + nc T b m y q 4) / 18446744073709551616 := ⟨_, rfl⟩
     obtain ⟨T', hT', hs, k0, k1, k2, k3, ktop⟩ := mont_step (v := v) HT.out HB.out HMK.out y0 y1 HV.out HT4.out hq hu4 hu5 hc3 hcc
     have q0 : 0 ≤ q ∧ q < 18446744073709551616 := by rw [hq]; exact mod_bd _
     have u4b : 0 ≤ u4 ∧ u4 < 18446744073709551616 := by rw [hu4]; exact mod_bd _
     have mcb := mc_bd T b y0 y1 4
     have ncb := nc_bd T b m (y := y) q0.1 q0.2 4
     have hadd1 := fun W => add64 t4 (mc T b y 4) 0 b4.1 (by omega) mcb.1 mcb.2 (by omega) (by omega) W
     have hadd2 := fun W => add64 u4 (nc T b m y q 4) 0 u4b.1 u4b.2 ncb.1 ncb.2 (by omega) (by omega) W
     simp only [Int.add_zero] at hadd1 hadd2
     rw [← hu4, ← hu5] at hadd1
     rw [← hc3, ← hcc] at hadd2
     have hmore0 : ∀ W, Calls Tryz.prog 108 #[.int .u64 (ms T b y 0), .int .u64 q, .int .u64 (lb m 0), .int .u64 0] W (fun e w' => e = .returned (.tuple #[.int .u64 (ns T b m y q 0), .int .u64 (nc T b m y q 1)]) ∧ W = w') :=
      fun W => more_any (ms T b y 0) q (lb m 0) 0 (ms_bd T b y 0).1 (ms_bd T b y 0).2 q0.1 q0.2 (lb_nn m 0) (lb_lt m 0) (by omega) (by omega) W
     have hqr : ms T b y 0 * v % 18446744073709551616 = q := hq.symm
     have hqw : IntKind.u64.wrap (ms T b y 0 * v) = q := by rw [IntKind.wrap_u64]; exact hqr
     obtain ⟨tt, htt⟩ : ∃ tt : Int, tt = ((T' / 115792089237316195423570985008687907853269984665640564039457584007913129639936 : Nat) : Int) := ⟨_, rfl⟩
     rw [← htt] at ktop
     have ttb : 0 ≤ tt ∧ tt ≤ 1 := by
      have := top_bits hT' HMK.out
      rw [htt]; omega
     have HMORE0 := Lib.hid hmore0; have HADD1 := Lib.hid hadd1; have HADD2 := Lib.hid hadd2
     have HTT := Lib.hid htt; have HT' := Lib.hid hT'; have HSS := Lib.hid hs; have HK := Lib.hid (show _ ∧ _ ∧ _ ∧ _ from ⟨k0, k1, k2, k3⟩)
     have KT := Lib.hid ktop
     have ht : IB wr (w.heap.size + 4) 122 .u64 [ms T b y 0, ms T b y 1, ms T b y 2, ms T b y 3, t4, x5] := ht
     have z0 := ht.cell (i := 0) (by simp)
     have z4 := ht.cell (i := 4) (by simp)
     have z5 := ht.cell (i := 5) (by simp)
     simp only [List.getD_cons_zero, List.getD_cons_succ] at z0 z4 z5
     have zf := ht.frozen
     obtain ⟨⟨m0, -, -, -⟩, -, m8⟩ := blk_c9 hS.1
     have HTj := Lib.hid ht; have HSj := Lib.hid hS
     clear ht hS hu4 hu5 hc3 hcc hq hadd1 hadd2 hmore0 htt hT' hs k0 k1 k2 k3 ktop HI HI' HS hidx mcb ncb
     go_wp2_with (first | (go_at_call 108; refine (HMORE0.out _).mono ?_; rintro e w' ⟨rfl, rfl⟩) | simp only [HADD1.out])
     clear z0 z4 z5 zf m0 m8
     go_loopw [10, 13] (fun c i wr => ∃ j : Nat, j ≤ 3 ∧ i = .int .i64 ((j + 1 : Nat) : Int) ∧ c = .int .u64 (nc T b m y q (j + 1)) ∧ IB wr (w.heap.size + 4) 122 .u64 (l3 T b m y q u4 u5 (j + 1)) ∧ HalfS m s v b w wr) (fun _ i _ => 4 - (intOf i).toNat)
     case atStart => exact ⟨0, by omega, rfl, rfl, (HTj.out.set 4 u4).set 5 u5, (HSj.out.set 4 _).set 5 _⟩
     case round =>
      obtain ⟨j, hj, rfl, rfl, ht, hS⟩ := hrel
      by_cases hjl : j < 3
      ·have q1 := ht.cell (i := j + 1) (by simp [l3]; omega)
       rw [l3_getD _ _ _ _ _ _ _ (by omega) (by omega)] at q1
       have q2 := hS.1.cell (j + 1)
       rw [modC_get _ _ _ (by omega)] at q2
       have q3 := ht.cell (i := j) (by simp [l3]; omega)
       have q4 := ht.frozen j
       have hmore : ∀ W, Calls Tryz.prog 108 #[.int .u64 (ms T b y (j + 1)), .int .u64 q, .int .u64 (lb m (j + 1)), .int .u64 (nc T b m y q (j + 1))] W (fun e w' => e = .returned (.tuple #[.int .u64 (ns T b m y q (j + 1)), .int .u64 (nc T b m y q (j + 1 + 1))]) ∧ W = w') :=
        fun W => more_any (ms T b y (j + 1)) q (lb m (j + 1)) (nc T b m y q (j + 1)) (ms_bd T b y (j + 1)).1 (ms_bd T b y (j + 1)).2 q0.1 q0.2 (lb_nn m (j + 1)) (lb_lt m (j + 1)) (nc_bd T b m q0.1 q0.2 (j + 1)).1 (nc_bd T b m q0.1 q0.2 (j + 1)).2 W
       have HMORE := Lib.hid hmore
       have HTk := Lib.hid ht; have HSk := Lib.hid hS
       have e1 : decide ((((j + 1 : Nat) : Int)) < 4) = true := by simp; omega
       have e2 : decide ((j : Int) + 1 < 4) = true := by simp; omega
       have i1 : (j : Int) + 1 < 4 := by omega
       have i2 : (j : Int) + 1 < 6 := by omega
       have i3 : (j : Int) < 6 := by omega
       clear ht hS hmore HTj HSj
       go_wp2_with fail
       go_region_with ((go_at_call 108; refine (HMORE.out _).mono ?_; rintro e w' ⟨rfl, rfl⟩))
       all_goals
        go_wp2
        go_roundw
        case rel =>
         have hs := HTk.out.set j (ns T b m y q (j + 1))
         have e := l3_set T b m y q u4 u5 (i := j + 1) (by omega) (by omega)
         rw [Nat.add_sub_cancel] at e
         rw [e] at hs
         exact ⟨j + 1, by omega, by go_num, rfl, hs.drew, (HSk.out.set j _).drew⟩
        case measure => simp [intOf]; omega
      ·have h3 : j = 3 := by omega
       subst h3
       have e1 : decide ((((3 + 1 : Nat) : Int)) < 4) = false := by decide
       have ht : IB wr (w.heap.size + 4) 122 .u64 [ns T b m y q 1, ns T b m y q 2, ns T b m y q 3, ms T b y 3, u4, u5] := ht
       have z3 := ht.cell (i := 3) (by simp)
       have z4 := ht.cell (i := 4) (by simp)
       have z5 := ht.cell (i := 5) (by simp)
       simp only [List.getD_cons_zero, List.getD_cons_succ] at z3 z4 z5
       have zf := ht.frozen
       have HTk := Lib.hid ht; have HSk := Lib.hid hS
       have ktop := KT.out
       clear ht hS HTj HSj
       go_wp2_with (simp only [HADD2.out])
       go_roundw
       case rel =>
        have hs := (HTk.out.set 3 c3).set 4 tt
        obtain ⟨k0, k1, k2, k3⟩ := HK.out
        have hss := HSS.out
        rw [HY.out] at hss
        refine ⟨k + 1, T', u5, by omega, by go_num, HT'.out, ⟨_, inv_step HQ.out hss⟩, ?_, (HSk.out.set 3 _).set 4 _⟩
        rw [k0, k1, k2, k3, ← HTT.out]
        exact hs
       case measure => simp [intOf]; omega
  ·have h4 : k = 4 := by omega
   subst h4
   have d1 : decide (((4 : Nat) : Int) < 4) = false := by decide
   obtain ⟨S, hSd⟩ : ∃ S, S = T % 115792089237316195423570985008687907853269984665640564039457584007913129639936 := ⟨_, rfl⟩
   have hval := top_val hT HMK.out hSd
   have hSK : S < 115792089237316195423570985008687907853269984665640564039457584007913129639936 := by rw [hSd]; exact Nat.mod_lt _ (by decide)
   have hl : ∀ i, i < 4 → lb T i = lb S i := fun i hi => by rw [hSd]; exact (lb_modK T hi).symm
   have hcar := carry_dec T
   obtain ⟨tt, htt⟩ : ∃ tt : Int, tt = ((T / 115792089237316195423570985008687907853269984665640564039457584007913129639936 : Nat) : Int) := ⟨_, rfl⟩
   rw [← htt] at hcar
   obtain ⟨ov, hov⟩ : ∃ ov, ov = decide (115792089237316195423570985008687907853269984665640564039457584007913129639936 ≤ T) := ⟨_, rfl⟩
   rw [← hov] at hcar hval
   rw [hl 0 (by omega), hl 1 (by omega), hl 2 (by omega), hl 3 (by omega), ← htt] at ht
   obtain ⟨hr1, hr2⟩ := mont_top (Nat.lt_of_le_of_lt (Nat.zero_le b) HB.out) hQ HA.out
   have hsub := fun W => limbSub_any S m W hSK HMK.out
   obtain ⟨X, hX⟩ : ∃ X, X = 115792089237316195423570985008687907853269984665640564039457584007913129639936 + S - m := ⟨_, rfl⟩
   rw [← hX] at hval
   simp only [← hX] at hsub
   obtain ⟨un, hun⟩ : ∃ un, un = decide (S < m) := ⟨_, rfl⟩
   rw [← hun] at hval
   simp only [← hun] at hsub
   obtain ⟨R, hR⟩ : ∃ R, R = T % m := ⟨_, rfl⟩
   rw [← hR] at hval hr1 hr2
   have HSUB := Lib.hid hsub; have HVAL := Lib.hid hval; have HR1 := Lib.hid hr1; have HR2 := Lib.hid hr2
   have z0 := ht.cell (i := 0) (by simp)
   have z1 := ht.cell (i := 1) (by simp)
   have z2 := ht.cell (i := 2) (by simp)
   have z3 := ht.cell (i := 3) (by simp)
   have z4 := ht.cell (i := 4) (by simp)
   simp only [List.getD_cons_zero, List.getD_cons_succ] at z0 z1 z2 z3 z4
   obtain ⟨⟨m0, m1, m2, m3⟩, -⟩ := blk_c9 hS.1
   have lw : w.heap.size + 4 < wr.heap.size := ht.lt
   have lw0 : w.heap.size < wr.heap.size := by omega
   have HTf := Lib.hid ht; have HSf := Lib.hid hS
   clear ht hS hQ hT hsub hval hr1 hr2 hX hun hR hov htt hl hSK hSd Sx
   go_wp2_with fail
   refine (HSUB.out _).mono ?_
   rintro e w1 ⟨rfl, hb1⟩
   obtain ⟨W1, hW1⟩ : ∃ W1, W1 = wr.alloc (.cells (natC S) 27) := ⟨_, rfl⟩
   have n5 : Blk W1 wr.heap.size 27 (natC S) := by rw [hW1]; exact Blk.new wr _ _
   have n3 : Blk W1 (w.heap.size + 3) 27 #[.int .u64 0, .int .u64 0, .int .u64 0, .int .u64 0] := by rw [hW1]; exact HSf.out.2.2.1.alloc _
   have nt : IB W1 (w.heap.size + 4) 122 .u64 [lb S 0, lb S 1, lb S 2, lb S 3, tt, x5] := by rw [hW1]; exact HTf.out.alloc _
   have nb : Below w.heap.size w W1 := by rw [hW1]; exact HSf.out.2.2.2.alloc HSf.out.2.2.2.size _
   rw [← hW1] at hb1
   have n5 := Lib.hid (n5.below hb1 n5.lt)
   have n3 := Lib.hid (n3.below hb1 n3.lt)
   have nt := Lib.hid (nt.below hb1 nt.lt)
   have nb := Lib.hid (nb.trans (hb1.mono nb.size))
   clear hb1 hW1 HTf HSf HSUB z0 z1 z2 z3 z4 m0 m1 m2 m3
   obtain ⟨W2, hW2⟩ : ∃ W2, W2 = w1.alloc (.cells (natC X) 27) := ⟨_, rfl⟩
   have p3 := Lib.hid (show Blk W2 (w.heap.size + 3) 27 #[.int .u64 0, .int .u64 0, .int .u64 0, .int .u64 0] by rw [hW2]; exact n3.out.alloc _)
   have pb := Lib.hid (show Below w.heap.size w W2 by rw [hW2]; exact nb.out.alloc nb.out.size _)
   have l5 := n5.out.lt
   have l4 := nt.out.lt
   obtain ⟨a0, a1, a2, a3⟩ := blk_c4 n5.out
   have z4 := nt.out.cell (i := 4) (by simp)
   simp only [List.getD_cons_zero, List.getD_cons_succ] at z4
   cases ov
   all_goals
    go_wp2_with fail
    rw [← hW2]
    clear hW2 a0 a1 a2 a3 z4 l5 l4 hcar
    refine (limbPick_any _ X S W2).mono ?_
    rintro e w3 ⟨rfl, hb3⟩
    have y3 := Lib.hid (p3.out.below hb3 p3.out.lt)
    have y4 := Lib.hid (pb.out.trans (hb3.mono pb.out.size))
    clear hb3 p3 pb
    have hv := HVAL.out
    first | rw [show (false || !un) = !un from rfl] at hv | rw [show (true || !un) = true from rfl] at hv
    rw [hv]
    clear hv HVAL
    obtain ⟨c0, c1, c2, c3⟩ := blk_c4 y3.out
    have cf := y3.out.frozen
    go_wp2
    obtain ⟨k1, k2⟩ := set_nat y3.out rfl R
    exact bodyPost_ret (results_blk (d := .array 4 25) Tryz.results86 rfl k1 rfl Tryz.underlying27 (by kernel_rfl)) rfl ⟨R, rfl, HR1.out, HR2.out, y4.out.trans (gb_to_below k2 y4.out.size (fun k e => by injection e; omega))⟩
end Go.Proofs.YtdcganigfihkjaaGreatDoor
/- Contracts of the layer field: mul. -/
namespace Go.Proofs.YtdcganigfihkjaaGreatDoor
open Go.RowKit Go.Chr
structure ModOK (m s : Nat) (v : Int) : Prop where
 pos : 0 < m
 lt : m < 115792089237316195423570985008687907853269984665640564039457584007913129639936
 inv : (lb m 0 * v + 1) % 18446744073709551616 = 0
 sq : s = 115792089237316195423570985008687907853269984665640564039457584007913129639936 * 115792089237316195423570985008687907853269984665640564039457584007913129639936 % m
 co : ∃ u, 115792089237316195423570985008687907853269984665640564039457584007913129639936 * u % m = 1 % m
theorem cancel {m K u x y : Nat} (hu : K * u % m = 1 % m) (h : (x * K) % m = (y * K) % m) : x % m = y % m := by
 have e : ∀ z, z % m = (z * K % m * u) % m := fun z => by
  rw [Nat.mod_mul_mod, Nat.mul_assoc, Nat.mul_mod, hu, ← Nat.mul_mod, Nat.mul_one]
 rw [e x, e y, h]
theorem mont_mul {m s a b r1 r2 K u : Nat} (hu : K * u % m = 1 % m) (hs : s = K * K % m) (h1 : (r1 * K) % m = (a * b) % m) (h2 : (r2 * K) % m = (r1 * s) % m) (hr : r2 < m) : r2 = a * b % m := by
 have e1 : (r2 * K) % m = (r1 * K * K) % m := by
  rw [h2, hs, Nat.mul_mod_mod, Nat.mul_assoc]
 have e2 := cancel hu e1
 rw [Nat.mod_eq_of_lt hr, h1] at e2
 exact e2
set_option maxRecDepth 100000 in
set_option maxHeartbeats 4000000 in
theorem fmul_any (m s : Nat) (v : Int) (a b : Nat) (w : World) (ha : a < m) (hb : b < m) (ok : ModOK m s v) :
  Calls Tryz.prog 52 #[.agg (modC m s v), nat4 a, nat4 b] w (RetV w (nat4 (a * b % m))) := by
 have hsm : s < m := by rw [ok.sq]; exact Nat.mod_lt _ ok.pos
 have k1 := fun W => half_any m s v a b W (Nat.lt_trans ha ok.lt) hb ok.lt ok.inv
 have k2 := fun W r1 (h : r1 < m) => half_any m s v r1 s W (Nat.lt_trans h ok.lt) hsm ok.lt ok.inv
 have K1 := Lib.hid k1; have K2 := Lib.hid k2; have OK := Lib.hid ok
 have Sx := Lib.hid (add_start m s v a b w)
 clear k1 k2 ok hsm ha hb
 go_enter Tryz.func52, Tryz.ntmps52
 obtain ⟨W0, hW0⟩ : ∃ W0, W0 = (((w.alloc (.cells (modC m s v) 68)).alloc (.cells (natC a) 27)).alloc (.cells (natC b) 27)).alloc (.cells #[.int .u64 0, .int .u64 0, .int .u64 0, .int .u64 0] 27) := ⟨_, rfl⟩
 have z := Sx.out
 simp only [← hW0] at z
 obtain ⟨z0, z1, z2, z3, z4⟩ := z
 obtain ⟨⟨a0, a1, a2, a3⟩, ⟨a4, a5, a6, a7⟩, a8⟩ := blk_c9 z0
 obtain ⟨b0, b1, b2, b3⟩ := blk_c4 z1
 obtain ⟨c0, c1, c2, c3⟩ := blk_c4 z2
 have l3 := z3.lt
 have Z3 := Lib.hid z3; have Z4 := Lib.hid z4
 clear Sx z0 z1 z2 z3 z4
 have n1 : w.heap.size ≠ w.heap.size + 1 + 1 + 1 := by omega
 have n2 : w.heap.size + 1 ≠ w.heap.size + 1 + 1 + 1 := by omega
 have n3 : w.heap.size + 2 ≠ w.heap.size + 1 + 1 + 1 := by omega
 have n4 : w.heap.size ≠ w.heap.size + 1 + 1 := by omega
 have n4' := n4.symm
 have n1' := n1.symm
 have n2' := n2.symm
 have n3' := n3.symm
 go_wp2_with fail
 rw [← hW0]
 clear hW0
 go_region_held3 (fun w' => w'.cell? ⟨w.heap.size, 0, none⟩ = some (.int .u64 (lb m 0)) ∧ w'.cell? ⟨w.heap.size, 1, none⟩ = some (.int .u64 (lb m 1)) ∧ w'.cell? ⟨w.heap.size, 2, none⟩ = some (.int .u64 (lb m 2)) ∧ w'.cell? ⟨w.heap.size, 3, none⟩ = some (.int .u64 (lb m 3)) ∧ w'.cell? ⟨w.heap.size, 4, none⟩ = some (.int .u64 (lb s 0)) ∧ w'.cell? ⟨w.heap.size, 5, none⟩ = some (.int .u64 (lb s 1)) ∧ w'.cell? ⟨w.heap.size, 6, none⟩ = some (.int .u64 (lb s 2)) ∧ w'.cell? ⟨w.heap.size, 7, none⟩ = some (.int .u64 (lb s 3)) ∧ w'.cell? ⟨w.heap.size, 8, none⟩ = some (.int .u64 v) ∧ w'.cell? ⟨w.heap.size + 1, 0, none⟩ = some (.int .u64 (lb a 0)) ∧ w'.cell? ⟨w.heap.size + 1, 1, none⟩ = some (.int .u64 (lb a 1)) ∧ w'.cell? ⟨w.heap.size + 1, 2, none⟩ = some (.int .u64 (lb a 2)) ∧ w'.cell? ⟨w.heap.size + 1, 3, none⟩ = some (.int .u64 (lb a 3)) ∧ w'.cell? ⟨w.heap.size + 2, 0, none⟩ = some (.int .u64 (lb b 0)) ∧ w'.cell? ⟨w.heap.size + 2, 1, none⟩ = some (.int .u64 (lb b 1)) ∧ w'.cell? ⟨w.heap.size + 2, 2, none⟩ = some (.int .u64 (lb b 2)) ∧ w'.cell? ⟨w.heap.size + 2, 3, none⟩ = some (.int .u64 (lb b 3)))
  (go_keep)
  (first
   | (go_at_call 86; (with_reducible refine (K1.out _).mono ?_); rintro e w1 ⟨r1, rfl, hr1, hr2, hb1⟩; obtain ⟨hc1, -⟩ := bcell hb1; have hc1a := fun o => hc1 w.heap.size o (show w.heap.size < W0.heap.size by omega); have hc1b := fun o => hc1 (w.heap.size + 1) o (show w.heap.size + 1 < W0.heap.size by omega); have hc1c := fun o => hc1 (w.heap.size + 2) o (show w.heap.size + 2 < W0.heap.size by omega); clear hc1; have y3 := Lib.hid (Blk.below (Blk.drew Z3.out) hb1 Z3.out.lt); have y4 := Lib.hid (Below.trans (Below.drew Z4.out) (hb1.mono Z4.out.size)))
   | (go_at_call 86; (with_reducible refine (K2.out _ r1 hr1).mono ?_); rintro e w2 ⟨r2, rfl, hs1, hs2, hb2⟩; obtain ⟨hc2, -⟩ := bcell hb2; have hl := y3.out.lt; have hc2a := fun o => hc2 w.heap.size o (by omega); have hc2b := fun o => hc2 (w.heap.size + 1) o (by omega); have hc2c := fun o => hc2 (w.heap.size + 2) o (by omega); clear hc2; have x3 := Lib.hid (y3.out.below hb2 y3.out.lt); have x4 := Lib.hid (y4.out.trans (hb2.mono y4.out.size)); obtain ⟨d0, d1, d2, d3⟩ := blk_c4 x3.out; have df := x3.out.frozen))
 obtain ⟨u, hu⟩ := OK.out.co
 have hr := Lib.hid (mont_mul hu OK.out.sq hr2 hs2 hs1)
 have hfin := Lib.hid (set_nat x3.out rfl r2)
 clear hu hr1 hr2 hs1 hs2 hc1a hc1b hc1c hc2a hc2b hc2c d0 d1 d2 d3 df hl y3 y4 hb1 hb2
 go_wp2
 exact bodyPost_ret (results_blk (d := .array 4 25) Tryz.results52 rfl hfin.out.1 rfl Tryz.underlying27 (by kernel_rfl)) rfl ⟨by rw [hr.out], x4.out.trans (gb_to_below hfin.out.2 x4.out.size (fun k e => by injection e; omega))⟩
end Go.Proofs.YtdcganigfihkjaaGreatDoor
