import Derived.Test.YtdcganigfihkjaaGreatDoorM10
import Derived.ChangeKeysEq
import Derived.Test.YtdcganigfihkjaaGreatDoorM9
import Derived.Test.YtdcganigfihkjaaGreatDoorM6
/- Contracts of the layer der: Decode, the walk. -/
namespace Go.Proofs.YtdcganigfihkjaaGreatDoor
open Go.RowKit Go.Chr
abbrev z4 : List Int := [0, 0, 0, 0]
def natV (l : List Int) : Value := .agg (l.map (Value.int .u64)).toArray
def RetD (w : World) (o : Option (List Int × List Int)) (e : Ending) (w' : World) : Prop :=
 e = .returned (.tuple #[natV (o.getD (z4, z4)).1, natV (o.getD (z4, z4)).2, .bool o.isSome]) ∧ Below w.heap.size w w'
theorem dec_results {a b d : Nat} {xs ys : Array Value} {t : Bool} {tmps : Array Value} {w : World} (h2 : tmps.getD 2 undef = .pointer (some ⟨a, 0, none⟩)) (h3 : tmps.getD 3 undef = .pointer (some ⟨b, 0, none⟩)) (h4 : tmps.getD 4 undef = .pointer (some ⟨d, 0, none⟩))
  (ha : Blk w a 27 xs) (hb : Blk w b 27 ys) (hd : Blk w d 4 #[.bool t]) (hx : xs.size = 4) (hy : ys.size = 4) :
  (results Tryz.f14 tmps).run Tryz.prog w = .ok (.tuple #[.agg xs, .agg ys, .bool t]) w := by
 have la := load_blk (P := Tryz.prog) (ty := 27) (d := .array 4 25) ha rfl Tryz.underlying27 (by rw [hx]; kernel_rfl)
 have lb := load_blk (P := Tryz.prog) (ty := 27) (d := .array 4 25) hb rfl Tryz.underlying27 (by rw [hy]; kernel_rfl)
 have ld := hd.cell 0
 simp at ld
 have ld' : (loadVar 4 ⟨d, 0, none⟩).run Tryz.prog w = .ok (.bool t) w := by simp [go_sem, ld]
 have h2' := h2
 have h3' := h3
 have h4' := h4
 simp only [Array.getD_eq_getD_getElem?] at h2' h3' h4'
 simp [results, Tryz.results14, h2', h3', h4', asAddr, la, lb, ld']
theorem dec_fail {w w1 : World} {x0 x1 x2 x3 y0 y1 y2 y3 : Value} {tmps : Array Value} {ds : List Deferred}
  (h2 : tmps.getD 2 undef = .pointer (some ⟨w.heap.size, 0, none⟩)) (h3 : tmps.getD 3 undef = .pointer (some ⟨w.heap.size + 1, 0, none⟩)) (h4 : tmps.getD 4 undef = .pointer (some ⟨w.heap.size + 1 + 1, 0, none⟩))
  (hds : ds = [{ target := .fn (.func 37) #[.pointer (some ⟨w.heap.size, 0, none⟩), .pointer (some ⟨w.heap.size + 1, 0, none⟩), .pointer (some ⟨w.heap.size + 1 + 1, 0, none⟩)], args := #[] }])
  (HA : Blk w1 w.heap.size 27 #[x0, x1, x2, x3])
  (HB : Blk w1 (w.heap.size + 1) 27 #[y0, y1, y2, y3])
  (HD : Blk w1 (w.heap.size + 1 + 1) 4 #[.bool false]) (hb : Below w.heap.size w w1) :
  bodyPostD Tryz.prog Tryz.f14 (RetD w none) (Exit.panic wrongV) { tmps := tmps, defers := ds } w1 := by
 subst hds
 unfold bodyPostD
 refine leaves_cons (f := 37) (args := #[.pointer (some ⟨w.heap.size, 0, none⟩), .pointer (some ⟨w.heap.size + 1, 0, none⟩), .pointer (some ⟨w.heap.size + 1 + 1, 0, none⟩)]) (by simp) (by simp [go_sem]) ?_
 refine (caught _ _ _ _ _ _ _ _ _ _ _ _ [] _ _ _ HA HB HD (by omega) (by omega) (by omega)).mono ?_
 rintro e u' w'' ⟨rfl, rfl, ha, hb', hd, hbl⟩
 exact ⟨_, dec_results h2 h3 h4 ha hb' hd rfl rfl, rfl, hb.trans (hbl _ (Nat.le_refl _) (by omega) (by omega))⟩
theorem dec_ok {w w1 : World} {a0 a1 a2 a3 b0 b1 b2 b3 : Int} {tmps : Array Value} {ds : List Deferred}
  (h2 : tmps.getD 2 undef = .pointer (some ⟨w.heap.size, 0, none⟩)) (h3 : tmps.getD 3 undef = .pointer (some ⟨w.heap.size + 1, 0, none⟩)) (h4 : tmps.getD 4 undef = .pointer (some ⟨w.heap.size + 1 + 1, 0, none⟩))
  (hds : ds = [{ target := .fn (.func 37) #[.pointer (some ⟨w.heap.size, 0, none⟩), .pointer (some ⟨w.heap.size + 1, 0, none⟩), .pointer (some ⟨w.heap.size + 1 + 1, 0, none⟩)], args := #[] }])
  (HA : Blk w1 w.heap.size 27 #[.int .u64 a0, .int .u64 a1, .int .u64 a2, .int .u64 a3])
  (HB : Blk w1 (w.heap.size + 1) 27 #[.int .u64 b0, .int .u64 b1, .int .u64 b2, .int .u64 b3])
  (HD : Blk w1 (w.heap.size + 1 + 1) 4 #[.bool true]) (hb : Below w.heap.size w w1) :
  bodyPostD Tryz.prog Tryz.f14 (RetD w (some ([a0, a1, a2, a3], [b0, b1, b2, b3]))) Exit.ret { tmps := tmps, defers := ds } w1 := by
 subst hds
 unfold bodyPostD
 refine leaves_cons (f := 37) (args := #[.pointer (some ⟨w.heap.size, 0, none⟩), .pointer (some ⟨w.heap.size + 1, 0, none⟩), .pointer (some ⟨w.heap.size + 1 + 1, 0, none⟩)]) (by simp) (by simp [go_sem]) ?_
 refine (idle _ _ _ w1).mono ?_
 rintro e u' w'' ⟨rfl, rfl, rfl⟩
 exact ⟨_, dec_results h2 h3 h4 HA HB HD rfl rfl, rfl, hb⟩
noncomputable def decB : List Int → Option (List Int × List Int)
 | x :: n :: r => if x = 48 ∧ n = r.length then (rdI r).bind fun (a, r1) => (rdI r1).bind fun (b, r2) => if r2 = [] then some (a, b) else none else none
 | _ => none
theorem decB_cons (x n : Int) (r : List Int) : decB (x :: n :: r) = if x = 48 ∧ n = r.length then (rdI r).bind fun (a, r1) => (rdI r1).bind fun (b, r2) => if r2 = [] then some (a, b) else none else none := rfl
theorem rdI_some {r r1 a : List Int} (h : rdI r = some (a, r1)) : r1.length ≤ r.length ∧ (∀ x ∈ r1, x ∈ r) ∧ ∃ a0 a1 a2 a3, a = [a0, a1, a2, a3] := by
 rcases r with _ | ⟨x, _ | ⟨n, r⟩⟩
 ·cases h
 ·cases h
 ·rw [rdI_cons] at h
  split at h
  ·injection h with h
   injection h with h1 h2
   subst h1 h2
   refine ⟨by simp; omega, fun x hx => ?_, _, _, _, _, rfl⟩
   simp [List.mem_of_mem_drop hx]
  ·cases h
def Kept (w W : World) : Prop :=
 Blk W w.heap.size 27 #[.int .u64 0, .int .u64 0, .int .u64 0, .int .u64 0] ∧
 Blk W (w.heap.size + 1) 27 #[.int .u64 0, .int .u64 0, .int .u64 0, .int .u64 0] ∧
 Blk W (w.heap.size + 1 + 1) 4 #[.bool false] ∧ Below w.heap.size w W ∧ w.heap.size ≤ W.heap.size
theorem Kept.but {w W W' : World} (h : Kept w W) (hb : But (w.heap.size + 1 + 1 + 1) W W') : Kept w W' := by
 obtain ⟨h1, h2, h3, h4, h5⟩ := h
 exact ⟨h1.grown hb (by simp; omega), h2.grown hb (by simp), h3.grown hb (by simp), h4.trans (gb_to_below hb h5 (fun k e => by injection e; omega)), Nat.le_trans h5 hb.size⟩
set_option maxRecDepth 100000 in
set_option maxHeartbeats 1000000 in
theorem byte_nil (g : Nat) (v : Value) (w : World) (hb : Blk w g 58 #[v]) (h : RI w .u8 v []) : Calls Tryz.prog 39 #[.pointer (some ⟨g, 0, none⟩)] w (RdNo g w) := by
 obtain ⟨A, c, rfl, hc, hr⟩ := h
 have q1 := hb.cell 0
 simp at q1
 have H := Lib.hid hb; clear hb
 go_enter Tryz.func39, Tryz.ntmps39
 go_wp2
 exact ⟨rfl, rfl, World.grownBy.refl w _⟩
set_option maxRecDepth 100000 in
set_option maxHeartbeats 1000000 in
theorem must_nil (g : Nat) (v : Value) (x : Int) (w : World) (hb : Blk w g 58 #[v]) (h : RI w .u8 v []) :
  Calls Tryz.prog 38 #[.pointer (some ⟨g, 0, none⟩), .int .u8 x] w (RdNo g w) := by
 go_enter Tryz.func38, Tryz.ntmps38
 go_wp2_with fail
 refine (byte_nil g v w hb h).mono ?_
 rintro e w1 ⟨rfl, hb⟩
 exact ⟨rfl, rfl, hb⟩
theorem dec_start (w : World) (A : Option Addr) (l : List Int) (c : Nat) (hu : RI w .u8 (.slice A l.length c) l) :
  (l ≠ [] → IsR ((((w.alloc (.cells #[.int .u64 0, .int .u64 0, .int .u64 0, .int .u64 0] 27)).alloc (.cells #[.int .u64 0, .int .u64 0, .int .u64 0, .int .u64 0] 27)).alloc (.cells #[.bool false] 4)).alloc (.cells #[.slice A l.length c] 58)) (w.heap.size + 1 + 1 + 1) w.heap.size l) ∧
  (Blk ((((w.alloc (.cells #[.int .u64 0, .int .u64 0, .int .u64 0, .int .u64 0] 27)).alloc (.cells #[.int .u64 0, .int .u64 0, .int .u64 0, .int .u64 0] 27)).alloc (.cells #[.bool false] 4)).alloc (.cells #[.slice A l.length c] 58)) (w.heap.size + 1 + 1 + 1) 58 #[.slice A l.length c]) ∧
  (RI ((((w.alloc (.cells #[.int .u64 0, .int .u64 0, .int .u64 0, .int .u64 0] 27)).alloc (.cells #[.int .u64 0, .int .u64 0, .int .u64 0, .int .u64 0] 27)).alloc (.cells #[.bool false] 4)).alloc (.cells #[.slice A l.length c] 58)) .u8 (.slice A l.length c) l) ∧
  Kept w ((((w.alloc (.cells #[.int .u64 0, .int .u64 0, .int .u64 0, .int .u64 0] 27)).alloc (.cells #[.int .u64 0, .int .u64 0, .int .u64 0, .int .u64 0] 27)).alloc (.cells #[.bool false] 4)).alloc (.cells #[.slice A l.length c] 58)) := by
 have hbl := ((((Below.refl w.heap.size w).alloc (Nat.le_refl _) (.cells #[.int .u64 0, .int .u64 0, .int .u64 0, .int .u64 0] 27)).alloc (by simp) (.cells #[.int .u64 0, .int .u64 0, .int .u64 0, .int .u64 0] 27)).alloc (by simp; omega) (.cells #[.bool false] 4)).alloc (by simp; omega) (.cells #[.slice A l.length c] 58)
 have hg : Blk ((((w.alloc (.cells #[.int .u64 0, .int .u64 0, .int .u64 0, .int .u64 0] 27)).alloc (.cells #[.int .u64 0, .int .u64 0, .int .u64 0, .int .u64 0] 27)).alloc (.cells #[.bool false] 4)).alloc (.cells #[.slice A l.length c] 58)) (w.heap.size + 1 + 1 + 1) 58 #[.slice A l.length c] := by
  have := Blk.new (((w.alloc (.cells #[.int .u64 0, .int .u64 0, .int .u64 0, .int .u64 0] 27)).alloc (.cells #[.int .u64 0, .int .u64 0, .int .u64 0, .int .u64 0] 27)).alloc (.cells #[.bool false] 4)) 58 #[.slice A l.length c]
  simpa using this
 refine ⟨fun hne => ⟨.slice A l.length c, hg, hu.below hbl, ?_⟩, hg, hu.below hbl, ?_, ?_, ?_, hbl, by simp; omega⟩
 ·intro A' n' c' e
  obtain ⟨A2, c2, e2, -, hr⟩ := hu
  injection e with e1 e3 e4
  injection e2 with e5 e6 e7
  subst e5 e1
  obtain ⟨ad, e8, hbl', -⟩ := hr.2 (List.length_pos_iff.2 hne)
  injection e8 with e8
  subst e8
  exact ⟨by omega, hbl'⟩
 ·exact (((Blk.new w _ _).alloc _).alloc _).alloc _
 ·have := (((Blk.new (w.alloc (.cells #[.int .u64 0, .int .u64 0, .int .u64 0, .int .u64 0] 27)) 27 #[.int .u64 0, .int .u64 0, .int .u64 0, .int .u64 0]).alloc (.cells #[.bool false] 4)).alloc (.cells #[.slice A l.length c] 58))
  simpa using this
 ·have := (((Blk.new ((w.alloc (.cells #[.int .u64 0, .int .u64 0, .int .u64 0, .int .u64 0] 27)).alloc (.cells #[.int .u64 0, .int .u64 0, .int .u64 0, .int .u64 0] 27)) 4 #[.bool false]).alloc (.cells #[.slice A l.length c] 58)))
  simpa using this
theorem kept_one {w w4 : World} {a0 a1 a2 a3 b0 b1 b2 b3 : Int} (k : Kept w w4) :
  Blk ((((((((w4.setCell ⟨w.heap.size, 0, none⟩ (.int .u64 a0)).setCell ⟨w.heap.size, 1, none⟩ (.int .u64 a1)).setCell ⟨w.heap.size, 2, none⟩ (.int .u64 a2)).setCell ⟨w.heap.size, 3, none⟩ (.int .u64 a3)).setCell ⟨w.heap.size + 1, 0, none⟩ (.int .u64 b0)).setCell ⟨w.heap.size + 1, 1, none⟩ (.int .u64 b1)).setCell ⟨w.heap.size + 1, 2, none⟩ (.int .u64 b2)).setCell ⟨w.heap.size + 1, 3, none⟩ (.int .u64 b3)) w.heap.size 27 #[.int .u64 a0, .int .u64 a1, .int .u64 a2, .int .u64 a3] ∧ Blk ((((((((w4.setCell ⟨w.heap.size, 0, none⟩ (.int .u64 a0)).setCell ⟨w.heap.size, 1, none⟩ (.int .u64 a1)).setCell ⟨w.heap.size, 2, none⟩ (.int .u64 a2)).setCell ⟨w.heap.size, 3, none⟩ (.int .u64 a3)).setCell ⟨w.heap.size + 1, 0, none⟩ (.int .u64 b0)).setCell ⟨w.heap.size + 1, 1, none⟩ (.int .u64 b1)).setCell ⟨w.heap.size + 1, 2, none⟩ (.int .u64 b2)).setCell ⟨w.heap.size + 1, 3, none⟩ (.int .u64 b3)) (w.heap.size + 1) 27 #[.int .u64 b0, .int .u64 b1, .int .u64 b2, .int .u64 b3] ∧ Blk ((((((((w4.setCell ⟨w.heap.size, 0, none⟩ (.int .u64 a0)).setCell ⟨w.heap.size, 1, none⟩ (.int .u64 a1)).setCell ⟨w.heap.size, 2, none⟩ (.int .u64 a2)).setCell ⟨w.heap.size, 3, none⟩ (.int .u64 a3)).setCell ⟨w.heap.size + 1, 0, none⟩ (.int .u64 b0)).setCell ⟨w.heap.size + 1, 1, none⟩ (.int .u64 b1)).setCell ⟨w.heap.size + 1, 2, none⟩ (.int .u64 b2)).setCell ⟨w.heap.size + 1, 3, none⟩ (.int .u64 b3)) (w.heap.size + 1 + 1) 4 #[.bool false] ∧ Below w.heap.size w ((((((((w4.setCell ⟨w.heap.size, 0, none⟩ (.int .u64 a0)).setCell ⟨w.heap.size, 1, none⟩ (.int .u64 a1)).setCell ⟨w.heap.size, 2, none⟩ (.int .u64 a2)).setCell ⟨w.heap.size, 3, none⟩ (.int .u64 a3)).setCell ⟨w.heap.size + 1, 0, none⟩ (.int .u64 b0)).setCell ⟨w.heap.size + 1, 1, none⟩ (.int .u64 b1)).setCell ⟨w.heap.size + 1, 2, none⟩ (.int .u64 b2)).setCell ⟨w.heap.size + 1, 3, none⟩ (.int .u64 b3)) := by
 have hK := Lib.hid k
 have n1 : w.heap.size ≠ w.heap.size + 1 := by omega
 have n2 : w.heap.size + 1 ≠ w.heap.size := by omega
 have n3 : w.heap.size + 1 + 1 ≠ w.heap.size := by omega
 have n4 : w.heap.size + 1 + 1 ≠ w.heap.size + 1 := by omega
 have ZA : Blk _ w.heap.size 27 #[.int .u64 a0, .int .u64 a1, .int .u64 a2, .int .u64 a3] := ((((((((hK.out.1).set_ 0 (.int .u64 a0)).set_ 1 (.int .u64 a1)).set_ 2 (.int .u64 a2)).set_ 3 (.int .u64 a3)).far (p := ⟨w.heap.size + 1, 0, none⟩) n1 (.int .u64 b0)).far (p := ⟨w.heap.size + 1, 1, none⟩) n1 (.int .u64 b1)).far (p := ⟨w.heap.size + 1, 2, none⟩) n1 (.int .u64 b2)).far (p := ⟨w.heap.size + 1, 3, none⟩) n1 (.int .u64 b3)
 have ZB : Blk _ (w.heap.size + 1) 27 #[.int .u64 b0, .int .u64 b1, .int .u64 b2, .int .u64 b3] := ((((((((hK.out.2.1).far (p := ⟨w.heap.size, 0, none⟩) n2 (.int .u64 a0)).far (p := ⟨w.heap.size, 1, none⟩) n2 (.int .u64 a1)).far (p := ⟨w.heap.size, 2, none⟩) n2 (.int .u64 a2)).far (p := ⟨w.heap.size, 3, none⟩) n2 (.int .u64 a3)).set_ 0 (.int .u64 b0)).set_ 1 (.int .u64 b1)).set_ 2 (.int .u64 b2)).set_ 3 (.int .u64 b3)
 have ZD := ((((((((hK.out.2.2.1).far (p := ⟨w.heap.size, 0, none⟩) n3 (.int .u64 a0)).far (p := ⟨w.heap.size, 1, none⟩) n3 (.int .u64 a1)).far (p := ⟨w.heap.size, 2, none⟩) n3 (.int .u64 a2)).far (p := ⟨w.heap.size, 3, none⟩) n3 (.int .u64 a3)).far (p := ⟨w.heap.size + 1, 0, none⟩) n4 (.int .u64 b0)).far (p := ⟨w.heap.size + 1, 1, none⟩) n4 (.int .u64 b1)).far (p := ⟨w.heap.size + 1, 2, none⟩) n4 (.int .u64 b2)).far (p := ⟨w.heap.size + 1, 3, none⟩) n4 (.int .u64 b3)
 have ZL := ((((((((hK.out.2.2.2.1).setCell (p := ⟨w.heap.size, 0, none⟩) (Nat.le_refl _) (.int .u64 a0)).setCell (p := ⟨w.heap.size, 1, none⟩) (Nat.le_refl _) (.int .u64 a1)).setCell (p := ⟨w.heap.size, 2, none⟩) (Nat.le_refl _) (.int .u64 a2)).setCell (p := ⟨w.heap.size, 3, none⟩) (Nat.le_refl _) (.int .u64 a3)).setCell (p := ⟨w.heap.size + 1, 0, none⟩) (Nat.le_succ _) (.int .u64 b0)).setCell (p := ⟨w.heap.size + 1, 1, none⟩) (Nat.le_succ _) (.int .u64 b1)).setCell (p := ⟨w.heap.size + 1, 2, none⟩) (Nat.le_succ _) (.int .u64 b2)).setCell (p := ⟨w.heap.size + 1, 3, none⟩) (Nat.le_succ _) (.int .u64 b3)
 exact ⟨ZA, ZB, ZD, ZL⟩
theorem kept_two {w w4 : World} {a0 a1 a2 a3 b0 b1 b2 b3 : Int} (k : Kept w w4) :
  Blk (((((((((((((((((w4.setCell ⟨w.heap.size, 0, none⟩ (.int .u64 a0)).setCell ⟨w.heap.size, 1, none⟩ (.int .u64 a1)).setCell ⟨w.heap.size, 2, none⟩ (.int .u64 a2)).setCell ⟨w.heap.size, 3, none⟩ (.int .u64 a3)).setCell ⟨w.heap.size + 1, 0, none⟩ (.int .u64 b0)).setCell ⟨w.heap.size + 1, 1, none⟩ (.int .u64 b1)).setCell ⟨w.heap.size + 1, 2, none⟩ (.int .u64 b2)).setCell ⟨w.heap.size + 1, 3, none⟩ (.int .u64 b3)).setCell ⟨w.heap.size, 0, none⟩ (.int .u64 a0)).setCell ⟨w.heap.size, 1, none⟩ (.int .u64 a1)).setCell ⟨w.heap.size, 2, none⟩ (.int .u64 a2)).setCell ⟨w.heap.size, 3, none⟩ (.int .u64 a3)).setCell ⟨w.heap.size + 1, 0, none⟩ (.int .u64 b0)).setCell ⟨w.heap.size + 1, 1, none⟩ (.int .u64 b1)).setCell ⟨w.heap.size + 1, 2, none⟩ (.int .u64 b2)).setCell ⟨w.heap.size + 1, 3, none⟩ (.int .u64 b3)).setCell ⟨w.heap.size + 1 + 1, 0, none⟩ (.bool true)) w.heap.size 27 #[.int .u64 a0, .int .u64 a1, .int .u64 a2, .int .u64 a3] ∧ Blk (((((((((((((((((w4.setCell ⟨w.heap.size, 0, none⟩ (.int .u64 a0)).setCell ⟨w.heap.size, 1, none⟩ (.int .u64 a1)).setCell ⟨w.heap.size, 2, none⟩ (.int .u64 a2)).setCell ⟨w.heap.size, 3, none⟩ (.int .u64 a3)).setCell ⟨w.heap.size + 1, 0, none⟩ (.int .u64 b0)).setCell ⟨w.heap.size + 1, 1, none⟩ (.int .u64 b1)).setCell ⟨w.heap.size + 1, 2, none⟩ (.int .u64 b2)).setCell ⟨w.heap.size + 1, 3, none⟩ (.int .u64 b3)).setCell ⟨w.heap.size, 0, none⟩ (.int .u64 a0)).setCell ⟨w.heap.size, 1, none⟩ (.int .u64 a1)).setCell ⟨w.heap.size, 2, none⟩ (.int .u64 a2)).setCell ⟨w.heap.size, 3, none⟩ (.int .u64 a3)).setCell ⟨w.heap.size + 1, 0, none⟩ (.int .u64 b0)).setCell ⟨w.heap.size + 1, 1, none⟩ (.int .u64 b1)).setCell ⟨w.heap.size + 1, 2, none⟩ (.int .u64 b2)).setCell ⟨w.heap.size + 1, 3, none⟩ (.int .u64 b3)).setCell ⟨w.heap.size + 1 + 1, 0, none⟩ (.bool true)) (w.heap.size + 1) 27 #[.int .u64 b0, .int .u64 b1, .int .u64 b2, .int .u64 b3] ∧ Blk (((((((((((((((((w4.setCell ⟨w.heap.size, 0, none⟩ (.int .u64 a0)).setCell ⟨w.heap.size, 1, none⟩ (.int .u64 a1)).setCell ⟨w.heap.size, 2, none⟩ (.int .u64 a2)).setCell ⟨w.heap.size, 3, none⟩ (.int .u64 a3)).setCell ⟨w.heap.size + 1, 0, none⟩ (.int .u64 b0)).setCell ⟨w.heap.size + 1, 1, none⟩ (.int .u64 b1)).setCell ⟨w.heap.size + 1, 2, none⟩ (.int .u64 b2)).setCell ⟨w.heap.size + 1, 3, none⟩ (.int .u64 b3)).setCell ⟨w.heap.size, 0, none⟩ (.int .u64 a0)).setCell ⟨w.heap.size, 1, none⟩ (.int .u64 a1)).setCell ⟨w.heap.size, 2, none⟩ (.int .u64 a2)).setCell ⟨w.heap.size, 3, none⟩ (.int .u64 a3)).setCell ⟨w.heap.size + 1, 0, none⟩ (.int .u64 b0)).setCell ⟨w.heap.size + 1, 1, none⟩ (.int .u64 b1)).setCell ⟨w.heap.size + 1, 2, none⟩ (.int .u64 b2)).setCell ⟨w.heap.size + 1, 3, none⟩ (.int .u64 b3)).setCell ⟨w.heap.size + 1 + 1, 0, none⟩ (.bool true)) (w.heap.size + 1 + 1) 4 #[.bool true] ∧ Below w.heap.size w (((((((((((((((((w4.setCell ⟨w.heap.size, 0, none⟩ (.int .u64 a0)).setCell ⟨w.heap.size, 1, none⟩ (.int .u64 a1)).setCell ⟨w.heap.size, 2, none⟩ (.int .u64 a2)).setCell ⟨w.heap.size, 3, none⟩ (.int .u64 a3)).setCell ⟨w.heap.size + 1, 0, none⟩ (.int .u64 b0)).setCell ⟨w.heap.size + 1, 1, none⟩ (.int .u64 b1)).setCell ⟨w.heap.size + 1, 2, none⟩ (.int .u64 b2)).setCell ⟨w.heap.size + 1, 3, none⟩ (.int .u64 b3)).setCell ⟨w.heap.size, 0, none⟩ (.int .u64 a0)).setCell ⟨w.heap.size, 1, none⟩ (.int .u64 a1)).setCell ⟨w.heap.size, 2, none⟩ (.int .u64 a2)).setCell ⟨w.heap.size, 3, none⟩ (.int .u64 a3)).setCell ⟨w.heap.size + 1, 0, none⟩ (.int .u64 b0)).setCell ⟨w.heap.size + 1, 1, none⟩ (.int .u64 b1)).setCell ⟨w.heap.size + 1, 2, none⟩ (.int .u64 b2)).setCell ⟨w.heap.size + 1, 3, none⟩ (.int .u64 b3)).setCell ⟨w.heap.size + 1 + 1, 0, none⟩ (.bool true)) := by
 obtain ⟨ZA, ZB, ZD, ZL⟩ := kept_one (a0 := a0) (a1 := a1) (a2 := a2) (a3 := a3) (b0 := b0) (b1 := b1) (b2 := b2) (b3 := b3) k
 have n1 : w.heap.size ≠ w.heap.size + 1 := by omega
 have n2 : w.heap.size + 1 ≠ w.heap.size := by omega
 have n3 : w.heap.size + 1 + 1 ≠ w.heap.size := by omega
 have n4 : w.heap.size + 1 + 1 ≠ w.heap.size + 1 := by omega
 have YA : Blk _ w.heap.size 27 #[.int .u64 a0, .int .u64 a1, .int .u64 a2, .int .u64 a3] := (((((((((ZA).set_ 0 (.int .u64 a0)).set_ 1 (.int .u64 a1)).set_ 2 (.int .u64 a2)).set_ 3 (.int .u64 a3)).far (p := ⟨w.heap.size + 1, 0, none⟩) n1 (.int .u64 b0)).far (p := ⟨w.heap.size + 1, 1, none⟩) n1 (.int .u64 b1)).far (p := ⟨w.heap.size + 1, 2, none⟩) n1 (.int .u64 b2)).far (p := ⟨w.heap.size + 1, 3, none⟩) n1 (.int .u64 b3)).far (p := ⟨w.heap.size + 1 + 1, 0, none⟩) n3.symm (.bool true)
 have YB : Blk _ (w.heap.size + 1) 27 #[.int .u64 b0, .int .u64 b1, .int .u64 b2, .int .u64 b3] := (((((((((ZB).far (p := ⟨w.heap.size, 0, none⟩) n2 (.int .u64 a0)).far (p := ⟨w.heap.size, 1, none⟩) n2 (.int .u64 a1)).far (p := ⟨w.heap.size, 2, none⟩) n2 (.int .u64 a2)).far (p := ⟨w.heap.size, 3, none⟩) n2 (.int .u64 a3)).set_ 0 (.int .u64 b0)).set_ 1 (.int .u64 b1)).set_ 2 (.int .u64 b2)).set_ 3 (.int .u64 b3)).far (p := ⟨w.heap.size + 1 + 1, 0, none⟩) n4.symm (.bool true)
 have YD : Blk _ (w.heap.size + 1 + 1) 4 #[.bool true] := (((((((((ZD).far (p := ⟨w.heap.size, 0, none⟩) n3 (.int .u64 a0)).far (p := ⟨w.heap.size, 1, none⟩) n3 (.int .u64 a1)).far (p := ⟨w.heap.size, 2, none⟩) n3 (.int .u64 a2)).far (p := ⟨w.heap.size, 3, none⟩) n3 (.int .u64 a3)).far (p := ⟨w.heap.size + 1, 0, none⟩) n4 (.int .u64 b0)).far (p := ⟨w.heap.size + 1, 1, none⟩) n4 (.int .u64 b1)).far (p := ⟨w.heap.size + 1, 2, none⟩) n4 (.int .u64 b2)).far (p := ⟨w.heap.size + 1, 3, none⟩) n4 (.int .u64 b3)).set_ 0 (.bool true)
 have YL := (((((((((ZL).setCell (p := ⟨w.heap.size, 0, none⟩) (Nat.le_refl _) (.int .u64 a0)).setCell (p := ⟨w.heap.size, 1, none⟩) (Nat.le_refl _) (.int .u64 a1)).setCell (p := ⟨w.heap.size, 2, none⟩) (Nat.le_refl _) (.int .u64 a2)).setCell (p := ⟨w.heap.size, 3, none⟩) (Nat.le_refl _) (.int .u64 a3)).setCell (p := ⟨w.heap.size + 1, 0, none⟩) (Nat.le_succ _) (.int .u64 b0)).setCell (p := ⟨w.heap.size + 1, 1, none⟩) (Nat.le_succ _) (.int .u64 b1)).setCell (p := ⟨w.heap.size + 1, 2, none⟩) (Nat.le_succ _) (.int .u64 b2)).setCell (p := ⟨w.heap.size + 1, 3, none⟩) (Nat.le_succ _) (.int .u64 b3)).setCell (p := ⟨w.heap.size + 1 + 1, 0, none⟩) (by simp; omega) (.bool true)
 exact ⟨YA, YB, YD, YL⟩
set_option maxRecDepth 100000 in
set_option maxHeartbeats 4000000 in
theorem decode_any (u : Value) (l : List Int) (w : World) (hu : RI w .u8 u l) (hlen : l.length ≤ 1000000) (hby : ∀ x ∈ l, 0 ≤ x ∧ x < 256) :
  Calls Tryz.prog 14 #[u] w (RetD w (decB l)) := by
 have hmf : ∀ (fn : Fn) (first cap : Array Value) (w : World), (Instr.makeFunc fn first cap).run Tryz.prog w = .ok (.func fn first cap) w := fun _ _ _ _ => rfl
 obtain ⟨A, c, rfl, hc, hr⟩ := hu
 obtain ⟨h0, hg0, hr0, hk⟩ := dec_start w A l c ⟨A, c, rfl, hc, hr⟩
 obtain ⟨W0, hW0⟩ : ∃ W0, W0 = ((((w.alloc (.cells #[.int .u64 0, .int .u64 0, .int .u64 0, .int .u64 0] 27)).alloc (.cells #[.int .u64 0, .int .u64 0, .int .u64 0, .int .u64 0] 27)).alloc (.cells #[.bool false] 4)).alloc (.cells #[.slice A l.length c] 58)) := ⟨_, rfl⟩
 rw [← hW0] at h0 hg0 hr0 hk
 obtain ⟨N, hN⟩ : ∃ N, N = l.length := ⟨_, rfl⟩
 rw [← hN] at hW0 hg0 hr0 ⊢
 clear hN hc hr
 obtain ⟨D, hD⟩ : ∃ D, D = decB l := ⟨_, rfl⟩
 rw [← hD]
 have HD := Lib.hid hD; clear hD
 go_enter_defers Tryz.func14, Tryz.ntmps14
 by_cases hh : l.head? = some 48
 ·obtain ⟨t, rfl⟩ : ∃ t, l = 48 :: t := by
   rcases l with _ | ⟨x, t⟩
   ·simp at hh
   ·simp at hh; subst hh; exact ⟨t, rfl⟩
  have h0 := h0 (by simp)
  clear hg0 hr0
  go_wp2_with fail
  rw [← hW0]
  have ht : t.length ≤ 1000000 := by simp at hlen; omega
  have hwB : w.heap.size ≤ W0.heap.size := hk.2.2.2.2
  refine (must_yes _ _ 48 t _ h0 (by omega)).mono ?_
  rintro e w1 ⟨rfl, h1, hb⟩
  have k1 := hk.but hb
  go_wp2_with fail
  rcases t with _ | ⟨n, r⟩
  ·refine (byte_no _ _ w1 h1).mono ?_
   rintro e w2 ⟨rfl, hb2⟩
   obtain rfl : D = none := HD.out
   go_wp2_with fail
   have k := k1.but hb2
   exact dec_fail rfl rfl rfl rfl k.1 k.2.1 k.2.2.1 k.2.2.2.1
  ·have hr : r.length ≤ 1000000 := by simp at ht; omega
   have hn := hby n (by simp)
   have hby' : ∀ x ∈ r, 0 ≤ x ∧ x < 256 := fun x hx => hby x (by simp [hx])
   refine (byte_yes _ _ n r w1 h1 (by omega)).mono ?_
   rintro e w2 ⟨rfl, h2, hb2⟩
   have k2 := k1.but hb2
   have h2' := h2
   obtain ⟨v, hblk, ⟨A', c', rfl, hc', -⟩, -⟩ := h2'
   have q1 := hblk.cell 0
   simp at q1
   clear hblk
   by_cases hnl : n = r.length
   ·have hne : (n != (r.length : Int)) = false := by simpa using hnl
    go_wp2_with fail
    refine (rd_integer _ _ r w2 k2.2.2.2.2 h2 hr hby').mono ?_
    have e1 : decB (48 :: n :: r) = (rdI r).bind fun (a, r1) => (rdI r1).bind fun (b, r2) => if r2 = [] then some (a, b) else none := by rw [decB_cons, if_pos ⟨rfl, hnl⟩]
    have E1 := Lib.hid (HD.out.trans e1); clear e1
    cases hI : rdI r with
    | none =>
     rintro e w3 ⟨rfl, hb3⟩
     have k3 := k2.but hb3
     obtain rfl : D = none := by rw [E1.out, hI]; rfl
     go_wp2_with fail
     exact dec_fail rfl rfl rfl rfl k3.1 k3.2.1 k3.2.2.1 k3.2.2.2.1
    | some p =>
     obtain ⟨a, r1⟩ := p
     obtain ⟨hr1, hm1, a0, a1, a2, a3, rfl⟩ := rdI_some hI
     rintro e w3 ⟨rfl, h3, hb3⟩
     have k3 := k2.but hb3
     go_wp2_with fail
     refine (rd_integer _ _ r1 w3 k3.2.2.2.2 h3 (by omega) (fun x hx => hby' x (hm1 x hx))).mono ?_
     cases hJ : rdI r1 with
     | none =>
      rintro e w4 ⟨rfl, hb4⟩
      have k4 := k3.but hb4
      obtain rfl : D = none := by rw [E1.out, hI, Option.bind_some]; simp only [hJ]; rfl
      go_wp2_with fail
      exact dec_fail rfl rfl rfl rfl k4.1 k4.2.1 k4.2.2.1 k4.2.2.2.1
     | some p =>
      obtain ⟨b, r2⟩ := p
      obtain ⟨hr2, hm2, b0, b1, b2, b3, rfl⟩ := rdI_some hJ
      rintro e w4 ⟨rfl, h4, hb4⟩
      have k4 := k3.but hb4
      obtain ⟨v, hblk, ⟨A', c', rfl, hc', -⟩, -⟩ := h4
      have E2 : D = if r2 = [] then some ([a0, a1, a2, a3], [b0, b1, b2, b3]) else none := by rw [E1.out, hI, Option.bind_some]; simp only [hJ]; rfl
      simp only [List.map_cons, List.map_nil]
      have s1 := hblk.cell 0
      simp at s1
      have f0 := k4.1.cell
      have f1 := k4.1.frozen
      have f2 := k4.2.1.cell
      have f3 := k4.2.1.frozen
      have f4 := k4.2.2.1.cell
      have f5 := k4.2.2.1.frozen
      have hK := Lib.hid k4; clear k4
      have G1 := Lib.hid (kept_one (a0 := a0) (a1 := a1) (a2 := a2) (a3 := a3) (b0 := b0) (b1 := b1) (b2 := b2) (b3 := b3) hK.out)
      have G2 := Lib.hid (kept_two (a0 := a0) (a1 := a1) (a2 := a2) (a3 := a3) (b0 := b0) (b1 := b1) (b2 := b2) (b3 := b3) hK.out)
      clear hk k1 k2 k3 hb hb2 hb3 hb4 h0 h1 h2 h3 q1 hI hJ hby hby' hm1 hm2
      by_cases hz : r2 = []
      ·subst hz
       rw [if_pos rfl] at E2
       subst E2
       go_wp2
       go_region
       go_wp2
       exact dec_ok rfl rfl rfl rfl G2.out.1.drew G2.out.2.1.drew G2.out.2.2.1.drew G2.out.2.2.2.drew
      ·have hpos : decide ((0 : Int) < r2.length) = true := by have := List.length_pos_iff.2 hz; simp; omega
       rw [if_neg hz] at E2
       subst E2
       have hp1 : (0 : Int) < r2.length := by have := List.length_pos_iff.2 hz; omega
       have hp2 : 0 < r2.length := List.length_pos_iff.2 hz
       go_wp2
       exact dec_fail rfl rfl rfl rfl G1.out.1 G1.out.2.1 G1.out.2.2.1 G1.out.2.2.2
   ·have hne : (n != (r.length : Int)) = true := by simpa using hnl
    have e : decB (48 :: n :: r) = none := by rw [decB_cons, if_neg]; exact fun h => hnl h.2
    obtain rfl : D = none := HD.out.trans e
    go_wp2_with fail
    exact dec_fail rfl rfl rfl rfl k2.1 k2.2.1 k2.2.2.1 k2.2.2.2.1
 ·have e : decB l = none := by
   rcases l with _ | ⟨x, _ | ⟨n, r⟩⟩
   ·rfl
   ·rfl
   ·rw [decB_cons, if_neg]; rintro ⟨rfl, -⟩; exact hh rfl
  obtain rfl : D = none := HD.out.trans e
  go_wp2_with fail
  rw [← hW0]
  refine (show Calls _ _ _ _ (RdNo _ _) by
   rcases l with _ | ⟨x, r⟩
   ·exact must_nil _ _ 48 _ hg0 hr0
   ·exact must_no _ _ 48 _ _ (h0 (by simp)) (by omega) hh).mono ?_
  rintro e w1 ⟨rfl, hb⟩
  go_wp2_with fail
  have k := hk.but hb
  exact dec_fail rfl rfl rfl rfl k.1 k.2.1 k.2.2.1 k.2.2.2.1
end Go.Proofs.YtdcganigfihkjaaGreatDoor
/- The plain law of the layer der: cuts and tails are refused. -/
namespace Go.Proofs.YtdcganigfihkjaaGreatDoor
open Go.RowKit Go.Chr
theorem derE_len (A B : List Int) (hA : A ≠ []) (hB : B ≠ []) (lA : A.length = 32) (lB : B.length = 32) : 8 ≤ (derE A B).length ∧ (derE A B).length ≤ 72 := by
 have a := pBody_length A hA
 have b := pBody_length B hB
 simp only [derE, derI, List.length_cons, List.length_append]
 omega
theorem pBody_mem : ∀ (B : List Int), ∀ x ∈ pBody B, x = 0 ∨ x ∈ B
 | [] => by intro x hx; simp [pBody] at hx
 | [y] => by
   intro x hx
   rw [pBody] at hx
   split at hx <;> simp at hx ⊢ <;> omega
 | y :: z :: r => by
   intro x hx
   rw [pBody] at hx
   split at hx
   ·rcases pBody_mem (z :: r) x hx with h | h
    ·exact .inl h
    ·exact .inr (List.mem_cons_of_mem _ h)
   ·split at hx
    ·rcases List.mem_cons.1 hx with h | h
     ·exact .inl h
     ·exact .inr h
    ·exact .inr hx
theorem leB_bd (L : List Int) : ∀ x ∈ leB L, 0 ≤ x ∧ x < 256 := by
 intro x hx
 simp only [leB, List.mem_map] at hx
 obtain ⟨i, -, rfl⟩ := hx
 omega
theorem derE_bd (A B : List Int) (hA : A ≠ []) (hB : B ≠ []) (lA : A.length = 32) (lB : B.length = 32) (bA : ∀ x ∈ A, 0 ≤ x ∧ x < 256) (bB : ∀ x ∈ B, 0 ≤ x ∧ x < 256) : ∀ x ∈ derE A B, 0 ≤ x ∧ x < 256 := by
 have a := pBody_length A hA
 have b := pBody_length B hB
 intro x hx
 simp only [derE, derI, List.length_cons, List.length_append, List.mem_cons, List.mem_append] at hx
 rcases hx with rfl | rfl | (rfl | rfl | h) | (rfl | rfl | h)
 ·omega
 ·omega
 ·omega
 ·omega
 ·rcases pBody_mem A x h with rfl | h
  ·omega
  ·exact bA x h
 ·omega
 ·omega
 ·rcases pBody_mem B x h with rfl | h
  ·omega
  ·exact bB x h
end Go.Proofs.YtdcganigfihkjaaGreatDoor
/- The plain law of the layer der: what is encoded is decoded, and what is decoded is encoded so. -/
namespace Go.Proofs.YtdcganigfihkjaaGreatDoor
open Go.RowKit Go.Chr
theorem pad_pBody : ∀ A : List Int, A ≠ [] → List.replicate (A.length + 1 - (pBody A).length) 0 ++ pBody A = 0 :: A
 | [x], _ => by rw [pBody]; split <;> simp
 | x :: y :: r, _ => by
  have ih := pad_pBody (y :: r) (by simp)
  have hl := pBody_length (y :: r) (by simp)
  rw [pBody]
  split
  ·rename_i h
   obtain ⟨rfl, -⟩ := h
   rw [show ((0 : Int) :: y :: r).length + 1 - (pBody (y :: r)).length = ((y :: r).length + 1 - (pBody (y :: r)).length) + 1 by simp only [List.length_cons] at *; omega, List.replicate_succ, List.cons_append, ih]
  ·split
   ·simp
   ·rw [show (x :: y :: r).length + 1 - (x :: y :: r).length = 1 by omega]; rfl
theorem pBody_good : ∀ A : List Int, A ≠ [] → (∀ x ∈ A, 0 ≤ x ∧ x < 256) → (pBody A).getD 0 0 < 128 ∧ ¬ (1 < (pBody A).length ∧ (pBody A).getD 0 0 = 0 ∧ (pBody A).getD 1 0 < 128) ∧ ((pBody A).length = A.length + 1 → (pBody A).getD 0 0 = 0)
 | [x], _, hb => by
  rw [pBody]
  split
  ·simp; omega
  ·simp; omega
 | x :: y :: r, _, hb => by
  have ih := pBody_good (y :: r) (by simp) (fun q hq => hb q (List.mem_cons_of_mem _ hq))
  have hl := pBody_length (y :: r) (by simp)
  rw [pBody]
  split
  ·refine ⟨ih.1, ih.2.1, fun h => ?_⟩
   simp only [List.length_cons] at *
   omega
  ·rename_i h
   split
   ·simp; omega
   ·simp only [List.getD_cons_zero, List.getD_cons_succ, List.length_cons]
    omega
theorem pBody_pad (k : Nat) (b : List Int) (hb : b ≠ []) : pBody (List.replicate k 0 ++ b) = pBody b := by
 induction k with
 | zero => rfl
 | succ k ih =>
  rw [List.replicate_succ, List.cons_append]
  obtain ⟨y, r, e⟩ : ∃ y r, List.replicate k 0 ++ b = y :: r := by
   cases h : List.replicate k 0 ++ b with
   | nil => simp at h; exact absurd h.2 hb
   | cons y r => exact ⟨y, r, rfl⟩
  rw [e, pBody_zero, ← e, ih]
theorem pBody_id (b : List Int) (h1 : ¬ 128 ≤ b.getD 0 0) (h2 : ¬ (1 < b.length ∧ b.getD 0 0 = 0 ∧ b.getD 1 0 < 128)) : pBody b = b := by
 rcases b with _ | ⟨x, _ | ⟨y, r⟩⟩
 ·rfl
 ·rw [pBody, if_neg (by simpa using h1)]
 ·rw [pBody, if_neg (by simpa using h2), if_neg (by simpa using h1)]
theorem lt8_digits (x : Int) (n : Nat) : lt8 (fun i => x / 2 ^ (8 * i) % 256) n = x % 256 ^ n := by
 induction n with
 | zero => simp [lt8]
 | succ n ih =>
  rw [lt8, ih, show (2 : Int) ^ (8 * n) = 256 ^ n by rw [Int.pow_mul]; rfl]
  have hp : (0 : Int) < 256 ^ n := Int.pow_pos (by decide)
  have e1 := Int.mul_ediv_add_emod x (256 ^ n)
  have e2 := Int.mul_ediv_add_emod (x / 256 ^ n) 256
  have b1 := Int.emod_nonneg x (show (256 : Int) ^ n ≠ 0 by omega)
  have b2 := Int.emod_lt_of_pos x hp
  have b3 := Int.emod_nonneg (x / 256 ^ n) (show (256 : Int) ≠ 0 by omega)
  have b4 := Int.emod_lt_of_pos (x / 256 ^ n) (show (0 : Int) < 256 by omega)
  generalize x / 256 ^ n = q at *
  generalize q / 256 = q2 at *
  generalize q % 256 = r2 at *
  generalize x % 256 ^ n = r at *
  rw [Int.pow_succ]
  generalize (256 : Int) ^ n = P at *
  have e3 : x = (r + r2 * P) + (P * 256) * q2 := by rw [← e1, ← e2]; grind
  have m1 : 0 ≤ r2 * P := Int.mul_nonneg b3 (by omega)
  have m2 : r2 * P ≤ 255 * P := Int.mul_le_mul_of_nonneg_right (by omega) (by omega)
  rw [e3, Int.add_mul_emod_self_left, Int.emod_eq_of_lt (by omega) (by omega)]
theorem leB_getD (L : List Int) {i : Nat} (h : i < 32) : (leB L).getD i 0 = L.getD (i / 8) 0 / 2 ^ (8 * (i % 8)) % 256 := by
 simp [leB, List.getD, h]
theorem limb_leB (L : List Int) {j : Nat} (hj : j < 4) (h0 : 0 ≤ L.getD j 0) (h1 : L.getD j 0 < 2 ^ 64) : limbTo (leB L) j 32 = L.getD j 0 := by
 unfold limbTo
 rw [show min 8 (32 - 8 * j) = 8 by omega]
 rw [lt8_congr (g := fun i => L.getD j 0 / 2 ^ (8 * i) % 256) (fun q hq => ?_), lt8_digits, show (256 : Int) ^ 8 = 2 ^ 64 by decide, Int.emod_eq_of_lt h0 h1]
 rw [leB_getD L (by omega), show (8 * j + q) / 8 = j by omega, show (8 * j + q) % 8 = q by omega]
theorem leN_leB (a0 a1 a2 a3 : Int) (h : ∀ x ∈ [a0, a1, a2, a3], 0 ≤ x ∧ x < 2 ^ 64) : leN (leB [a0, a1, a2, a3]) = [a0, a1, a2, a3] := by
 have g0 := h a0 (by simp)
 have g1 := h a1 (by simp)
 have g2 := h a2 (by simp)
 have g3 := h a3 (by simp)
 unfold leN leTo
 rw [limb_leB [a0, a1, a2, a3] (j := 0) (by omega) g0.1 g0.2, limb_leB [a0, a1, a2, a3] (j := 1) (by omega) g1.1 g1.2, limb_leB [a0, a1, a2, a3] (j := 2) (by omega) g2.1 g2.2, limb_leB [a0, a1, a2, a3] (j := 3) (by omega) g3.1 g3.2]
 rfl
theorem lt8_digit {f : Nat → Int} (h : ∀ i, 0 ≤ f i ∧ f i < 256) {k : Nat} : ∀ {n : Nat}, k < n → lt8 f n / 256 ^ k % 256 = f k := by
 intro n
 induction n with
 | zero => omega
 | succ n ih =>
  intro hk
  have hp : (0 : Int) < 256 ^ k := Int.pow_pos (by decide)
  rw [lt8]
  by_cases e : k = n
  ·subst e
   obtain ⟨b1, b2⟩ := lt8_bd h k
   rw [Int.add_mul_ediv_right _ _ (by omega), Int.ediv_eq_zero_of_lt b1 b2, Int.zero_add]
   exact Int.emod_eq_of_lt (h k).1 (h k).2
  ·obtain ⟨d, rfl⟩ : ∃ d, n = k + (d + 1) := ⟨n - k - 1, by omega⟩
   rw [show f (k + (d + 1)) * 256 ^ (k + (d + 1)) = (f (k + (d + 1)) * 256 ^ d * 256) * 256 ^ k by rw [Int.pow_add, Int.pow_succ]; grind]
   rw [Int.add_mul_ediv_right _ _ (by omega), Int.add_mul_emod_self_right]
   exact ih (by omega)
theorem leN_getD (L : List Int) {j : Nat} (hj : j < 4) : (leN L).getD j 0 = lt8 (fun i => L.getD (8 * j + i) 0) 8 := by
 have : limbTo L j 32 = lt8 (fun i => L.getD (8 * j + i) 0) 8 := by
  unfold limbTo; rw [show min 8 (32 - 8 * j) = 8 by omega]
 rw [← this]
 rcases j with _ | _ | _ | _ | j <;> first | rfl | omega
theorem leB_leN (L : List Int) (hb : ∀ x ∈ L, 0 ≤ x ∧ x < 256) (hl : 32 ≤ L.length) : leB (leN L) = L.take 32 := by
 refine List.ext_getElem (by rw [leB_length, List.length_take]; omega) fun i h1 h2 => ?_
 rw [leB_length] at h1
 have e := leB_getD (leN L) h1
 rw [leN_getD L (by omega), show (2 : Int) ^ (8 * (i % 8)) = 256 ^ (i % 8) by rw [Int.pow_mul]; rfl, lt8_digit (fun q => getD_bd hb _) (by omega), show 8 * (i / 8) + i % 8 = i by omega] at e
 rw [List.getElem_take]
 rw [List.getD_eq_getElem?_getD, List.getD_eq_getElem?_getD, List.getElem?_eq_getElem (by rw [leB_length]; exact h1), List.getElem?_eq_getElem (by omega)] at e
 exact e
theorem leN_congr {l m : List Int} (h : ∀ i, i < 32 → l.getD i 0 = m.getD i 0) : leN l = leN m := by
 have : ∀ j, j < 4 → limbTo l j 32 = limbTo m j 32 := by
  intro j hj
  unfold limbTo
  exact lt8_congr fun q hq => h _ (by omega)
 simp only [leN, leTo]
 rw [this 0 (by omega), this 1 (by omega), this 2 (by omega), this 3 (by omega)]
theorem leN_snoc (l : List Int) (x : Int) (hl : 32 ≤ l.length) : leN (l ++ [x]) = leN l := by
 refine leN_congr fun i hi => ?_
 simp only [List.getD_eq_getElem?_getD]
 rw [List.getElem?_append_left (by omega)]
theorem natB_pBody (A : List Int) (hl : A.length = 32) : natB (pBody A) = leN A.reverse := by
 have hne : A ≠ [] := by rintro rfl; cases hl
 have hp := pad_pBody A hne
 have hln := pBody_length A hne
 rw [hl] at hp hln
 unfold natB
 by_cases h : (pBody A).length = 33
 ·rw [h] at hp ⊢
  simp only [Nat.reduceAdd, Nat.reduceSub, List.replicate_zero, List.nil_append] at *
  rw [hp, List.reverse_cons, leN_snoc _ _ (by simp [hl])]
 ·rw [show 32 + 1 - (pBody A).length = (32 - (pBody A).length) + 1 by omega, List.replicate_succ, List.cons_append] at hp
  injection hp with _ hp
  rw [hp]
theorem leN_bd (l : List Int) (hb : ∀ x ∈ l, 0 ≤ x ∧ x < 256) : ∀ x ∈ leN l, 0 ≤ x ∧ x < 2 ^ 64 := by
 have : ∀ j, j < 4 → 0 ≤ limbTo l j 32 ∧ limbTo l j 32 < 2 ^ 64 := by
  intro j hj
  unfold limbTo
  rw [show min 8 (32 - 8 * j) = 8 by omega]
  exact lt8_bd (fun i => getD_bd hb _) 8
 intro x hx
 simp only [leN, leTo, List.mem_cons, List.not_mem_nil, or_false] at hx
 rcases hx with rfl | rfl | rfl | rfl
 ·exact this 0 (by omega)
 ·exact this 1 (by omega)
 ·exact this 2 (by omega)
 ·exact this 3 (by omega)
theorem rdI_derI (A t : List Int) (hl : A.length = 32) (hb : ∀ x ∈ A, 0 ≤ x ∧ x < 256) : rdI (derI A ++ t) = some (leN A.reverse, t) := by
 have hne : A ≠ [] := by rintro rfl; cases hl
 have hln := pBody_length A hne
 obtain ⟨g1, g2, g3⟩ := pBody_good A hne hb
 rw [hl] at hln g3
 rw [derI, List.cons_append, List.cons_append, rdI_cons, Int.toNat_natCast, List.take_left, List.drop_left, if_pos, natB_pBody A hl]
 refine ⟨rfl, by omega, by omega, by simp; omega, ?_⟩
 rintro (h | h | h)
 ·omega
 ·exact g2 h
 ·exact h.2 (g3 h.1)
theorem decB_derE (A B : List Int) (lA : A.length = 32) (lB : B.length = 32) (bA : ∀ x ∈ A, 0 ≤ x ∧ x < 256) (bB : ∀ x ∈ B, 0 ≤ x ∧ x < 256) : decB (derE A B) = some (leN A.reverse, leN B.reverse) := by
 rw [derE, decB_cons, if_pos ⟨rfl, rfl⟩, rdI_derI A _ lA bA, Option.bind_some]
 dsimp only
 have := rdI_derI B [] lB bB
 rw [List.append_nil] at this
 rw [this, Option.bind_some]
 dsimp only
 rw [if_pos rfl]
theorem pBody_natB (b : List Int) (h1 : 1 ≤ b.length) (h2 : b.length ≤ 33) (hb : ∀ x ∈ b, 0 ≤ x ∧ x < 256) (hg : ¬ badI b) : pBody (leB (natB b)).reverse = b := by
 unfold badI at hg
 have k1 : ¬ 128 ≤ b.getD 0 0 := fun h => hg (.inl h)
 have k2 : ¬ (1 < b.length ∧ b.getD 0 0 = 0 ∧ b.getD 1 0 < 128) := fun h => hg (.inr (.inl h))
 have k3 : b.length = 33 → b.getD 0 0 = 0 := fun h => Classical.byContradiction fun h' => hg (.inr (.inr ⟨h, h'⟩))
 unfold natB
 rw [leB_leN _ (fun x hx => ?_) (by simp; omega)]
 ·by_cases h : b.length = 33
  ·have z := k3 h
   rcases b with _ | ⟨x, _ | ⟨y, r⟩⟩
   ·cases h
   ·cases h
   ·simp only [List.getD_cons_zero] at z
    subst z
    rw [show ((0 : Int) :: y :: r).getD 1 0 = y from rfl] at k2
    have hy : 128 ≤ y := Classical.byContradiction fun h' => k2 ⟨by simp, rfl, by omega⟩
    simp only [List.length_cons] at h
    rw [show 32 - ((0 : Int) :: y :: r).length = 0 by simp only [List.length_cons]; omega, List.replicate_zero, List.nil_append, List.reverse_cons, List.take_left' (by simp; omega), List.reverse_reverse, pBody_stop _ _ (.inr (by omega)), if_pos hy]
  ·rw [List.take_of_length_le (by simp; omega), List.reverse_reverse, pBody_pad _ _ (by rintro rfl; simp at h1), pBody_id b k1 k2]
 ·rw [List.mem_reverse, List.mem_append] at hx
  rcases hx with hx | hx
  ·have := List.eq_of_mem_replicate hx; omega
  ·exact hb x hx
theorem rdI_canon {r r1 a : List Int} (hb : ∀ x ∈ r, 0 ≤ x ∧ x < 256) (h : rdI r = some (a, r1)) : r = derI (leB a).reverse ++ r1 := by
 rcases r with _ | ⟨x, _ | ⟨n, r⟩⟩
 ·cases h
 ·cases h
 ·rw [rdI_cons] at h
  split at h
  ·rename_i hc
   obtain ⟨rfl, c1, c2, c3, c4⟩ := hc
   injection h with h
   injection h with e1 e2
   subst e1 e2
   obtain ⟨m, rfl⟩ : ∃ m : Nat, n = m := ⟨n.toNat, by omega⟩
   rw [Int.toNat_natCast] at *
   have hlen : (r.take m).length = m := by rw [List.length_take]; omega
   rw [derI, pBody_natB (r.take m) (by omega) (by omega) (fun x hx => hb x (by simp [List.mem_of_mem_take hx])) c4, hlen]
   simp
  ·cases h
theorem decB_canon {l a b : List Int} (hb : ∀ x ∈ l, 0 ≤ x ∧ x < 256) (h : decB l = some (a, b)) : l = derE (leB a).reverse (leB b).reverse := by
 rcases l with _ | ⟨x, _ | ⟨n, r⟩⟩
 ·cases h
 ·cases h
 ·rw [decB_cons] at h
  split at h
  ·rename_i hc
   obtain ⟨rfl, rfl⟩ := hc
   cases hI : rdI r with
   | none => rw [hI] at h; cases h
   | some p =>
    obtain ⟨a', r1⟩ := p
    rw [hI, Option.bind_some] at h
    dsimp only at h
    cases hJ : rdI r1 with
    | none => rw [hJ] at h; cases h
    | some p =>
     obtain ⟨b', r2⟩ := p
     rw [hJ, Option.bind_some] at h
     dsimp only at h
     split at h
     ·rename_i hz
      subst hz
      injection h with h
      injection h with e1 e2
      subst e1 e2
      have c1 := rdI_canon (fun x hx => hb x (by simp [hx])) hI
      have c2 := rdI_canon (fun x hx => hb x (by simp [(rdI_some hI).2.1 x hx])) hJ
      rw [List.append_nil] at c2
      rw [derE, ← c2, ← c1]
     ·cases h
  ·cases h
end Go.Proofs.YtdcganigfihkjaaGreatDoor
/- The walk of DerBack. -/
namespace Go.Proofs.YtdcganigfihkjaaGreatDoor
open Go.RowKit Go.Chr Go.ChangeMaps
end Go.Proofs.YtdcganigfihkjaaGreatDoor
/- Contracts of the reference's layer 10. -/
namespace Go.Proofs.YtdcganigfihkjaaGreatDoor
open Go.RowKit Go.Chr
set_option maxRecDepth 100000 in
set_option maxHeartbeats 1000000 in
theorem refInteger_any (a0 a1 a2 a3 : Int) (w : World) (h : ∀ x ∈ [a0, a1, a2, a3], 0 ≤ x ∧ x < 2 ^ 64) :
  Calls Tryz.prog 67 #[.agg #[.int .u64 a0, .int .u64 a1, .int .u64 a2, .int .u64 a3]] w (RetB w (derI (leB [a0, a1, a2, a3]).reverse)) := by
 have H4 := Lib.hid h; clear h
 go_enter Tryz.func67, Tryz.ntmps67
 go_wp2_with fail
 refine (refPutBig_any a0 a1 a2 a3 _ H4.out).mono ?_
 rintro e w1 ⟨v, rfl, hv, hb⟩
 obtain ⟨B, hB⟩ : ∃ B, B = (leB [a0, a1, a2, a3]).reverse := ⟨_, rfl⟩
 rw [← hB] at hv ⊢
 have hBl : B.length = 32 := by rw [hB]; simp [leB_length]
 have hBb : ∀ x ∈ B, 0 ≤ x ∧ x < 256 := by rw [hB]; exact fun x hx => leB_bd _ x (List.mem_reverse.1 hx)
 have hr := hv.ri
 have hb2 : Below w.heap.size w w1 := ((Below.refl _ _).alloc (Nat.le_refl _) _).trans (hb.mono (by simp))
 obtain ⟨g, cap, rfl, -, hcap⟩ := hv.form hBl (by omega)
 have HBEQ := Lib.hid hB
 clear hv hb hB H4
 have cellAt : ∀ k, k < 32 → ∃ x, B[k]? = some x ∧ 0 ≤ x ∧ x < 256 ∧ w1.cell? ⟨g, k, none⟩ = some (.int .u8 x) := by
  intro k hk
  obtain ⟨-, ad, x, e, hx, hc⟩ := hr.at_ (i := k) (by omega)
  injection e with e
  subst e
  refine ⟨x, hx, (hBb x (List.mem_of_getElem? hx)).1, (hBb x (List.mem_of_getElem? hx)).2, ?_⟩
  rw [← hc]; congr 1; unfold Addr.add; split
  ·subst_vars; rfl
  ·simp
 have HR := Lib.hid hr; have HL := Lib.hid hBl; have HC := Lib.hid cellAt; have HB2 := Lib.hid hb2
 clear hr hBl cellAt hb2 hBb
 go_wp2_with fail
 go_loop [4] (fun v => ∃ k : Nat, k ≤ 31 ∧ v = .int .i64 k ∧ pBody (B.drop k) = pBody B) (fun v => 31 - (intOf v).toNat)
 case atStart => exact ⟨0, by omega, rfl, rfl⟩
 case round =>
  obtain ⟨k, hk, rfl, hp⟩ := hrel
  obtain ⟨x, hx, x0, x1, hc⟩ := HC.out k (by omega)
  by_cases hgo : k < 31 ∧ x = 0
  ·obtain ⟨hk2, rfl⟩ := hgo
   have d1 : decide ((k : Int) < 31) = true := by simp; omega
   have i1 : (k : Int) < 32 := by omega
   have HP := Lib.hid hp; have HX := Lib.hid hx
   clear hp hx
   go_wp2
   go_round
   case rel => exact ⟨k + 1, by omega, by go_num, by rw [pBody_drop HX.out (by rw [HL.out]; omega), HP.out]⟩
   case measure => simp [intOf]; omega
  ·have hbody : pBody B = if 128 ≤ x then 0 :: B.drop k else B.drop k := by
    obtain ⟨h, e⟩ := List.getElem?_eq_some_iff.1 hx
    rw [← hp, List.drop_eq_getElem_cons h, e]
    refine pBody_stop _ _ ?_
    by_cases h31 : k = 31
    ·left; rw [List.drop_eq_nil_iff, HL.out]; omega
    ·right; exact fun h0 => hgo ⟨by omega, h0⟩
   have HBODY := Lib.hid hbody
   have hdl : (B.drop k).length = 32 - k := by rw [List.length_drop, HL.out]
   have HDL := Lib.hid hdl
   have i1 : (k : Int) < 32 := by omega
   have i2 : (k : Int) ≤ 32 := by omega
   have hcut := HR.out.slice_ (i := k) (j := 32) (by omega) (Nat.le_refl _)
   have ht : List.take (32 - k) (List.drop k B) = B.drop k := List.take_of_length_le (by rw [hdl]; exact Nat.le_refl _)
   rw [ht, if_neg (show cap ≠ k by omega)] at hcut
   have HCUT := Lib.hid (show RI w1 .u8 (.slice (some ⟨g, k, none⟩) (32 - k) (cap - k)) (B.drop k) by
    have e : (⟨g, 0, none⟩ : Addr).add k = ⟨g, k, none⟩ := by
     unfold Addr.add; split
     ·subst_vars; rfl
     ·simp
    rw [← e]; exact hcut)
   clear hp hx hbody hdl hcut ht
   have dd : (decide ((k : Int) < 31) = true ∧ (x == 0) = false) ∨ decide ((k : Int) < 31) = false := by
    by_cases h31 : k < 31
    ·left; exact ⟨by simp; omega, beq_eq_false_iff_ne.2 fun h0 => hgo ⟨h31, h0⟩⟩
    ·right; simp; omega
   clear hgo
   by_cases hx : 128 ≤ x
   ·have d9 : decide ((128 : Int) ≤ x) = true := by simpa using hx
    have O1 := OI.lit w1 5 .u8 [2, 32 - (k : Int) + 1, 0] (by simp)
    have HO1 := Lib.hid O1
    have R1 := HCUT.out
    have HS1 := Lib.hid (Below.alloc (Below.refl w1.heap.size w1) (Nat.le_refl _) (.cells #[.int .u8 2, .int .u8 (32 - (k : Int) + 1), .int .u8 0] 5))
    clear O1 R1
    rcases dd with ⟨d1, d2⟩ | d1
    all_goals
     go_wp2_with (first | (at_builtin; (refine app_u8 (B := w1.heap.size) rfl (.tmp 27) (.tmp 31) rfl _ _ [] [2, 32 - (k : Int) + 1, 0] rfl rfl (OI.nil _ _ _ _) HO1.out.ri (by simp) (by simp) ?_; intro v1 w2 hv1 hb2 _ _)) | (at_builtin; (refine app_u8 (B := w1.heap.size) rfl (.tmp 38) (.tmp 41) rfl _ _ ([] ++ [2, 32 - (k : Int) + 1, 0]) (B.drop k) rfl rfl hv1 (HCUT.out.below (HS1.out.trans hb2)) (by rw [HDL.out]; simp; omega) (Nat.le_trans HS1.out.size hb2.size) ?_; intro v2 w3 hv2 hb3 _ _)))
     go_ret
     refine ⟨v2, rfl, ?_, HB2.out.trans (((HS1.out.trans hb2).trans hb3).mono HB2.out.size)⟩
     have e : derI B = [2, 32 - (k : Int) + 1, 0] ++ B.drop k := by
      unfold derI
      rw [HBODY.out, if_pos hx, List.length_cons, HDL.out]
      simp; omega
     rw [← HBEQ.out, e]
     exact hv2.mono HB2.out.size
   ·have d9 : decide ((128 : Int) ≤ x) = false := by simpa using hx
    have HO1 := Lib.hid (OI.lit w1 5 .u8 [2, 32 - (k : Int)] (by simp))
    have HS1 := Lib.hid (Below.alloc (Below.refl w1.heap.size w1) (Nat.le_refl _) (.cells #[.int .u8 2, .int .u8 (32 - (k : Int))] 5))
    rcases dd with ⟨d1, d2⟩ | d1
    all_goals
     go_wp2_with (first | (at_builtin; (refine app_u8 (B := w1.heap.size) rfl (.tmp 33) (.tmp 36) rfl _ _ [] [2, 32 - (k : Int)] rfl rfl (OI.nil _ _ _ _) HO1.out.ri (by simp) (by simp) ?_; intro v1 w2 hv1 hb2 _ _)) | (at_builtin; (refine app_u8 (B := w1.heap.size) rfl (.tmp 38) (.tmp 41) rfl _ _ ([] ++ [2, 32 - (k : Int)]) (B.drop k) rfl rfl hv1 (HCUT.out.below (HS1.out.trans hb2)) (by rw [HDL.out]; simp; omega) (Nat.le_trans HS1.out.size hb2.size) ?_; intro v2 w3 hv2 hb3 _ _)))
     go_ret
     refine ⟨v2, rfl, ?_, HB2.out.trans (((HS1.out.trans hb2).trans hb3).mono HB2.out.size)⟩
     have e : derI B = [2, 32 - (k : Int)] ++ B.drop k := by
      unfold derI
      rw [HBODY.out, if_neg (by omega), HDL.out]
      simp; omega
     rw [← HBEQ.out, e]
     exact hv2.mono HB2.out.size
end Go.Proofs.YtdcganigfihkjaaGreatDoor
/- Contracts of the reference's layer 10: Encode, number. -/
namespace Go.Proofs.YtdcganigfihkjaaGreatDoor
open Go.RowKit Go.Chr
set_option maxRecDepth 100000 in
set_option maxHeartbeats 1000000 in
theorem refEncode_any (a0 a1 a2 a3 b0 b1 b2 b3 : Int) (w : World) (hA : ∀ x ∈ [a0, a1, a2, a3], 0 ≤ x ∧ x < 2 ^ 64) (hB : ∀ x ∈ [b0, b1, b2, b3], 0 ≤ x ∧ x < 2 ^ 64) :
  Calls Tryz.prog 33 #[.agg #[.int .u64 a0, .int .u64 a1, .int .u64 a2, .int .u64 a3], .agg #[.int .u64 b0, .int .u64 b1, .int .u64 b2, .int .u64 b3]] w
   (RetB w (derE (leB [a0, a1, a2, a3]).reverse (leB [b0, b1, b2, b3]).reverse)) := by
 obtain ⟨l1, hl1⟩ : ∃ l, l = derI (leB [a0, a1, a2, a3]).reverse := ⟨_, rfl⟩
 obtain ⟨l2, hl2⟩ : ∃ l, l = derI (leB [b0, b1, b2, b3]).reverse := ⟨_, rfl⟩
 have n1 : l1.length ≤ 35 := by
  have := (pBody_length (leB [a0, a1, a2, a3]).reverse (by intro h; have := congrArg List.length h; simp [leB_length] at this)).2
  rw [hl1, derI]; simp [leB_length] at this ⊢; omega
 have n0 : 0 < l1.length := by rw [hl1, derI]; simp
 have n2 : l2.length ≤ 35 := by
  have := (pBody_length (leB [b0, b1, b2, b3]).reverse (by intro h; have := congrArg List.length h; simp [leB_length] at this)).2
  rw [hl2, derI]; simp [leB_length] at this ⊢; omega
 have n0' : 0 < l2.length := by rw [hl2, derI]; simp
 have k1 := fun W => refInteger_any a0 a1 a2 a3 W hA
 have k2 := fun W => refInteger_any b0 b1 b2 b3 W hB
 rw [← hl1] at k1
 rw [← hl2] at k2
 have K1 := Lib.hid k1; have K2 := Lib.hid k2
 rw [show derE (leB [a0, a1, a2, a3]).reverse (leB [b0, b1, b2, b3]).reverse = 48 :: ((l1 ++ l2).length : Int) :: (l1 ++ l2) by rw [hl1, hl2]; rfl]
 clear hl1 hl2 k1 k2 hA hB
 go_enter Tryz.func33, Tryz.ntmps33
 go_wp2
 go_region_held3 (fun w' => w'.cell? ⟨w.heap.size, 0, none⟩ = some (.int .u64 a0) ∧ w'.cell? ⟨w.heap.size, 1, none⟩ = some (.int .u64 a1) ∧ w'.cell? ⟨w.heap.size, 2, none⟩ = some (.int .u64 a2) ∧ w'.cell? ⟨w.heap.size, 3, none⟩ = some (.int .u64 a3) ∧
   w'.cell? ⟨w.heap.size + 1, 0, none⟩ = some (.int .u64 b0) ∧ w'.cell? ⟨w.heap.size + 1, 1, none⟩ = some (.int .u64 b1) ∧ w'.cell? ⟨w.heap.size + 1, 2, none⟩ = some (.int .u64 b2) ∧ w'.cell? ⟨w.heap.size + 1, 3, none⟩ = some (.int .u64 b3))
  (go_keep)
  (first
   | (go_at_call 67; (with_reducible refine (K1.out _).mono ?_); rintro e w1 ⟨v1, rfl, hv1, hb1⟩; obtain ⟨hc1, -⟩ := bcell hb1; have hc1a := fun o => hc1 w.heap.size o (by simp; omega); have hc1b := fun o => hc1 (w.heap.size + 1) o (by simp); clear hc1; have hv1' := hv1.mono (B' := w.heap.size + 2) (by simp); have bb1 : Below w.heap.size w w1 := ((((Below.refl _ _).alloc (Nat.le_refl _) _).alloc (by simp) _).drew).trans (hb1.mono (by simp; omega)))
   | (go_at_call 67; (with_reducible refine (K2.out _).mono ?_); rintro e w2 ⟨v2, rfl, hv2, hb2⟩; obtain ⟨hc2, -⟩ := bcell hb2; have hz := hb1.size; simp at hz; have hc2a := fun o => hc2 w.heap.size o (by omega); have hc2b := fun o => hc2 (w.heap.size + 1) o (by omega); clear hc2; have hv1'' := hv1'.below hb2; have hv2' := hv2.ri; have bb2 := bb1.trans (hb2.mono bb1.size); have hz2 : w.heap.size + 2 ≤ w2.heap.size := by have := hb2.size; omega))
 obtain ⟨m1, hm1⟩ : ∃ m, m = l1.length := ⟨_, rfl⟩
 obtain ⟨m2, hm2⟩ : ∃ m, m = l2.length := ⟨_, rfl⟩
 have HV1 := Lib.hid hv1''; have HV2 := Lib.hid hv2; have HB := Lib.hid bb2
 clear hv1 hv1' hv1'' hv2 hv2' hc1a hc1b hc2a hc2b hb1 hb2 bb1 bb2 hz hz2 K1 K2
 rw [← hm1] at n0 n1
 rw [← hm2] at n0' n2
 obtain ⟨g1, c1, rfl, -, hc1⟩ := HV1.out.form hm1.symm n0
 obtain ⟨g2, c2, rfl, -, hc2⟩ := HV2.out.form hm2.symm n0'
 have HM1 := Lib.hid hm1; have HM2 := Lib.hid hm2
 clear hm1 hm2
 have HO := Lib.hid (OI.lit w2 5 .u8 [48, (m1 : Int) + m2] (by simp))
 have HS := Lib.hid (Below.alloc (Below.refl w2.heap.size w2) (Nat.le_refl _) (.cells #[.int .u8 48, .int .u8 ((m1 : Int) + m2)] 5))
 go_wp2_with (first | (at_builtin; (refine app_u8 (B := w2.heap.size) rfl (.tmp 19) (.tmp 20) rfl _ _ [48, (m1 : Int) + m2] l1 rfl rfl HO.out (HV1.out.ri.below HS.out) (by rw [← HM1.out]; simp; omega) HS.out.size ?_; intro v3 w3 hv3 hb3 _ _)) | (at_builtin; (refine app_u8 (B := w2.heap.size) rfl (.tmp 22) (.tmp 23) rfl _ _ ([48, (m1 : Int) + m2] ++ l1) l2 rfl rfl hv3 (HV2.out.ri.below (HS.out.trans hb3)) (by rw [List.length_append, ← HM1.out, ← HM2.out]; simp; omega) (Nat.le_trans HS.out.size hb3.size) ?_; intro v4 w4 hv4 hb4 _ _)))
 go_ret
 refine ⟨v4, rfl, ?_, HB.out.trans (((HS.out.trans hb3).trans hb4).mono HB.out.size)⟩
 have e : 48 :: ((l1 ++ l2).length : Int) :: (l1 ++ l2) = [48, (m1 : Int) + m2] ++ l1 ++ l2 := by
  rw [List.length_append, ← HM1.out, ← HM2.out]; simp
 rw [e]
 exact hv4.mono HB.out.size
def numB (l : List Int) : List Int := leN ((List.replicate (33 - l.length) 0 ++ l).drop ((List.replicate (33 - l.length) 0 ++ l).length - 32)).reverse
set_option maxRecDepth 100000 in
set_option maxHeartbeats 1000000 in
theorem refNumber_any (u : Value) (l : List Int) (w : World) (hu : RI w .u8 u l) (hlen : l.length ≤ 1000) (hby : ∀ x ∈ l, 0 ≤ x ∧ x < 256) :
  Calls Tryz.prog 54 #[u] w (fun e w' => e = .returned (.agg ((numB l).map (Value.int .u64)).toArray) ∧ Below w.heap.size w w') := by
 obtain ⟨A, c, rfl, hc, hr⟩ := hu
 have hu : RI w .u8 (.slice A l.length c) l := ⟨A, c, rfl, hc, hr⟩
 have HU := Lib.hid hu
 have HBY := Lib.hid hby
 clear hu hr hby
 obtain ⟨n, hn⟩ : ∃ n, n = l.length := ⟨_, rfl⟩
 have HN := Lib.hid hn
 rw [← hn] at HU hc hlen ⊢
 clear hn
 go_enter Tryz.func54, Tryz.ntmps54
 go_wp2_with fail
 go_loopw [3, 4] (fun v i wr => ∃ (j : Nat), (j = 0 ∨ n + j ≤ 33) ∧ i = .int .i64 (n + j : Nat) ∧ OI wr (w.heap.size + 1) 5 .u8 v (List.replicate j 0) ∧ Blk wr w.heap.size 27 #[.int .u64 0, .int .u64 0, .int .u64 0, .int .u64 0] ∧ Below w.heap.size w wr ∧ w.heap.size + 1 ≤ wr.heap.size) (fun _ i _ => 33 - (intOf i).toNat)
 case atStart => exact ⟨0, .inl rfl, rfl, OI.nil _ _ _ _, Blk.new w 27 _, (Below.refl _ _).alloc (Nat.le_refl _) _, by simp⟩
 case round =>
  obtain ⟨j, hj, rfl, hv, hb0, hB, hsz⟩ := hrel
  have HB0 := Lib.hid hb0; clear hb0
  by_cases hlt : n + j < 33
  ·have hd : decide (((n + j : Nat) : Int) < 33) = true := by simp; omega
   go_wp2_with (at_builtin; refine app_u8 (B := w.heap.size + 1) rfl (.tmp 13) (.tmp 14) rfl _ _ _ [0] rfl rfl (OI.below hv ((Below.refl _ _).alloc (Nat.le_refl _) _)) (RI.one _ _ _ _) (by simp; omega) (by simp; omega) ?_; intro v1 w1 hv1 hb1 _ _)
   go_roundw
   case rel =>
    refine ⟨j + 1, .inr (by omega), by go_num, by rw [List.replicate_succ']; exact hv1, (HB0.out.alloc _).below hb1 (by omega), (hB.alloc hB.size _).trans (hb1.mono (by omega)), Nat.le_trans (by simp; omega) hb1.size⟩
   case measure => simp [intOf]; omega
  ·have hd : decide ((n : Int) + (j : Int) < 33) = false := by simp; omega
   have HLL := Lib.hid (show (List.replicate j (0 : Int)).length + l.length ≤ 140737488355328 by rw [← HN.out]; simp; omega)
   have hj33 : 33 ≤ j + n := by omega
   have hj34 := Lib.hid (show j = 33 - n by omega)
   have hnn := Lib.hid hlen
   obtain ⟨m, hm⟩ : ∃ m, (List.replicate j (0 : Int) ++ l).length = m + 32 := ⟨j + n - 32, by rw [List.length_append, List.length_replicate, ← HN.out]; omega⟩
   have hm2 : m + 32 = j + n := by rw [← hm, List.length_append, List.length_replicate, ← HN.out]
   have HM2 := Lib.hid hm2
   have hm3 : m ≤ 1010 := by omega
   have hm4 : (m : Int) ≤ 1010 := by omega
   have HM := Lib.hid hm
   clear hm hm2 hj hlt hj33
   have HUR := Lib.hid (HU.out.below hB)
   have HV := Lib.hid hv
   clear hv
   go_wp2_with (at_builtin; refine app_u8 (B := w.heap.size + 1) rfl (.tmp 16) (.tmp 17) rfl _ _ (List.replicate j 0) l rfl rfl HV.out HUR.out HLL.out hsz ?_; intro v1 w1 hv1 hb1 _ _; have HV1 := Lib.hid hv1; clear hv1; obtain ⟨g, cap, rfl, hg, hcap⟩ := HV1.out.form HM.out (by omega))
   have hcut := HV1.out.ri.slice_ (i := m) (j := m + 32) (by omega) (Nat.le_refl _)
   have hne : cap ≠ m := by omega
   have hA : (⟨g, 0, none⟩ : Addr).add m = ⟨g, m, none⟩ := by
    unfold Addr.add; split
    ·subst_vars; rfl
    ·simp
   rw [if_neg hne, show m + 32 - m = 32 by omega] at hcut
   simp only [Option.map_some, hA] at hcut
   have hL32 : (((List.replicate j (0 : Int) ++ l).drop m).take 32).length = 32 := by rw [List.length_take, List.length_drop, HM.out]; omega
   have hLb : ∀ x ∈ ((List.replicate j (0 : Int) ++ l).drop m).take 32, 0 ≤ x ∧ x < 256 := fun x hx => by
    have hx := List.mem_of_mem_drop (List.mem_of_mem_take hx)
    rw [List.mem_append] at hx
    rcases hx with hx | hx
    ·have := List.eq_of_mem_replicate hx; omega
    ·exact HBY.out x hx
   have hnum : leN (((List.replicate j (0 : Int) ++ l).drop m).take 32).reverse = numB l := by
    unfold numB
    rw [← HN.out, ← hj34.out, HM.out, show m + 32 - 32 = m by omega, List.take_of_length_le (by rw [List.length_drop, HM.out]; omega)]
   refine (refBig_any _ _ w1 hcut hLb hL32).mono ?_
   rw [hnum]
   rintro e w2 ⟨rfl, hb2⟩
   obtain ⟨x0, x1, x2, x3, hX⟩ : ∃ x0 x1 x2 x3, numB l = [x0, x1, x2, x3] := ⟨_, _, _, _, rfl⟩
   rw [hX]
   simp only [List.map_cons, List.map_nil]
   have HX := Lib.hid hX
   have hB2 : Below w.heap.size w w2 := hB.trans ((hb1.mono (by omega)).trans (hb2.mono (by have := hb1.size; omega)))
   have H0 := Lib.hid ((HB0.out.below hb1 (by omega)).below hb2 (by have := hb1.size; omega))
   have r2 := H0.out.cell
   have r3 := H0.out.frozen
   have r4 := H0.out.lt
   clear hcut hL32 hLb hnum hX HM HN HV1 HV HUR HLL HU HBY HB0 hb1 hb2
   go_wp2
   have hfin := ((((H0.out.set_ 0 (.int .u64 x0)).set_ 1 (.int .u64 x1)).set_ 2 (.int .u64 x2)).set_ 3 (.int .u64 x3)).alloc (.cells #[.int .u64 x0, .int .u64 x1, .int .u64 x2, .int .u64 x3] 27)
   have hBF := ((((hB2.setCell (p := ⟨w.heap.size, 0, none⟩) (Nat.le_refl _) (.int .u64 x0)).setCell (p := ⟨w.heap.size, 1, none⟩) (Nat.le_refl _) (.int .u64 x1)).setCell (p := ⟨w.heap.size, 2, none⟩) (Nat.le_refl _) (.int .u64 x2)).setCell (p := ⟨w.heap.size, 3, none⟩) (Nat.le_refl _) (.int .u64 x3))
   have hBF := hBF.alloc hBF.size (.cells #[.int .u64 x0, .int .u64 x1, .int .u64 x2, .int .u64 x3] 27)
   refine bodyPost_ret (results_blk (d := .array 4 25) Tryz.results54 rfl hfin rfl Tryz.underlying27 (by kernel_rfl)) rfl ⟨by rw [HX.out]; rfl, ?_⟩
   exact hBF
end Go.Proofs.YtdcganigfihkjaaGreatDoor
/- Contracts of the reference's layer 10: Decode. -/
namespace Go.Proofs.YtdcganigfihkjaaGreatDoor
open Go.RowKit Go.Chr
def refDec (l : List Int) : Option (List Int × List Int) :=
 if l.length < 8 ∨ 72 < l.length then none
 else if l.length < 6 + (l.getD 3 0).toNat then none
 else
  if derE (leB (numB ((l.drop 4).take (l.getD 3 0).toNat))).reverse (leB (numB (l.drop (6 + (l.getD 3 0).toNat)))).reverse = l
  then some (numB ((l.drop 4).take (l.getD 3 0).toNat), numB (l.drop (6 + (l.getD 3 0).toNat))) else none
theorem numB_pBody (A : List Int) (hl : A.length = 32) : numB (pBody A) = leN A.reverse := by
 have hne : A ≠ [] := by rintro rfl; cases hl
 have hp := pad_pBody A hne
 unfold numB
 rw [hl] at hp
 rw [hp, List.length_cons, hl]
 rfl
theorem numB_bd (l : List Int) (hb : ∀ x ∈ l, 0 ≤ x ∧ x < 256) : ∀ x ∈ numB l, 0 ≤ x ∧ x < 2 ^ 64 := by
 refine leN_bd _ fun x hx => ?_
 have hx := List.mem_of_mem_drop (List.mem_reverse.1 hx)
 rw [List.mem_append] at hx
 rcases hx with hx | hx
 ·have := List.eq_of_mem_replicate hx; omega
 ·exact hb x hx
theorem limbs_bd {l a b : List Int} (hb : ∀ x ∈ l, 0 ≤ x ∧ x < 256) (h : decB l = some (a, b)) : leN (leB a) = a ∧ leN (leB b) = b := by
 have hc := decB_canon hb h
 have h2 := decB_derE (leB a).reverse (leB b).reverse (by simp [leB_length]) (by simp [leB_length]) (fun x hx => leB_bd _ x (List.mem_reverse.1 hx)) (fun x hx => leB_bd _ x (List.mem_reverse.1 hx))
 rw [← hc, h, List.reverse_reverse, List.reverse_reverse] at h2
 injection h2 with h2
 injection h2 with e1 e2
 exact ⟨e1.symm, e2.symm⟩
theorem refDec_eq (l : List Int) (hb : ∀ x ∈ l, 0 ≤ x ∧ x < 256) : refDec l = decB l := by
 cases h : decB l with
 | some p =>
  obtain ⟨a, b⟩ := p
  have hc := decB_canon hb h
  obtain ⟨e1, e2⟩ := limbs_bd hb h
  obtain ⟨A, hA⟩ : ∃ A, A = (leB a).reverse := ⟨_, rfl⟩
  obtain ⟨B, hB⟩ : ∃ B, B = (leB b).reverse := ⟨_, rfl⟩
  have lA : A.length = 32 := by rw [hA]; simp [leB_length]
  have lB : B.length = 32 := by rw [hB]; simp [leB_length]
  have nA : A ≠ [] := by rintro rfl; cases lA
  have nB : B ≠ [] := by rintro rfl; cases lB
  rw [← hA, ← hB] at hc
  obtain ⟨k1, k2⟩ := derE_len A B nA nB lA lB
  rw [← hc] at k1 k2
  have g3 : (l.getD 3 0).toNat = (pBody A).length := by
   rw [hc, derE, derI]; simp [List.getD]
  have hd4 : (l.drop 4).take (pBody A).length = pBody A := by
   rw [hc, derE, derI]; simp
  have hd6 : l.drop (6 + (pBody A).length) = pBody B := by
   rw [hc, derE, derI, derI, show 6 + (pBody A).length = (((pBody A).length + 2) + 4) by omega]
   simp only [List.cons_append, List.drop_succ_cons]
   rw [show pBody A ++ 2 :: ((pBody B).length : Int) :: pBody B = (pBody A ++ [2, ((pBody B).length : Int)]) ++ pBody B by simp]
   exact List.drop_left' (by simp)
  have hlen : ¬ l.length < 6 + (pBody A).length := by
   rw [hc, derE, derI, derI]; simp only [List.length_cons, List.length_append]; omega
  unfold refDec
  rw [if_neg (by omega), g3, if_neg hlen, hd4, hd6, numB_pBody A lA, numB_pBody B lB, hA, hB, List.reverse_reverse, List.reverse_reverse, e1, e2, ← hA, ← hB, if_pos hc.symm]
 | none =>
  unfold refDec
  split
  ·rfl
  ·split
   ·rfl
   ·split
    ·rename_i hE
     have b1 := numB_bd ((l.drop 4).take (l.getD 3 0).toNat) (fun x hx => hb x (List.mem_of_mem_drop (List.mem_of_mem_take hx)))
     have b2 := numB_bd (l.drop (6 + (l.getD 3 0).toNat)) (fun x hx => hb x (List.mem_of_mem_drop hx))
     have h2 := decB_derE (leB (numB ((l.drop 4).take (l.getD 3 0).toNat))).reverse (leB (numB (l.drop (6 + (l.getD 3 0).toNat)))).reverse (by simp [leB_length]) (by simp [leB_length]) (fun x hx => leB_bd _ x (List.mem_reverse.1 hx)) (fun x hx => leB_bd _ x (List.mem_reverse.1 hx))
     rw [hE, h] at h2
     cases h2
    ·rfl
theorem refDec_results {a b : Nat} {xs ys : Array Value} {t : Bool} {tmps : Array Value} {w : World} (h2 : tmps.getD 2 undef = .pointer (some ⟨a, 0, none⟩)) (h3 : tmps.getD 3 undef = .pointer (some ⟨b, 0, none⟩)) (h4 : tmps.getD 4 undef = .bool t)
  (ha : Blk w a 27 xs) (hb : Blk w b 27 ys) (hx : xs.size = 4) (hy : ys.size = 4) :
  (results Tryz.f23 tmps).run Tryz.prog w = .ok (.tuple #[.agg xs, .agg ys, .bool t]) w := by
 have la := load_blk (P := Tryz.prog) (ty := 27) (d := .array 4 25) ha rfl Tryz.underlying27 (by rw [hx]; kernel_rfl)
 have lb := load_blk (P := Tryz.prog) (ty := 27) (d := .array 4 25) hb rfl Tryz.underlying27 (by rw [hy]; kernel_rfl)
 have h2' := h2
 have h3' := h3
 have h4' := h4
 simp only [Array.getD_eq_getD_getElem?] at h2' h3' h4'
 simp [results, Tryz.results23, h2', h3', h4', asAddr, la, lb]
theorem blk_cells {w : World} {g : Nat} {t : TypeId} {c0 c1 c2 c3 : Value} (h : Blk w g t #[c0, c1, c2, c3]) : w.cell? ⟨g, 0, none⟩ = some c0 ∧ w.cell? ⟨g, 1, none⟩ = some c1 ∧ w.cell? ⟨g, 2, none⟩ = some c2 ∧ w.cell? ⟨g, 3, none⟩ = some c3 := by
 refine ⟨?_, ?_, ?_, ?_⟩ <;> rw [h.cell] <;> rfl
theorem cellsOf8 : Tryz.prog.cellsOf 5 = 1 := by kernel_rfl
theorem slice_lh (W : World) (ad : Addr) (N c l h : Nat) (h1 : l ≤ h) (h2 : h ≤ c) (hne : c ≠ l) :
  (Instr.slice 22 (.slice (some ad) N c) (some (.int .i64 l)) (some (.int .i64 h)) none).run Tryz.prog W = .ok (.slice (some (ad.add l)) (h - l) (c - l)) W := by
 obtain ⟨i0, hi0, hz0, hz1, hz2⟩ := info_parts info_u8
 have hel : Tryz.prog.elem 22 = 5 := by kernel_rfl
 rw [run_slice_lh (P := Tryz.prog) (w := W) (t := 22) (a := some ad) (len := N) (cap := c) (ht := by rw [hel]; exact Tryz.underlying22) (kl := .i64) (kh := .i64) (l := l) (h := h) (by omega) (by omega) (by omega), hel, run_sizeOf W hi0, cellsOf8]
 simp [sliced, hne]
theorem slice_l (W : World) (ad : Addr) (N c l : Nat) (h1 : l ≤ N) :
  (Instr.slice 22 (.slice (some ad) N c) (some (.int .i64 l)) none none).run Tryz.prog W = .ok (.slice (if c = l then some ad else some (ad.add l)) (N - l) (c - l)) W := by
 obtain ⟨i0, hi0, hz0, hz1, hz2⟩ := info_parts info_u8
 have hel : Tryz.prog.elem 22 = 5 := by kernel_rfl
 rw [run_slice_l (P := Tryz.prog) (w := W) (t := 22) (a := some ad) (len := N) (cap := c) (ht := by rw [hel]; exact Tryz.underlying22) (kl := .i64) (l := l) (by omega) (by omega), hel, run_sizeOf W hi0, cellsOf8]
 simp [sliced]
abbrev nz : Array Value := #[.int .u64 0, .int .u64 0, .int .u64 0, .int .u64 0]
abbrev nv (x0 x1 x2 x3 : Int) : Array Value := #[.int .u64 x0, .int .u64 x1, .int .u64 x2, .int .u64 x3]
abbrev set4 (W : World) (g : Nat) (x0 x1 x2 x3 : Int) : World := (((W.setCell ⟨g, 0, none⟩ (.int .u64 x0)).setCell ⟨g, 1, none⟩ (.int .u64 x1)).setCell ⟨g, 2, none⟩ (.int .u64 x2)).setCell ⟨g, 3, none⟩ (.int .u64 x3)
theorem set4_blk {W : World} {g : Nat} (h : Blk W g 27 nz) (x0 x1 x2 x3 : Int) : Blk (set4 W g x0 x1 x2 x3) g 27 (nv x0 x1 x2 x3) ∧ W.grownBy (set4 W g x0 x1 x2 x3) (some g) :=
 ⟨(((h.set_ 0 (.int .u64 x0)).set_ 1 (.int .u64 x1)).set_ 2 (.int .u64 x2)).set_ 3 (.int .u64 x3),
  gb_set (p := ⟨g, 3, none⟩) (gb_set (p := ⟨g, 2, none⟩) (gb_set (p := ⟨g, 1, none⟩) (gb_set (p := ⟨g, 0, none⟩) (World.grownBy.refl W _) rfl _) rfl _) rfl _) rfl _⟩
def Rest2 (w W : World) (g6 g7 : Nat) (r s : Array Value) : Prop :=
 Blk W g6 27 r ∧ Blk W g7 27 s ∧ Blk W w.heap.size 27 nz ∧ Blk W (w.heap.size + 1) 27 nz ∧ Below w.heap.size w W
def Base2 (w W : World) : Prop := Blk W w.heap.size 27 nz ∧ Blk W (w.heap.size + 1) 27 nz ∧ Below w.heap.size w W
theorem Base2.lt {w W : World} (h : Base2 w W) : w.heap.size + 1 < W.heap.size := h.2.1.lt
theorem Base2.bel {w W : World} (h : Base2 w W) : Below w.heap.size w W := h.2.2
theorem Base2.below {w W W' : World} (h : Base2 w W) (hb : Below W.heap.size W W') : Base2 w W' := ⟨h.1.below hb h.1.lt, h.2.1.below hb h.2.1.lt, h.2.2.trans (hb.mono h.2.2.size)⟩
theorem Base2.alloc {w W : World} (h : Base2 w W) (o : Obj) : Base2 w (W.alloc o) := h.below ((Below.refl _ _).alloc (Nat.le_refl _) o)
theorem Base2.grown {w W W' : World} {g : Nat} (h : Base2 w W) (hg : w.heap.size + 1 < g) (hb : W.grownBy W' (some g)) : Base2 w W' :=
 ⟨h.1.grown hb (by simp; omega), h.2.1.grown hb (by simp; omega), h.2.2.trans (gb_to_below hb h.2.2.size (fun k e => by injection e; omega))⟩
theorem none_known {w w2 : World} (hb : Base2 w w2) (r0 r1 r2 r3 s0 s1 s2 s3 : Int) :
  (∃ WF g6 g7, g7 = w2.heap.size + 1 ∧ g6 = w2.heap.size ∧ WF = (w2.alloc (.cells #[.int .u64 r0, .int .u64 r1, .int .u64 r2, .int .u64 r3] 27)).alloc (.cells #[.int .u64 s0, .int .u64 s1, .int .u64 s2, .int .u64 s3] 27) ∧ w.heap.size + 1 < g6 ∧ w.heap.size + 1 < g7 ∧ Rest2 w WF g6 g7 (nv r0 r1 r2 r3) (nv s0 s1 s2 s3)) ∧
  ∃ WF g6 g7, g6 = w2.heap.size + 1 ∧ g7 = w2.heap.size ∧ WF = (w2.alloc (.cells #[.int .u64 s0, .int .u64 s1, .int .u64 s2, .int .u64 s3] 27)).alloc (.cells #[.int .u64 r0, .int .u64 r1, .int .u64 r2, .int .u64 r3] 27) ∧ w.heap.size + 1 < g6 ∧ w.heap.size + 1 < g7 ∧ Rest2 w WF g6 g7 (nv r0 r1 r2 r3) (nv s0 s1 s2 s3) := by
 have n1 := Blk.new (w2.alloc (.cells (nv r0 r1 r2 r3) 27)) 27 (nv s0 s1 s2 s3)
 have n2 := Blk.new (w2.alloc (.cells (nv s0 s1 s2 s3) 27)) 27 (nv r0 r1 r2 r3)
 have e : ∀ o, (w2.alloc o).heap.size = w2.heap.size + 1 := fun o => by simp
 rw [e] at n1 n2
 obtain ⟨a1, a2, a3⟩ := (hb.alloc (.cells (nv r0 r1 r2 r3) 27)).alloc (.cells (nv s0 s1 s2 s3) 27)
 obtain ⟨b1, b2, b3⟩ := (hb.alloc (.cells (nv s0 s1 s2 s3) 27)).alloc (.cells (nv r0 r1 r2 r3) 27)
 have hl := hb.lt
 exact ⟨⟨_, _, _, rfl, rfl, rfl, by omega, by omega, (Blk.new w2 _ _).alloc _, n1, a1, a2, a3⟩, ⟨_, _, _, rfl, rfl, rfl, by omega, by omega, n2, (Blk.new w2 _ _).alloc _, b1, b2, b3⟩⟩
theorem one_known {w w2 : World} {g : Nat} (hb : Base2 w w2) (hg : w.heap.size + 1 < g) (h : Blk w2 g 27 nz) (r0 r1 r2 r3 s0 s1 s2 s3 : Int) :
  (∃ WF g6 g7, g7 = w2.heap.size ∧ g6 = g ∧ WF = ((((w2.setCell ⟨g, 0, none⟩ (.int .u64 r0)).setCell ⟨g, 1, none⟩ (.int .u64 r1)).setCell ⟨g, 2, none⟩ (.int .u64 r2)).setCell ⟨g, 3, none⟩ (.int .u64 r3)).alloc (.cells #[.int .u64 s0, .int .u64 s1, .int .u64 s2, .int .u64 s3] 27) ∧ w.heap.size + 1 < g6 ∧ w.heap.size + 1 < g7 ∧ Rest2 w WF g6 g7 (nv r0 r1 r2 r3) (nv s0 s1 s2 s3)) ∧
  ∃ WF g6 g7, g6 = w2.heap.size ∧ g7 = g ∧ WF = ((((w2.setCell ⟨g, 0, none⟩ (.int .u64 s0)).setCell ⟨g, 1, none⟩ (.int .u64 s1)).setCell ⟨g, 2, none⟩ (.int .u64 s2)).setCell ⟨g, 3, none⟩ (.int .u64 s3)).alloc (.cells #[.int .u64 r0, .int .u64 r1, .int .u64 r2, .int .u64 r3] 27) ∧ w.heap.size + 1 < g6 ∧ w.heap.size + 1 < g7 ∧ Rest2 w WF g6 g7 (nv r0 r1 r2 r3) (nv s0 s1 s2 s3) := by
 obtain ⟨k1, m1⟩ := set4_blk h r0 r1 r2 r3
 obtain ⟨k2, m2⟩ := set4_blk h s0 s1 s2 s3
 obtain ⟨a1, a2, a3⟩ := (hb.grown hg m1).alloc (.cells (nv s0 s1 s2 s3) 27)
 obtain ⟨b1, b2, b3⟩ := (hb.grown hg m2).alloc (.cells (nv r0 r1 r2 r3) 27)
 have n1 := Blk.new (set4 w2 g r0 r1 r2 r3) 27 (nv s0 s1 s2 s3)
 have n2 := Blk.new (set4 w2 g s0 s1 s2 s3) 27 (nv r0 r1 r2 r3)
 have e : ∀ x0 x1 x2 x3, (set4 w2 g x0 x1 x2 x3).heap.size = w2.heap.size := fun _ _ _ _ => by simp [World.setCell]
 rw [e] at n1 n2
 have hl := hb.lt
 exact ⟨⟨_, _, _, rfl, rfl, rfl, hg, hl, k1.alloc _, n1, a1, a2, a3⟩, ⟨_, _, _, rfl, rfl, rfl, hl, hg, n2, k2.alloc _, b1, b2, b3⟩⟩
theorem two_known {w w2 : World} {g g' : Nat} (hb : Base2 w w2) (hg : w.heap.size + 1 < g) (hg' : w.heap.size + 1 < g') (hne : g ≠ g') (h : Blk w2 g 27 nz) (h' : Blk w2 g' 27 nz) (r0 r1 r2 r3 s0 s1 s2 s3 : Int) :
  ∃ WF g6 g7, g6 = g ∧ g7 = g' ∧ WF = (((((((w2.setCell ⟨g, 0, none⟩ (.int .u64 r0)).setCell ⟨g, 1, none⟩ (.int .u64 r1)).setCell ⟨g, 2, none⟩ (.int .u64 r2)).setCell ⟨g, 3, none⟩ (.int .u64 r3)).setCell ⟨g', 0, none⟩ (.int .u64 s0)).setCell ⟨g', 1, none⟩ (.int .u64 s1)).setCell ⟨g', 2, none⟩ (.int .u64 s2)).setCell ⟨g', 3, none⟩ (.int .u64 s3) ∧
   w.heap.size + 1 < g6 ∧ w.heap.size + 1 < g7 ∧ Rest2 w WF g6 g7 (nv r0 r1 r2 r3) (nv s0 s1 s2 s3) := by
 obtain ⟨k3, m3⟩ := set4_blk h r0 r1 r2 r3
 obtain ⟨k4, m4⟩ := set4_blk (W := set4 w2 g r0 r1 r2 r3) (h'.grown m3 (by simp; omega)) s0 s1 s2 s3
 obtain ⟨a1, a2, a3⟩ := (hb.grown hg m3).grown hg' m4
 exact ⟨_, _, _, rfl, rfl, rfl, hg, hg', ⟨k3.grown m4 (by simp; omega), k4, a1, a2, a3⟩⟩
theorem fin_set {w W : World} (h1 : Blk W w.heap.size 27 nz) (h2 : Blk W (w.heap.size + 1) 27 nz) (hb : Below w.heap.size w W) (r0 r1 r2 r3 s0 s1 s2 s3 : Int) :
  Blk ((((((((W.setCell ⟨w.heap.size, 0, none⟩ (.int .u64 r0)).setCell ⟨w.heap.size, 1, none⟩ (.int .u64 r1)).setCell ⟨w.heap.size, 2, none⟩ (.int .u64 r2)).setCell ⟨w.heap.size, 3, none⟩ (.int .u64 r3)).setCell ⟨w.heap.size + 1, 0, none⟩ (.int .u64 s0)).setCell ⟨w.heap.size + 1, 1, none⟩ (.int .u64 s1)).setCell ⟨w.heap.size + 1, 2, none⟩ (.int .u64 s2)).setCell ⟨w.heap.size + 1, 3, none⟩ (.int .u64 s3)) w.heap.size 27 #[.int .u64 r0, .int .u64 r1, .int .u64 r2, .int .u64 r3] ∧
  Blk ((((((((W.setCell ⟨w.heap.size, 0, none⟩ (.int .u64 r0)).setCell ⟨w.heap.size, 1, none⟩ (.int .u64 r1)).setCell ⟨w.heap.size, 2, none⟩ (.int .u64 r2)).setCell ⟨w.heap.size, 3, none⟩ (.int .u64 r3)).setCell ⟨w.heap.size + 1, 0, none⟩ (.int .u64 s0)).setCell ⟨w.heap.size + 1, 1, none⟩ (.int .u64 s1)).setCell ⟨w.heap.size + 1, 2, none⟩ (.int .u64 s2)).setCell ⟨w.heap.size + 1, 3, none⟩ (.int .u64 s3)) (w.heap.size + 1) 27 #[.int .u64 s0, .int .u64 s1, .int .u64 s2, .int .u64 s3] ∧
  Below w.heap.size w ((((((((W.setCell ⟨w.heap.size, 0, none⟩ (.int .u64 r0)).setCell ⟨w.heap.size, 1, none⟩ (.int .u64 r1)).setCell ⟨w.heap.size, 2, none⟩ (.int .u64 r2)).setCell ⟨w.heap.size, 3, none⟩ (.int .u64 r3)).setCell ⟨w.heap.size + 1, 0, none⟩ (.int .u64 s0)).setCell ⟨w.heap.size + 1, 1, none⟩ (.int .u64 s1)).setCell ⟨w.heap.size + 1, 2, none⟩ (.int .u64 s2)).setCell ⟨w.heap.size + 1, 3, none⟩ (.int .u64 s3)) := by
 obtain ⟨k1, m1⟩ := set4_blk h1 r0 r1 r2 r3
 obtain ⟨k2, m2⟩ := set4_blk (W := set4 W w.heap.size r0 r1 r2 r3) (h2.grown m1 (by simp)) s0 s1 s2 s3
 refine ⟨k1.grown m2 (by simp), k2, ?_⟩
 exact (hb.trans (gb_to_below m1 hb.size (fun k e => by injection e; omega))).trans (gb_to_below m2 (Nat.le_trans hb.size m1.size) (fun k e => by injection e; omega))
set_option maxRecDepth 100000 in
set_option maxHeartbeats 4000000 in
theorem refDecode_any (u : Value) (l : List Int) (w : World) (hu : RI w .u8 u l) (hlen : l.length ≤ 1000) (hby : ∀ x ∈ l, 0 ≤ x ∧ x < 256) :
    Calls Tryz.prog 23 #[u] w (RetD w (refDec l)) := by
  obtain ⟨A, c, rfl, hc, hr⟩ := hu
  have hu : RI w .u8 (.slice A l.length c) l := ⟨A, c, rfl, hc, hr⟩
  have hbl : Below w.heap.size w ((w.alloc (.cells #[.int .u64 0, .int .u64 0, .int .u64 0, .int .u64 0] 27)).alloc (.cells #[.int .u64 0, .int .u64 0, .int .u64 0, .int .u64 0] 27)) := ((Below.refl _ _).alloc (Nat.le_refl _) _).alloc (by simp) _
  have HBL := Lib.hid hbl
  have HU := Lib.hid hu
  have HBY := Lib.hid hby
  obtain ⟨D, hD⟩ : ∃ D, D = refDec l := ⟨_, rfl⟩
  rw [← hD]
  unfold refDec at hD
  obtain ⟨N, hN⟩ : ∃ N, N = l.length := ⟨_, rfl⟩
  rw [← hN] at hD HU hlen hc ⊢
  have HN := Lib.hid hN
  clear hN hr hu hby hbl
  go_enter Tryz.func23, Tryz.ntmps23
  have Z1 := Lib.hid ((Blk.new w 27 #[.int .u64 0, .int .u64 0, .int .u64 0, .int .u64 0]).alloc (.cells #[.int .u64 0, .int .u64 0, .int .u64 0, .int .u64 0] 27))
  have Z2 : Hid (Blk ((w.alloc (.cells #[.int .u64 0, .int .u64 0, .int .u64 0, .int .u64 0] 27)).alloc (.cells #[.int .u64 0, .int .u64 0, .int .u64 0, .int .u64 0] 27)) (w.heap.size + 1) 27 #[.int .u64 0, .int .u64 0, .int .u64 0, .int .u64 0]) := by
    have := Blk.new (w.alloc (.cells #[.int .u64 0, .int .u64 0, .int .u64 0, .int .u64 0] 27)) 27 #[.int .u64 0, .int .u64 0, .int .u64 0, .int .u64 0]
    exact Lib.hid (by simpa using this)
  by_cases h8 : N < 8 ∨ 72 < N
  · rw [if_pos h8] at hD
    subst hD
    have dd : decide ((N : Int) < 8) = true ∨ (decide ((N : Int) < 8) = false ∧ decide ((72 : Int) < N) = true) := by
      rcases h8 with h | h
      · left; simp; omega
      · right; simp; omega
    clear h8
    rcases dd with d1 | ⟨d1, d2⟩
    all_goals
      go_wp2
      exact bodyPost_ret (refDec_results rfl rfl rfl Z1.out Z2.out rfl rfl) rfl ⟨rfl, HBL.out⟩
  · have h8' := h8
    rw [if_neg h8] at hD
    clear h8
    have d1 : decide ((N : Int) < 8) = false := by simp; omega
    have d2 : decide ((72 : Int) < N) = false := by simp; omega
    have hu1 := HU.out.below HBL.out
    obtain ⟨-, ad, x, rfl, hx, hcell⟩ := hu1.at_ (i := 3) (by rw [← HN.out]; omega)
    have hxb := HBY.out x (List.mem_of_getElem? hx)
    have hg : l.getD 3 0 = x := by rw [List.getD, hx]; rfl
    rw [hg] at hD
    obtain ⟨q, rfl⟩ : ∃ q : Nat, x = q := ⟨x.toNat, by omega⟩
    rw [Int.toNat_natCast] at hD
    have hcell3 : (((w.alloc (.cells #[.int .u64 0, .int .u64 0, .int .u64 0, .int .u64 0] 27)).alloc (.cells #[.int .u64 0, .int .u64 0, .int .u64 0, .int .u64 0] 27))).cell? ⟨ad.block, ad.off + 3, none⟩ = some (.int .u8 q) := hcell
    have i3 : (3 : Int) < N := by omega
    clear hcell hx hg hu1
    by_cases h6 : N < 6 + q
    · rw [if_pos h6] at hD
      subst hD
      have d3 : decide ((N : Int) < 6 + q) = true := by simp; omega
      go_wp2
      exact bodyPost_ret (refDec_results rfl rfl rfl Z1.out Z2.out rfl rfl) rfl ⟨rfl, HBL.out⟩
    · rw [if_neg h6] at hD
      have d3 : decide ((N : Int) < 6 + q) = false := by simp; omega
      have HD := Lib.hid hD; clear hD
      have hs1 := HU.out.slice_ (i := 4) (j := 4 + q) (by omega) (by omega)
      have hs2 := HU.out.slice_ (i := 6 + q) (j := N) (by omega) (Nat.le_refl _)
      rw [if_neg (show c ≠ 4 by omega), show 4 + q - 4 = q by omega] at hs1
      have ht2 : (l.drop (6 + q)).take (N - (6 + q)) = l.drop (6 + q) := List.take_of_length_le (by rw [List.length_drop, ← HN.out]; exact Nat.le_refl _)
      rw [ht2] at hs2
      have e4 : ad.add 4 = ⟨ad.block, ad.off + 4, none⟩ := rfl
      simp only [Option.map_some, e4] at hs1 hs2
      obtain ⟨r0, r1, r2, r3, hR⟩ : ∃ r0 r1 r2 r3, numB ((l.drop 4).take q) = [r0, r1, r2, r3] := ⟨_, _, _, _, rfl⟩
      obtain ⟨s0, s1, s2, s3, hS⟩ : ∃ s0 s1 s2 s3, numB (l.drop (6 + q)) = [s0, s1, s2, s3] := ⟨_, _, _, _, rfl⟩
      have b1 := numB_bd ((l.drop 4).take q) (fun x hx => HBY.out x (List.mem_of_mem_drop (List.mem_of_mem_take hx)))
      have b2 := numB_bd (l.drop (6 + q)) (fun x hx => HBY.out x (List.mem_of_mem_drop hx))
      rw [hR] at b1
      rw [hS] at b2
      have k1 := fun W (hB : Below w.heap.size w W) => refNumber_any _ _ W (hs1.below hB) (by rw [List.length_take]; omega) (fun x hx => HBY.out x (List.mem_of_mem_drop (List.mem_of_mem_take hx)))
      have k2 := fun W (hB : Below w.heap.size w W) => refNumber_any _ _ W (hs2.below hB) (by rw [List.length_drop, ← HN.out]; omega) (fun x hx => HBY.out x (List.mem_of_mem_drop hx))
      simp only [hR, List.map_cons, List.map_nil] at k1
      simp only [hS, List.map_cons, List.map_nil] at k2
      have hD := HD.out
      rw [hR, hS] at hD
      have HD2 := Lib.hid hD
      have B1 := Lib.hid b1; have B2 := Lib.hid b2; have K1 := Lib.hid k1; have K2 := Lib.hid k2
      clear HD hD hs1 hs2 ht2 e4 hR hS b1 b2 k1 k2
      obtain ⟨sl, hsl⟩ : ∃ sl, sl = Value.slice (if c = 6 + q then some ad else some (ad.add (6 + q))) (N - (6 + q)) (c - (6 + q)) := ⟨_, rfl⟩
      have R1 : ∀ W, (Instr.slice 22 (.slice (some ad) N c) (some (.int .i64 4)) (some (.int .i64 (4 + (q : Int)))) none).run Tryz.prog W = .ok (.slice (some ⟨ad.block, ad.off + 4, none⟩) q (c - 4)) W := fun W => by
        have := slice_lh W ad N c 4 (4 + q) (by omega) (by omega) (by omega)
        rw [show 4 + q - 4 = q by omega] at this
        exact this
      have R2 : ∀ W, (Instr.slice 22 (.slice (some ad) N c) (some (.int .i64 (6 + (q : Int)))) none none).run Tryz.prog W = .ok sl W := fun W => by
        rw [hsl]; exact slice_l W ad N c (6 + q) (by omega)
      have k2 := K2.out
      rw [← hsl] at k2
      clear hsl K2
      have K2 := Lib.hid k2
      clear k2
      have W1 : IntKind.i64.wrap (4 + (q : Int)) = 4 + q := by rw [IntKind.wrap_i64]; omega
      have W2 : IntKind.i64.wrap (6 + (q : Int)) = 6 + q := by rw [IntKind.wrap_i64]; omega
      go_wp2_with fail
      obtain ⟨V, hV⟩ : ∃ V, V = ((w.alloc (.cells #[.int .u64 0, .int .u64 0, .int .u64 0, .int .u64 0] 27)).alloc (.cells #[.int .u64 0, .int .u64 0, .int .u64 0, .int .u64 0] 27)) := ⟨_, rfl⟩
      have f0 := Lib.hid (show Below w.heap.size w V by rw [hV]; exact HBL.out)
      have hbase := Lib.hid (show Base2 w V from ⟨by rw [hV]; exact Z1.out, by rw [hV]; exact Z2.out, f0.out⟩)
      rw [← hV]
      clear hV Z1 Z2 HBL
      have hsz := hbase.out.lt
      have f0a := Lib.hid (show ∀ o, Below w.heap.size w (V.alloc o).drew from fun o => (f0.out.alloc f0.out.size o).drew)
      have f0b := Lib.hid (show ∀ o o', Below w.heap.size w ((V.alloc o).alloc o').drew from fun o o' => ((f0.out.alloc f0.out.size o).alloc (f0.out.alloc f0.out.size o).size o').drew)
      have f00 := Lib.hid (show Below w.heap.size w V.drew from f0.out.drew)
      have hbd0 := Lib.hid (show Base2 w V.drew from ⟨hbase.out.1.drew, hbase.out.2.1.drew, hbase.out.2.2.drew⟩)
      have hbd1 := Lib.hid (show ∀ o, Base2 w (V.alloc o).drew from fun o => ⟨(hbase.out.alloc o).1.drew, (hbase.out.alloc o).2.1.drew, (hbase.out.alloc o).2.2.drew⟩)
      have hbd2 := Lib.hid (show ∀ o o', Base2 w ((V.alloc o).alloc o').drew from fun o o' => ⟨((hbase.out.alloc o).alloc o').1.drew, ((hbase.out.alloc o).alloc o').2.1.drew, ((hbase.out.alloc o).alloc o').2.2.drew⟩)
      go_region_held3 (fun _ => True) (trivial)
        (first
          | (go_at_call 54; (with_reducible refine (K1.out _ ?_).mono ?_); (first | (with_reducible exact f0b.out _ _) | (with_reducible exact f0a.out _) | (with_reducible exact f00.out)); rintro e w1 ⟨rfl, hb1⟩
             first
             | (with_reducible have hx := Lib.hid (hbd0.out.below hb1); clear hb1)
             | (with_reducible have f1 := Lib.hid (Blk.below (Blk.drew (Blk.new V 27 #[.int .u64 0, .int .u64 0, .int .u64 0, .int .u64 0])) hb1 (by simp [World.drew])); have g1 := Lib.hid (show w.heap.size + 1 < V.heap.size from hsz); have hx := Lib.hid ((hbd1.out _).below hb1); clear hb1)
             | (have f1 := Lib.hid (Blk.below (Blk.drew ((Blk.new V 27 #[.int .u64 0, .int .u64 0, .int .u64 0, .int .u64 0]).alloc (.cells #[.int .u64 0, .int .u64 0, .int .u64 0, .int .u64 0] 27))) hb1 (by simp [World.drew]; omega)); have g1 := Lib.hid (show w.heap.size + 1 < V.heap.size from hsz); have f2 := Lib.hid (Blk.below (Blk.drew (Blk.new (V.alloc (.cells #[.int .u64 0, .int .u64 0, .int .u64 0, .int .u64 0] 27)) 27 #[.int .u64 0, .int .u64 0, .int .u64 0, .int .u64 0])) hb1 (by simp [World.drew])); have g2 := Lib.hid (show w.heap.size + 1 < V.heap.size + 1 from (by omega)); have hx := Lib.hid ((hbd2.out _ _).below hb1); have hne := Lib.hid (show V.heap.size ≠ V.heap.size + 1 from (by omega)); clear hb1))
          | (go_at_call 54; (with_reducible refine (K2.out _ ?_).mono ?_); (first | (with_reducible exact ((hx.out.alloc _).alloc _).bel) | (with_reducible exact (hx.out.alloc _).bel) | (with_reducible exact hx.out.bel)); rintro e w2 ⟨rfl, hb2⟩
             first
             | (have q1 := f1.out.below hb2 f1.out.lt; have q2 := f2.out.below hb2 f2.out.lt; have hy := hx.out.below hb2; have h1 := g1.out; have h2 := g2.out; have hn := hne.out; simp only [World.size_alloc] at q2; generalize V.heap.size + 1 = gy at *; have hn' := hn.symm; have FA := Lib.hid (two_known hy h1 h2 hn q1 q2 r0 r1 r2 r3 s0 s1 s2 s3); have FB := Lib.hid (two_known hy h2 h1 hn' q2 q1 r0 r1 r2 r3 s0 s1 s2 s3); obtain ⟨x0, x1, x2, x3⟩ := blk_cells q1; have xf := q1.frozen; have xl := q1.lt; obtain ⟨y0, y1, y2, y3⟩ := blk_cells q2; have yf := q2.frozen; have yl := q2.lt; clear hb2 q1 q2 hy)
             | (have l1 := f1.out.lt; have hxl := hx.out.lt; have q1 := (f1.out.alloc (.cells #[.int .u64 0, .int .u64 0, .int .u64 0, .int .u64 0] 27)).below hb2 (by simp; omega); have q2 := (Blk.new w1 27 #[.int .u64 0, .int .u64 0, .int .u64 0, .int .u64 0]).below hb2 (by simp); have hy := (hx.out.alloc (.cells #[.int .u64 0, .int .u64 0, .int .u64 0, .int .u64 0] 27)).below hb2; have hn := Nat.ne_of_lt l1; have hn' := hn.symm; have FA := Lib.hid (two_known hy g1.out hxl hn q1 q2 r0 r1 r2 r3 s0 s1 s2 s3); have FB := Lib.hid (two_known hy hxl g1.out hn' q2 q1 r0 r1 r2 r3 s0 s1 s2 s3); obtain ⟨x0, x1, x2, x3⟩ := blk_cells q1; have xf := q1.frozen; have xl := q1.lt; obtain ⟨y0, y1, y2, y3⟩ := blk_cells q2; have yf := q2.frozen; have yl := q2.lt; clear hb2 q1 q2 hy)
             | (have q1 := f1.out.below hb2 f1.out.lt; have hy := hx.out.below hb2; obtain ⟨FA, FB⟩ := one_known hy g1.out q1 r0 r1 r2 r3 s0 s1 s2 s3; have FA := Lib.hid FA; have FB := Lib.hid FB; obtain ⟨x0, x1, x2, x3⟩ := blk_cells q1; have xf := q1.frozen; have xl := q1.lt; clear hb2 q1 hy)
             | (have hxl := hx.out.lt; have q1 := ((Blk.new w1 27 #[.int .u64 0, .int .u64 0, .int .u64 0, .int .u64 0]).alloc (.cells #[.int .u64 0, .int .u64 0, .int .u64 0, .int .u64 0] 27)).below hb2 (by simp; omega); have q2 := (Blk.new (w1.alloc (.cells #[.int .u64 0, .int .u64 0, .int .u64 0, .int .u64 0] 27)) 27 #[.int .u64 0, .int .u64 0, .int .u64 0, .int .u64 0]).below hb2 (by simp); have hy := ((hx.out.alloc (.cells #[.int .u64 0, .int .u64 0, .int .u64 0, .int .u64 0] 27)).alloc (.cells #[.int .u64 0, .int .u64 0, .int .u64 0, .int .u64 0] 27)).below hb2; have hxl2 : w.heap.size + 1 < w1.heap.size + 1 := (by omega); have hn : w1.heap.size ≠ w1.heap.size + 1 := (by omega); simp only [World.size_alloc] at q2; generalize w1.heap.size + 1 = gy at *; have hn' := hn.symm; have FA := Lib.hid (two_known hy hxl hxl2 hn q1 q2 r0 r1 r2 r3 s0 s1 s2 s3); have FB := Lib.hid (two_known hy hxl2 hxl hn' q2 q1 r0 r1 r2 r3 s0 s1 s2 s3); obtain ⟨x0, x1, x2, x3⟩ := blk_cells q1; have xf := q1.frozen; have xl := q1.lt; obtain ⟨y0, y1, y2, y3⟩ := blk_cells q2; have yf := q2.frozen; have yl := q2.lt; clear hb2 q1 q2 hy)
             | (have hxl := hx.out.lt; have q1 := (Blk.new w1 27 #[.int .u64 0, .int .u64 0, .int .u64 0, .int .u64 0]).below hb2 (by simp); have hy := (hx.out.alloc (.cells #[.int .u64 0, .int .u64 0, .int .u64 0, .int .u64 0] 27)).below hb2; obtain ⟨FA, FB⟩ := one_known hy hxl q1 r0 r1 r2 r3 s0 s1 s2 s3; have FA := Lib.hid FA; have FB := Lib.hid FB; obtain ⟨x0, x1, x2, x3⟩ := blk_cells q1; have xf := q1.frozen; have xl := q1.lt; clear hb2 q1 hy)
             | (have hy := hx.out.below hb2; obtain ⟨FA, FB⟩ := none_known hy r0 r1 r2 r3 s0 s1 s2 s3; have FA := Lib.hid FA; have FB := Lib.hid FB; clear hb2 hy)))
      all_goals first
        | (obtain ⟨WF, g6, g7, h6, h7, hWF, m6, m7, HF⟩ := FA.out; rw [← hWF, ← h6, ← h7])
        | (obtain ⟨WF, g6, g7, h6, h7, hWF, m6, m7, HF⟩ := FB.out; rw [← hWF, ← h6, ← h7])
      all_goals
        clear hWF FA FB h6 h7
        have e61 : g6 ≠ w.heap.size := by omega
        have e62 : g6 ≠ w.heap.size + 1 := by omega
        have e71 : g7 ≠ w.heap.size := by omega
        have e72 : g7 ≠ w.heap.size + 1 := by omega
        have e61' := e61.symm
        have e62' := e62.symm
        have e71' := e71.symm
        have e72' := e72.symm
        try clear x0 x1 x2 x3 xf xl
        try clear y0 y1 y2 y3 yf yl
        have p6 := Lib.hid HF.1
        have p7 := Lib.hid HF.2.1
        have pz1 := Lib.hid HF.2.2.1
        have pz2 := Lib.hid HF.2.2.2.1
        have pb := Lib.hid HF.2.2.2.2
        have lz := HF.2.2.2.1.lt
        clear HF
        obtain ⟨x0, x1, x2, x3⟩ := blk_cells p6.out
        obtain ⟨y0, y1, y2, y3⟩ := blk_cells p7.out
        go_wp2_with fail
        refine (refEncode_any r0 r1 r2 r3 s0 s1 s2 s3 WF B1.out B2.out).mono ?_
        rintro e w5 ⟨v5, rfl, hv5, hb5⟩
        have pb5 := Lib.hid (pb.out.trans (hb5.mono pb.out.size))
        have hu5 := Lib.hid (HU.out.below pb5.out)
        have p6 := Lib.hid (p6.out.below hb5 p6.out.lt)
        have p7 := Lib.hid (p7.out.below hb5 p7.out.lt)
        have pz1 := Lib.hid (pz1.out.below hb5 pz1.out.lt)
        have pz2 := Lib.hid (pz2.out.below hb5 pz2.out.lt)
        clear hb5 pb x0 x1 x2 x3 y0 y1 y2 y3
        obtain ⟨E, hE⟩ : ∃ E, E = derE (leB [r0, r1, r2, r3]).reverse (leB [s0, s1, s2, s3]).reverse := ⟨_, rfl⟩
        have hEl : E.length ≤ 72 := by rw [hE]; exact (derE_len _ _ (by intro h; have := congrArg List.length h; simp [leB_length] at this) (by intro h; have := congrArg List.length h; simp [leB_length] at this) (by simp [leB_length]) (by simp [leB_length])).2
        rw [← hE] at hv5
        have HV5 := Lib.hid hv5
        clear hv5
        have hd2 := HD2.out
        rw [← hE] at hd2
        clear hE HD2
        have HD3 := Lib.hid hd2
        clear hd2
        go_wp2_with fail
        refine (refSame_any v5 _ E l w5 HV5.out.ri hu5.out (by omega) (by rw [← HN.out]; omega)).mono ?_
        rintro e w6 ⟨rfl, hb6⟩
        have pb6 := Lib.hid (pb5.out.trans (hb6.mono pb5.out.size))
        have p6 := Lib.hid (p6.out.below hb6 p6.out.lt)
        have p7 := Lib.hid (p7.out.below hb6 p7.out.lt)
        have pz1 := Lib.hid (pz1.out.below hb6 pz1.out.lt)
        have pz2 := Lib.hid (pz2.out.below hb6 pz2.out.lt)
        clear hb6 pb5 hu5 HV5 hEl
        obtain ⟨a0, a1, a2, a3⟩ := blk_cells pz1.out
        obtain ⟨b0, b1, b2, b3⟩ := blk_cells pz2.out
        have af := pz1.out.frozen
        have bf := pz2.out.frozen
        by_cases hE : E = l
        · obtain ⟨x0, x1, x2, x3⟩ := blk_cells p6.out
          obtain ⟨y0, y1, y2, y3⟩ := blk_cells p7.out
          have hdec : decide (E = l) = true := by simpa using hE
          have hD2 := HD3.out
          rw [if_pos hE] at hD2
          subst hD2
          simp only [hdec]
          clear hE hdec HD3
          go_wp2
          go_region
          go_wp2
          have F := fin_set pz1.out pz2.out pb6.out r0 r1 r2 r3 s0 s1 s2 s3
          exact bodyPost_ret (refDec_results rfl rfl rfl F.1.drew F.2.1.drew rfl rfl) rfl ⟨rfl, F.2.2.drew⟩
        · have hdec : decide (E = l) = false := by simpa using hE
          have hD2 := HD3.out
          rw [if_neg hE] at hD2
          subst hD2
          simp only [hdec]
          clear hE hdec HD3
          go_wp2
          have F := fin_set pz1.out pz2.out pb6.out 0 0 0 0 0 0 0 0
          exact bodyPost_ret (refDec_results rfl rfl rfl F.1 F.2.1 rfl rfl) rfl ⟨rfl, F.2.2⟩
end Go.Proofs.YtdcganigfihkjaaGreatDoor
/- The layers codec and der, as contracts of the abstract machine. -/
namespace Go.Proofs.YtdcganigfihkjaaGreatDoor
open Go Go.Ab Go.RowKit Go.Chr
set_option maxRecDepth 100000
theorem retB_outs {f : FuncId} {vs : List Value} {w : World} {l : List Int} (hfn : (Tryz.prog.funcs[f]?).map (fun fn => (fn.name == "runtime.NumGoroutine", fn.body.isSome)) = some (false, true))
  (h : Calls Tryz.prog f vs.toArray w (RetB w l)) (hl : ∀ x ∈ l, 0 ≤ x ∧ x < 256) : CallOuts CX.P f vs w fun u w' => Below w.heap.size w w' ∧ OI w' w.heap.size 5 .u8 u l ∧ ∀ x ∈ l, okI .u8 x := by
 rw [CX_P]
 refine callOuts_of hfn (Calls.mono h ?_)
 rintro e w' ⟨v, rfl, ho, hb⟩
 exact ⟨v, rfl, hb, ho, fun x hx => okI_u8.2 (hl x hx)⟩
theorem leB_leL (x : Nat) : leB [lb x 0, lb x 1, lb x 2, lb x 3] = leL x := by
 rw [← leK_eq]
 unfold leB leK
 refine List.map_congr_left fun i hi => ?_
 have hi := List.mem_range.1 hi
 rw [lbs_getD x (by omega)]
 rw [Nat.min_eq_left (by omega), Int.fdiv_eq_ediv_of_nonneg _ (by exact_mod_cast Nat.zero_le _)]
 unfold IntKind.wrap; simp [IntKind.signed, IntKind.bits]
def putLittleS : OSpec := fun cs => match cs with
 | [.nat _ x] => some (none, leL x)
 | _ => none
def putBigS : OSpec := fun cs => match cs with
 | [.nat _ x] => some (none, beL x)
 | _ => none
theorem putLittle_c : CallOkO CX 5 .u8 105 putLittleS := by
 intro cs p l hF hp N w vs hE hv
 unfold putLittleS at hF
 split at hF
 ·rename_i m x
  injection hF with hF; injection hF with e1 e2; subst e1; subst e2
  obtain ⟨u1, rfl, h1⟩ := cs1 hv
  obtain ⟨rfl, hx, hm⟩ := rel_nat h1
  have h := putLittle_any (lb x 0) (lb x 1) (lb x 2) (lb x 3) w
  rw [leB_leL] at h
  exact retB_outs (by kernel_rfl) h (leL_ok x)
 ·cases hF
theorem putBig_c : CallOkO CX 5 .u8 69 putBigS := by
 intro cs p l hF hp N w vs hE hv
 unfold putBigS at hF
 split at hF
 ·rename_i m x
  injection hF with hF; injection hF with e1 e2; subst e1; subst e2
  obtain ⟨u1, rfl, h1⟩ := cs1 hv
  obtain ⟨rfl, hx, hm⟩ := rel_nat h1
  have h := putBig_any (lb x 0) (lb x 1) (lb x 2) (lb x 3) w
  rw [leB_leL] at h
  exact retB_outs (by kernel_rfl) h (fun b hb => leL_ok x b (List.mem_reverse.1 hb))
 ·cases hF
def leW (l : List Int) : Nat := natOf (leN l)
def beW (l : List Int) : Nat := natOf (leN l.reverse)
theorem leN_len (l : List Int) : (leN l).length = 4 := rfl
theorem leW_ok {l : List Int} (h : ∀ x ∈ l, 0 ≤ x ∧ x < 256) : leW l < two256 ∧ natL (leW l) = leN l :=
 natOf_rel (leN_len l) fun x hx => okI_u64.2 (by have := leN_bd l h x hx; omega)
theorem beW_ok {l : List Int} (h : ∀ x ∈ l, 0 ≤ x ∧ x < 256) : beW l < two256 ∧ natL (beW l) = leN l.reverse :=
 leW_ok fun x hx => h x (List.mem_reverse.1 hx)
theorem limbs_val {ι : Nat → Option Ab.Loc} {N : Nat → Prop} {w : World} {L : List Int} {x : Nat} (h : x < two256 ∧ natL x = L) : (AV.c (.nat two256 x)).val ι N w (.agg (L.map (Value.int .u64)).toArray) :=
 ⟨_, rfl, by rw [← h.2], h.1, Nat.le_refl _⟩
def littleS : CSpec := fun cs => match cs with
 | [.ints .u8 l] => some (some (l.length = 32), .t2 (.c (.nat two256 (leW l))) (.c (.bool true)))
 | _ => none
def bigS : CSpec := fun cs => match cs with
 | [.ints .u8 l] => some (some (l.length = 32), .t2 (.c (.nat two256 (beW l))) (.c (.bool true)))
 | _ => none
theorem little_c : CallOk CX 79 littleS := by
 intro cs p v hF hp N w vs hE hv
 unfold littleS at hF
 split at hF
 ·rename_i l
  injection hF with hF; injection hF with e1 e2; subst e1; subst e2
  obtain ⟨u1, rfl, h1⟩ := cs1 hv
  obtain ⟨hr, hb⟩ := ints_ri hE.1 h1
  have hb := fun x hx => okI_u8.1 (hb x hx)
  rw [CX_P]
  refine callOuts_of (by kernel_rfl) (Calls.mono (little_any u1 l w hr hb hp) ?_)
  rintro e w' ⟨rfl, hB⟩
  exact ⟨_, rfl, hB, _, _, rfl, limbs_val (leW_ok hb), bool_val⟩
 ·cases hF
theorem big_c : CallOk CX 41 bigS := by
 intro cs p v hF hp N w vs hE hv
 unfold bigS at hF
 split at hF
 ·rename_i l
  injection hF with hF; injection hF with e1 e2; subst e1; subst e2
  obtain ⟨u1, rfl, h1⟩ := cs1 hv
  obtain ⟨hr, hb⟩ := ints_ri hE.1 h1
  have hb := fun x hx => okI_u8.1 (hb x hx)
  rw [CX_P]
  refine callOuts_of (by kernel_rfl) (Calls.mono (big_any u1 l w hr hb hp) ?_)
  rintro e w' ⟨rfl, hB⟩
  exact ⟨_, rfl, hB, _, _, rfl, limbs_val (beW_ok hb), bool_val⟩
 ·cases hF
def cloneS : OSpec := fun cs => match cs with
 | [.ints .u8 l] => some (some (l.length ≤ 1000000000), l)
 | _ => none
theorem clone_c : CallOkO CX 5 .u8 77 cloneS := by
 intro cs p l hF hp N w vs hE hv
 unfold cloneS at hF
 split at hF
 ·rename_i l
  injection hF with hF; injection hF with e1 e2; subst e1; subst e2
  obtain ⟨u1, rfl, h1⟩ := cs1 hv
  obtain ⟨hr, hb⟩ := ints_ri hE.1 h1
  have hb := fun x hx => okI_u8.1 (hb x hx)
  have hp : l.length ≤ 1000000000 := hp
  exact retB_outs (by kernel_rfl) (clone_any u1 l w hr (by omega)) hb
 ·cases hF
theorem rows_rr {N : Nat → Prop} {w : World} {ls : List (List Int)} {v : Value} (hN : ∀ k, N k → k < w.heap.size) (h : asVal (CV.rows 1 (.ints .u8) ls).isAgg ((CV.rows 1 (.ints .u8) ls).rel N w) v) : RR w .u8 v ls ∧ ∀ l ∈ ls, ∀ x ∈ l, 0 ≤ x ∧ x < 256 := by
 obtain ⟨ys, hy, A, c, e, hc, h⟩ := h
 injection e with e
 have hlen := relList_len hy
 have hat : ∀ (i : Nat) (l : List Int), ls[i]? = some l → ∃ u, ys[i]? = some u ∧ intsRel N w .u8 l [u] := by
  intro i l hl
  obtain ⟨c1, c2, c3, e, h1, h2, h3, _⟩ := relList_at (xs := ls) hy hl
  match c2, h2 with
  | [u], _ =>
   refine ⟨u, ?_, h3⟩
   rw [e, List.getElem?_append_right (by omega), show i - c1.length = 0 by omega]; rfl
 refine ⟨⟨A, c, ys, e, hc, ⟨hlen, fun h0 => ?_⟩, fun i u l hu hl => ?_⟩, fun l hl x hx => ?_⟩
 ·obtain ⟨ad, e, hb, hr⟩ := h h0
  exact ⟨ad, e, hN _ hb, hr⟩
 ·obtain ⟨u', hu', hr⟩ := hat i l hl
  rw [hu] at hu'; injection hu' with hu'; subst hu'
  exact (ints_ri hN hr).1
 ·obtain ⟨i, hi, rfl⟩ := List.getElem_of_mem hl
  obtain ⟨u', hu', hr⟩ := hat i _ (List.getElem?_eq_getElem hi)
  exact okI_u8.1 (hr.2 x hx)
def concatS : OSpec := fun cs => match cs with
 | [.rows 1 (.ints .u8) ls] => some (some (List.length (List.flatten (α := Int) ls) ≤ 1000000000 ∧ List.length (α := List Int) ls ≤ 1000000000), List.flatten (α := Int) ls)
 | _ => none
theorem concat_c : CallOkO CX 5 .u8 68 concatS := by
 intro cs p l hF hp N w vs hE hv
 unfold concatS at hF
 split at hF
 ·rename_i ls
  injection hF with hF; injection hF with e1 e2; subst e1; subst e2
  obtain ⟨u1, rfl, h1⟩ := cs1 hv
  obtain ⟨hr, hb⟩ := rows_rr hE.1 h1
  refine retB_outs (by kernel_rfl) (concat_any u1 ls w hr hp.1 hp.2) ?_
  intro x hx
  obtain ⟨l, hl, hx⟩ := List.mem_flatten.1 hx
  exact hb l hl x hx
 ·cases hF
def derEn (r s : Nat) : List Int := derE (beL r) (beL s)
def derEncodeS : OSpec := fun cs => match cs with
 | [.nat _ x, .nat _ y] => some (none, derEn x y)
 | _ => none
theorem beL_ne (x : Nat) : beL x ≠ [] := fun h => by have := beL_len x; rw [h] at this; cases this
theorem beL_ok (x : Nat) : ∀ b ∈ beL x, 0 ≤ b ∧ b < 256 := fun b hb => leL_ok x b (List.mem_reverse.1 hb)
theorem derEn_ok (x y : Nat) : ∀ b ∈ derEn x y, 0 ≤ b ∧ b < 256 := derE_bd _ _ (beL_ne x) (beL_ne y) (beL_len x) (beL_len y) (beL_ok x) (beL_ok y)
theorem derEncode_c : CallOkO CX 5 .u8 29 derEncodeS := by
 intro cs p l hF hp N w vs hE hv
 unfold derEncodeS at hF
 split at hF
 ·rename_i m x m2 y
  injection hF with hF; injection hF with e1 e2; subst e1; subst e2
  obtain ⟨u1, u2, rfl, h1, h2⟩ := cs2 hv
  obtain ⟨rfl, hx, hm⟩ := rel_nat h1
  obtain ⟨rfl, hy, hm⟩ := rel_nat h2
  have h := encode_any (lb x 0) (lb x 1) (lb x 2) (lb x 3) (lb y 0) (lb y 1) (lb y 2) (lb y 3) w
  rw [leB_leL, leB_leL] at h
  exact retB_outs (by kernel_rfl) h (derEn_ok x y)
 ·cases hF
noncomputable def derDe (l : List Int) : Nat × Nat × Bool := match decB l with
 | some (a, b) => (natOf a, natOf b, true)
 | none => (0, 0, false)
noncomputable def derDecodeS : CSpec := fun cs => match cs with
 | [.ints .u8 l] => some (some (l.length ≤ 1000), .t3 (.c (.nat two256 (derDe l).1)) (.c (.nat two256 (derDe l).2.1)) (.c (.bool (derDe l).2.2)))
 | _ => none
theorem decB_nat {l a b : List Int} (hb : ∀ x ∈ l, 0 ≤ x ∧ x < 256) (h : decB l = some (a, b)) : (natOf a < two256 ∧ natL (natOf a) = a) ∧ (natOf b < two256 ∧ natL (natOf b) = b) := by
 have hr := decB_canon hb h
 have hla : (leB a).reverse.length = 32 := by rw [List.length_reverse, leB_length]
 have hlb : (leB b).reverse.length = 32 := by rw [List.length_reverse, leB_length]
 have hd := decB_derE (leB a).reverse (leB b).reverse hla hlb (fun x hx => leB_bd a x (List.mem_reverse.1 hx)) (fun x hx => leB_bd b x (List.mem_reverse.1 hx))
 rw [← hr, h, List.reverse_reverse, List.reverse_reverse] at hd
 injection hd with hd
 injection hd with e1 e2
 have h1 := leW_ok (leB_bd a)
 have h2 := leW_ok (leB_bd b)
 unfold leW at h1 h2
 rw [← e1] at h1
 rw [← e2] at h2
 exact ⟨h1, h2⟩
theorem retD_outs {f : FuncId} {vs : List Value} {w : World} {l : List Int} {N : Nat → Prop} (hfn : (Tryz.prog.funcs[f]?).map (fun fn => (fn.name == "runtime.NumGoroutine", fn.body.isSome)) = some (false, true))
  (hb : ∀ x ∈ l, 0 ≤ x ∧ x < 256) (h : Calls Tryz.prog f vs.toArray w (RetD w (decB l))) : CallOuts CX.P f vs w fun u w' => Below w.heap.size w w' ∧ (AV.t3 (.c (.nat two256 (derDe l).1)) (.c (.nat two256 (derDe l).2.1)) (.c (.bool (derDe l).2.2))).val (fun _ => none) N w u := by
 rw [CX_P]
 refine callOuts_of hfn (Calls.mono h ?_)
 rintro e w' ⟨rfl, hB⟩
 refine ⟨_, rfl, hB, ?_⟩
 unfold derDe
 cases hd : decB l with
 | none =>
  refine ⟨_, _, _, rfl, ?_, ?_, bool_val⟩
  ·exact limbs_val (x := 0) (L := z4) ⟨by decide, by decide⟩
  ·exact limbs_val (x := 0) (L := z4) ⟨by decide, by decide⟩
 | some p =>
  obtain ⟨a, b⟩ := p
  obtain ⟨h1, h2⟩ := decB_nat hb hd
  exact ⟨_, _, _, rfl, limbs_val h1, limbs_val h2, bool_val⟩
theorem derDecode_c : CallOk CX 14 derDecodeS := by
 intro cs p v hF hp N w vs hE hv
 unfold derDecodeS at hF
 split at hF
 ·rename_i l
  injection hF with hF; injection hF with e1 e2; subst e1; subst e2
  obtain ⟨u1, rfl, h1⟩ := cs1 hv
  obtain ⟨hr, hb⟩ := ints_ri hE.1 h1
  have hb := fun x hx => okI_u8.1 (hb x hx)
  have hp : l.length ≤ 1000 := hp
  exact retD_outs (by kernel_rfl) hb (decode_any u1 l w hr (by omega) hb)
 ·cases hF
theorem refDecode_c : CallOk CX 23 derDecodeS := by
 intro cs p v hF hp N w vs hE hv
 unfold derDecodeS at hF
 split at hF
 ·rename_i l
  injection hF with hF; injection hF with e1 e2; subst e1; subst e2
  obtain ⟨u1, rfl, h1⟩ := cs1 hv
  obtain ⟨hr, hb⟩ := ints_ri hE.1 h1
  have hb := fun x hx => okI_u8.1 (hb x hx)
  have h := refDecode_any u1 l w hr hp hb
  rw [refDec_eq l hb] at h
  exact retD_outs (by kernel_rfl) hb h
 ·cases hF
noncomputable def G2 : Tab := (105, flatO 5 .u8 putLittleS) :: (69, flatO 5 .u8 putBigS) :: (79, flatC littleS) :: (41, flatC bigS) :: (77, flatO 5 .u8 cloneS) :: (68, flatO 5 .u8 concatS) :: (29, flatO 5 .u8 derEncodeS) :: (14, flatC derDecodeS) :: (23, flatC derDecodeS) :: G0
theorem G2_ok : TabOk CX G2 := .cons (flatO_ok putLittle_c) <| .cons (flatO_ok putBig_c) <| .cons (flatC_ok little_c) <| .cons (flatC_ok big_c) <| .cons (flatO_ok clone_c) <| .cons (flatO_ok concat_c) <| .cons (flatO_ok derEncode_c) <| .cons (flatC_ok derDecode_c) <| .cons (flatC_ok refDecode_c) G0_ok
end Go.Proofs.YtdcganigfihkjaaGreatDoor
