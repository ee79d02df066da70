/- Contracts of the layer der: Decode, the walk. -/
import Derived.Test.YteicdkknciljhaaDecode
namespace Go.Proofs.Yteicdkknciljhaa
open Go.RowKit Go.Chr

abbrev z4 : List Int := [0, 0, 0, 0]
def natV (l : List Int) : Value := .agg (l.map (Value.int .u64)).toArray

/-- what Decode answers -/
def RetD (w : World) (o : Option (List Int × List Int)) (e : Ending) (w' : World) : Prop :=
  e = .returned (.tuple #[natV (o.getD (z4, z4)).1, natV (o.getD (z4, z4)).2, .bool o.isSome]) ∧ Below w.heap.size w w'

theorem dec_results {a b d : Nat} {xs ys : Array Value} {t : Bool} {tmps : Array Value} {w : World} (h2 : tmps.getD 2 undef = .pointer (some ⟨a, 0, none⟩)) (h3 : tmps.getD 3 undef = .pointer (some ⟨b, 0, none⟩)) (h4 : tmps.getD 4 undef = .pointer (some ⟨d, 0, none⟩))
    (ha : Blk w a 26 xs) (hb : Blk w b 26 ys) (hd : Blk w d 4 #[.bool t]) (hx : xs.size = 4) (hy : ys.size = 4) :
    (results Try.f7 tmps).run Try.prog w = .ok (.tuple #[.agg xs, .agg ys, .bool t]) w := by
  have la := load_blk (P := Try.prog) (ty := 26) (d := .array 4 24) ha rfl Try.underlying26 (by rw [hx]; kernel_rfl)
  have lb := load_blk (P := Try.prog) (ty := 26) (d := .array 4 24) hb rfl Try.underlying26 (by rw [hy]; kernel_rfl)
  have ld := hd.cell 0
  simp at ld
  have ld' : (loadVar 4 ⟨d, 0, none⟩).run Try.prog w = .ok (.bool t) w := by simp [go_sem, ld]
  have h2' := h2
  have h3' := h3
  have h4' := h4
  simp only [Array.getD_eq_getD_getElem?] at h2' h3' h4'
  simp [results, Try.results7, h2', h3', h4', asAddr, la, lb, ld']

theorem dec_fail {w w1 : World} {x0 x1 x2 x3 y0 y1 y2 y3 : Value} {tmps : Array Value} {ds : List Deferred}
    (h2 : tmps.getD 2 undef = .pointer (some ⟨w.heap.size, 0, none⟩)) (h3 : tmps.getD 3 undef = .pointer (some ⟨w.heap.size + 1, 0, none⟩)) (h4 : tmps.getD 4 undef = .pointer (some ⟨w.heap.size + 1 + 1, 0, none⟩))
    (hds : ds = [{ target := .fn (.func 11) #[.pointer (some ⟨w.heap.size, 0, none⟩), .pointer (some ⟨w.heap.size + 1, 0, none⟩), .pointer (some ⟨w.heap.size + 1 + 1, 0, none⟩)], args := #[] }])
    (HA : Blk w1 w.heap.size 26 #[x0, x1, x2, x3])
    (HB : Blk w1 (w.heap.size + 1) 26 #[y0, y1, y2, y3])
    (HD : Blk w1 (w.heap.size + 1 + 1) 4 #[.bool false]) (hb : Below w.heap.size w w1) :
    bodyPostD Try.prog Try.f7 (RetD w none) (Exit.panic wrongV) { tmps := tmps, defers := ds } w1 := by
  subst hds
  unfold bodyPostD
  refine leaves_cons (f := 11) (args := #[.pointer (some ⟨w.heap.size, 0, none⟩), .pointer (some ⟨w.heap.size + 1, 0, none⟩), .pointer (some ⟨w.heap.size + 1 + 1, 0, none⟩)]) (by simp) (by simp [go_sem]) ?_
  refine (caught _ _ _ _ _ _ _ _ _ _ _ _ [] _ _ _ HA HB HD (by omega) (by omega) (by omega)).mono ?_
  rintro e u' w'' ⟨rfl, rfl, ha, hb', hd, hbl⟩
  exact ⟨_, dec_results h2 h3 h4 ha hb' hd rfl rfl, rfl, hb.trans (hbl _ (Nat.le_refl _) (by omega) (by omega))⟩

theorem dec_ok {w w1 : World} {a0 a1 a2 a3 b0 b1 b2 b3 : Int} {tmps : Array Value} {ds : List Deferred}
    (h2 : tmps.getD 2 undef = .pointer (some ⟨w.heap.size, 0, none⟩)) (h3 : tmps.getD 3 undef = .pointer (some ⟨w.heap.size + 1, 0, none⟩)) (h4 : tmps.getD 4 undef = .pointer (some ⟨w.heap.size + 1 + 1, 0, none⟩))
    (hds : ds = [{ target := .fn (.func 11) #[.pointer (some ⟨w.heap.size, 0, none⟩), .pointer (some ⟨w.heap.size + 1, 0, none⟩), .pointer (some ⟨w.heap.size + 1 + 1, 0, none⟩)], args := #[] }])
    (HA : Blk w1 w.heap.size 26 #[.int .u64 a0, .int .u64 a1, .int .u64 a2, .int .u64 a3])
    (HB : Blk w1 (w.heap.size + 1) 26 #[.int .u64 b0, .int .u64 b1, .int .u64 b2, .int .u64 b3])
    (HD : Blk w1 (w.heap.size + 1 + 1) 4 #[.bool true]) (hb : Below w.heap.size w w1) :
    bodyPostD Try.prog Try.f7 (RetD w (some ([a0, a1, a2, a3], [b0, b1, b2, b3]))) Exit.ret { tmps := tmps, defers := ds } w1 := by
  subst hds
  unfold bodyPostD
  refine leaves_cons (f := 11) (args := #[.pointer (some ⟨w.heap.size, 0, none⟩), .pointer (some ⟨w.heap.size + 1, 0, none⟩), .pointer (some ⟨w.heap.size + 1 + 1, 0, none⟩)]) (by simp) (by simp [go_sem]) ?_
  refine (idle _ _ _ w1).mono ?_
  rintro e u' w'' ⟨rfl, rfl, rfl⟩
  exact ⟨_, dec_results h2 h3 h4 HA HB HD rfl rfl, rfl, hb⟩

/-- what Decode makes of bytes -/
noncomputable def decB : List Int → Option (List Int × List Int)
  | x :: n :: r => if x = 48 ∧ n = r.length then (rdI r).bind fun (a, r1) => (rdI r1).bind fun (b, r2) => if r2 = [] then some (a, b) else none else none
  | _ => none
theorem decB_cons (x n : Int) (r : List Int) : decB (x :: n :: r) = if x = 48 ∧ n = r.length then (rdI r).bind fun (a, r1) => (rdI r1).bind fun (b, r2) => if r2 = [] then some (a, b) else none else none := rfl

theorem rdI_some {r r1 a : List Int} (h : rdI r = some (a, r1)) : r1.length ≤ r.length ∧ (∀ x ∈ r1, x ∈ r) ∧ ∃ a0 a1 a2 a3, a = [a0, a1, a2, a3] := by
  rcases r with _ | ⟨x, _ | ⟨n, r⟩⟩
  · cases h
  · cases h
  · rw [rdI_cons] at h
    split at h
    · injection h with h
      injection h with h1 h2
      subst h1 h2
      refine ⟨by simp; omega, fun x hx => ?_, _, _, _, _, rfl⟩
      simp [List.mem_of_mem_drop hx]
    · cases h

def Kept (w W : World) : Prop :=
  Blk W w.heap.size 26 #[.int .u64 0, .int .u64 0, .int .u64 0, .int .u64 0] ∧
  Blk W (w.heap.size + 1) 26 #[.int .u64 0, .int .u64 0, .int .u64 0, .int .u64 0] ∧
  Blk W (w.heap.size + 1 + 1) 4 #[.bool false] ∧ Below w.heap.size w W ∧ w.heap.size ≤ W.heap.size

theorem Kept.but {w W W' : World} (h : Kept w W) (hb : But (w.heap.size + 1 + 1 + 1) W W') : Kept w W' := by
  obtain ⟨h1, h2, h3, h4, h5⟩ := h
  exact ⟨h1.grown hb (by simp; omega), h2.grown hb (by simp), h3.grown hb (by simp), h4.trans (gb_to_below hb h5 (fun k e => by injection e; omega)), Nat.le_trans h5 hb.size⟩

set_option maxRecDepth 100000 in
set_option maxHeartbeats 1000000 in
theorem byte_nil (g : Nat) (v : Value) (w : World) (hb : Blk w g 38 #[v]) (h : RI w .u8 v []) : Calls Try.prog 13 #[.pointer (some ⟨g, 0, none⟩)] w (RdNo g w) := by
  obtain ⟨A, c, rfl, hc, hr⟩ := h
  have q1 := hb.cell 0
  simp at q1
  have H := Lib.hid hb; clear hb
  go_enter Try.func13, Try.ntmps13
  go_wp2
  exact ⟨rfl, rfl, World.grownBy.refl w _⟩

set_option maxRecDepth 100000 in
set_option maxHeartbeats 1000000 in
theorem must_nil (g : Nat) (v : Value) (x : Int) (w : World) (hb : Blk w g 38 #[v]) (h : RI w .u8 v []) :
    Calls Try.prog 12 #[.pointer (some ⟨g, 0, none⟩), .int .u8 x] w (RdNo g w) := by
  go_enter Try.func12, Try.ntmps12
  go_wp2_with fail
  refine (byte_nil g v w hb h).mono ?_
  rintro e w1 ⟨rfl, hb⟩
  exact ⟨rfl, rfl, hb⟩

theorem dec_start (w : World) (A : Option Addr) (l : List Int) (c : Nat) (hu : RI w .u8 (.slice A l.length c) l) :
    (l ≠ [] → IsR ((((w.alloc (.cells #[.int .u64 0, .int .u64 0, .int .u64 0, .int .u64 0] 26)).alloc (.cells #[.int .u64 0, .int .u64 0, .int .u64 0, .int .u64 0] 26)).alloc (.cells #[.bool false] 4)).alloc (.cells #[.slice A l.length c] 38)) (w.heap.size + 1 + 1 + 1) w.heap.size l) ∧
    (Blk ((((w.alloc (.cells #[.int .u64 0, .int .u64 0, .int .u64 0, .int .u64 0] 26)).alloc (.cells #[.int .u64 0, .int .u64 0, .int .u64 0, .int .u64 0] 26)).alloc (.cells #[.bool false] 4)).alloc (.cells #[.slice A l.length c] 38)) (w.heap.size + 1 + 1 + 1) 38 #[.slice A l.length c]) ∧
    (RI ((((w.alloc (.cells #[.int .u64 0, .int .u64 0, .int .u64 0, .int .u64 0] 26)).alloc (.cells #[.int .u64 0, .int .u64 0, .int .u64 0, .int .u64 0] 26)).alloc (.cells #[.bool false] 4)).alloc (.cells #[.slice A l.length c] 38)) .u8 (.slice A l.length c) l) ∧
    Kept w ((((w.alloc (.cells #[.int .u64 0, .int .u64 0, .int .u64 0, .int .u64 0] 26)).alloc (.cells #[.int .u64 0, .int .u64 0, .int .u64 0, .int .u64 0] 26)).alloc (.cells #[.bool false] 4)).alloc (.cells #[.slice A l.length c] 38)) := by
  have hbl := ((((Below.refl w.heap.size w).alloc (Nat.le_refl _) (.cells #[.int .u64 0, .int .u64 0, .int .u64 0, .int .u64 0] 26)).alloc (by simp) (.cells #[.int .u64 0, .int .u64 0, .int .u64 0, .int .u64 0] 26)).alloc (by simp; omega) (.cells #[.bool false] 4)).alloc (by simp; omega) (.cells #[.slice A l.length c] 38)
  have hg : Blk ((((w.alloc (.cells #[.int .u64 0, .int .u64 0, .int .u64 0, .int .u64 0] 26)).alloc (.cells #[.int .u64 0, .int .u64 0, .int .u64 0, .int .u64 0] 26)).alloc (.cells #[.bool false] 4)).alloc (.cells #[.slice A l.length c] 38)) (w.heap.size + 1 + 1 + 1) 38 #[.slice A l.length c] := by
    have := Blk.new (((w.alloc (.cells #[.int .u64 0, .int .u64 0, .int .u64 0, .int .u64 0] 26)).alloc (.cells #[.int .u64 0, .int .u64 0, .int .u64 0, .int .u64 0] 26)).alloc (.cells #[.bool false] 4)) 38 #[.slice A l.length c]
    simpa using this
  refine ⟨fun hne => ⟨.slice A l.length c, hg, hu.below hbl, ?_⟩, hg, hu.below hbl, ?_, ?_, ?_, hbl, by simp; omega⟩
  · intro A' n' c' e
    obtain ⟨A2, c2, e2, -, hr⟩ := hu
    injection e with e1 e3 e4
    injection e2 with e5 e6 e7
    subst e5 e1
    obtain ⟨ad, e8, hbl', -⟩ := hr.2 (List.length_pos_iff.2 hne)
    injection e8 with e8
    subst e8
    exact ⟨by omega, hbl'⟩
  · exact (((Blk.new w _ _).alloc _).alloc _).alloc _
  · have := (((Blk.new (w.alloc (.cells #[.int .u64 0, .int .u64 0, .int .u64 0, .int .u64 0] 26)) 26 #[.int .u64 0, .int .u64 0, .int .u64 0, .int .u64 0]).alloc (.cells #[.bool false] 4)).alloc (.cells #[.slice A l.length c] 38))
    simpa using this
  · have := (((Blk.new ((w.alloc (.cells #[.int .u64 0, .int .u64 0, .int .u64 0, .int .u64 0] 26)).alloc (.cells #[.int .u64 0, .int .u64 0, .int .u64 0, .int .u64 0] 26)) 4 #[.bool false]).alloc (.cells #[.slice A l.length c] 38)))
    simpa using this

theorem kept_one {w w4 : World} {a0 a1 a2 a3 b0 b1 b2 b3 : Int} (k : Kept w w4) :
    Blk ((((((((w4.setCell ⟨w.heap.size, 0, none⟩ (.int .u64 a0)).setCell ⟨w.heap.size, 1, none⟩ (.int .u64 a1)).setCell ⟨w.heap.size, 2, none⟩ (.int .u64 a2)).setCell ⟨w.heap.size, 3, none⟩ (.int .u64 a3)).setCell ⟨w.heap.size + 1, 0, none⟩ (.int .u64 b0)).setCell ⟨w.heap.size + 1, 1, none⟩ (.int .u64 b1)).setCell ⟨w.heap.size + 1, 2, none⟩ (.int .u64 b2)).setCell ⟨w.heap.size + 1, 3, none⟩ (.int .u64 b3)) w.heap.size 26 #[.int .u64 a0, .int .u64 a1, .int .u64 a2, .int .u64 a3] ∧ Blk ((((((((w4.setCell ⟨w.heap.size, 0, none⟩ (.int .u64 a0)).setCell ⟨w.heap.size, 1, none⟩ (.int .u64 a1)).setCell ⟨w.heap.size, 2, none⟩ (.int .u64 a2)).setCell ⟨w.heap.size, 3, none⟩ (.int .u64 a3)).setCell ⟨w.heap.size + 1, 0, none⟩ (.int .u64 b0)).setCell ⟨w.heap.size + 1, 1, none⟩ (.int .u64 b1)).setCell ⟨w.heap.size + 1, 2, none⟩ (.int .u64 b2)).setCell ⟨w.heap.size + 1, 3, none⟩ (.int .u64 b3)) (w.heap.size + 1) 26 #[.int .u64 b0, .int .u64 b1, .int .u64 b2, .int .u64 b3] ∧ Blk ((((((((w4.setCell ⟨w.heap.size, 0, none⟩ (.int .u64 a0)).setCell ⟨w.heap.size, 1, none⟩ (.int .u64 a1)).setCell ⟨w.heap.size, 2, none⟩ (.int .u64 a2)).setCell ⟨w.heap.size, 3, none⟩ (.int .u64 a3)).setCell ⟨w.heap.size + 1, 0, none⟩ (.int .u64 b0)).setCell ⟨w.heap.size + 1, 1, none⟩ (.int .u64 b1)).setCell ⟨w.heap.size + 1, 2, none⟩ (.int .u64 b2)).setCell ⟨w.heap.size + 1, 3, none⟩ (.int .u64 b3)) (w.heap.size + 1 + 1) 4 #[.bool false] ∧ Below w.heap.size w ((((((((w4.setCell ⟨w.heap.size, 0, none⟩ (.int .u64 a0)).setCell ⟨w.heap.size, 1, none⟩ (.int .u64 a1)).setCell ⟨w.heap.size, 2, none⟩ (.int .u64 a2)).setCell ⟨w.heap.size, 3, none⟩ (.int .u64 a3)).setCell ⟨w.heap.size + 1, 0, none⟩ (.int .u64 b0)).setCell ⟨w.heap.size + 1, 1, none⟩ (.int .u64 b1)).setCell ⟨w.heap.size + 1, 2, none⟩ (.int .u64 b2)).setCell ⟨w.heap.size + 1, 3, none⟩ (.int .u64 b3)) := by
  have hK := Lib.hid k
  have n1 : w.heap.size ≠ w.heap.size + 1 := by omega
  have n2 : w.heap.size + 1 ≠ w.heap.size := by omega
  have n3 : w.heap.size + 1 + 1 ≠ w.heap.size := by omega
  have n4 : w.heap.size + 1 + 1 ≠ w.heap.size + 1 := by omega
  have ZA : Blk _ w.heap.size 26 #[.int .u64 a0, .int .u64 a1, .int .u64 a2, .int .u64 a3] := ((((((((hK.out.1).set_ 0 (.int .u64 a0)).set_ 1 (.int .u64 a1)).set_ 2 (.int .u64 a2)).set_ 3 (.int .u64 a3)).far (p := ⟨w.heap.size + 1, 0, none⟩) n1 (.int .u64 b0)).far (p := ⟨w.heap.size + 1, 1, none⟩) n1 (.int .u64 b1)).far (p := ⟨w.heap.size + 1, 2, none⟩) n1 (.int .u64 b2)).far (p := ⟨w.heap.size + 1, 3, none⟩) n1 (.int .u64 b3)
  have ZB : Blk _ (w.heap.size + 1) 26 #[.int .u64 b0, .int .u64 b1, .int .u64 b2, .int .u64 b3] := ((((((((hK.out.2.1).far (p := ⟨w.heap.size, 0, none⟩) n2 (.int .u64 a0)).far (p := ⟨w.heap.size, 1, none⟩) n2 (.int .u64 a1)).far (p := ⟨w.heap.size, 2, none⟩) n2 (.int .u64 a2)).far (p := ⟨w.heap.size, 3, none⟩) n2 (.int .u64 a3)).set_ 0 (.int .u64 b0)).set_ 1 (.int .u64 b1)).set_ 2 (.int .u64 b2)).set_ 3 (.int .u64 b3)
  have ZD := ((((((((hK.out.2.2.1).far (p := ⟨w.heap.size, 0, none⟩) n3 (.int .u64 a0)).far (p := ⟨w.heap.size, 1, none⟩) n3 (.int .u64 a1)).far (p := ⟨w.heap.size, 2, none⟩) n3 (.int .u64 a2)).far (p := ⟨w.heap.size, 3, none⟩) n3 (.int .u64 a3)).far (p := ⟨w.heap.size + 1, 0, none⟩) n4 (.int .u64 b0)).far (p := ⟨w.heap.size + 1, 1, none⟩) n4 (.int .u64 b1)).far (p := ⟨w.heap.size + 1, 2, none⟩) n4 (.int .u64 b2)).far (p := ⟨w.heap.size + 1, 3, none⟩) n4 (.int .u64 b3)
  have ZL := ((((((((hK.out.2.2.2.1).setCell (p := ⟨w.heap.size, 0, none⟩) (Nat.le_refl _) (.int .u64 a0)).setCell (p := ⟨w.heap.size, 1, none⟩) (Nat.le_refl _) (.int .u64 a1)).setCell (p := ⟨w.heap.size, 2, none⟩) (Nat.le_refl _) (.int .u64 a2)).setCell (p := ⟨w.heap.size, 3, none⟩) (Nat.le_refl _) (.int .u64 a3)).setCell (p := ⟨w.heap.size + 1, 0, none⟩) (Nat.le_succ _) (.int .u64 b0)).setCell (p := ⟨w.heap.size + 1, 1, none⟩) (Nat.le_succ _) (.int .u64 b1)).setCell (p := ⟨w.heap.size + 1, 2, none⟩) (Nat.le_succ _) (.int .u64 b2)).setCell (p := ⟨w.heap.size + 1, 3, none⟩) (Nat.le_succ _) (.int .u64 b3)
  exact ⟨ZA, ZB, ZD, ZL⟩

theorem kept_two {w w4 : World} {a0 a1 a2 a3 b0 b1 b2 b3 : Int} (k : Kept w w4) :
    Blk (((((((((((((((((w4.setCell ⟨w.heap.size, 0, none⟩ (.int .u64 a0)).setCell ⟨w.heap.size, 1, none⟩ (.int .u64 a1)).setCell ⟨w.heap.size, 2, none⟩ (.int .u64 a2)).setCell ⟨w.heap.size, 3, none⟩ (.int .u64 a3)).setCell ⟨w.heap.size + 1, 0, none⟩ (.int .u64 b0)).setCell ⟨w.heap.size + 1, 1, none⟩ (.int .u64 b1)).setCell ⟨w.heap.size + 1, 2, none⟩ (.int .u64 b2)).setCell ⟨w.heap.size + 1, 3, none⟩ (.int .u64 b3)).setCell ⟨w.heap.size, 0, none⟩ (.int .u64 a0)).setCell ⟨w.heap.size, 1, none⟩ (.int .u64 a1)).setCell ⟨w.heap.size, 2, none⟩ (.int .u64 a2)).setCell ⟨w.heap.size, 3, none⟩ (.int .u64 a3)).setCell ⟨w.heap.size + 1, 0, none⟩ (.int .u64 b0)).setCell ⟨w.heap.size + 1, 1, none⟩ (.int .u64 b1)).setCell ⟨w.heap.size + 1, 2, none⟩ (.int .u64 b2)).setCell ⟨w.heap.size + 1, 3, none⟩ (.int .u64 b3)).setCell ⟨w.heap.size + 1 + 1, 0, none⟩ (.bool true)) w.heap.size 26 #[.int .u64 a0, .int .u64 a1, .int .u64 a2, .int .u64 a3] ∧ Blk (((((((((((((((((w4.setCell ⟨w.heap.size, 0, none⟩ (.int .u64 a0)).setCell ⟨w.heap.size, 1, none⟩ (.int .u64 a1)).setCell ⟨w.heap.size, 2, none⟩ (.int .u64 a2)).setCell ⟨w.heap.size, 3, none⟩ (.int .u64 a3)).setCell ⟨w.heap.size + 1, 0, none⟩ (.int .u64 b0)).setCell ⟨w.heap.size + 1, 1, none⟩ (.int .u64 b1)).setCell ⟨w.heap.size + 1, 2, none⟩ (.int .u64 b2)).setCell ⟨w.heap.size + 1, 3, none⟩ (.int .u64 b3)).setCell ⟨w.heap.size, 0, none⟩ (.int .u64 a0)).setCell ⟨w.heap.size, 1, none⟩ (.int .u64 a1)).setCell ⟨w.heap.size, 2, none⟩ (.int .u64 a2)).setCell ⟨w.heap.size, 3, none⟩ (.int .u64 a3)).setCell ⟨w.heap.size + 1, 0, none⟩ (.int .u64 b0)).setCell ⟨w.heap.size + 1, 1, none⟩ (.int .u64 b1)).setCell ⟨w.heap.size + 1, 2, none⟩ (.int .u64 b2)).setCell ⟨w.heap.size + 1, 3, none⟩ (.int .u64 b3)).setCell ⟨w.heap.size + 1 + 1, 0, none⟩ (.bool true)) (w.heap.size + 1) 26 #[.int .u64 b0, .int .u64 b1, .int .u64 b2, .int .u64 b3] ∧ Blk (((((((((((((((((w4.setCell ⟨w.heap.size, 0, none⟩ (.int .u64 a0)).setCell ⟨w.heap.size, 1, none⟩ (.int .u64 a1)).setCell ⟨w.heap.size, 2, none⟩ (.int .u64 a2)).setCell ⟨w.heap.size, 3, none⟩ (.int .u64 a3)).setCell ⟨w.heap.size + 1, 0, none⟩ (.int .u64 b0)).setCell ⟨w.heap.size + 1, 1, none⟩ (.int .u64 b1)).setCell ⟨w.heap.size + 1, 2, none⟩ (.int .u64 b2)).setCell ⟨w.heap.size + 1, 3, none⟩ (.int .u64 b3)).setCell ⟨w.heap.size, 0, none⟩ (.int .u64 a0)).setCell ⟨w.heap.size, 1, none⟩ (.int .u64 a1)).setCell ⟨w.heap.size, 2, none⟩ (.int .u64 a2)).setCell ⟨w.heap.size, 3, none⟩ (.int .u64 a3)).setCell ⟨w.heap.size + 1, 0, none⟩ (.int .u64 b0)).setCell ⟨w.heap.size + 1, 1, none⟩ (.int .u64 b1)).setCell ⟨w.heap.size + 1, 2, none⟩ (.int .u64 b2)).setCell ⟨w.heap.size + 1, 3, none⟩ (.int .u64 b3)).setCell ⟨w.heap.size + 1 + 1, 0, none⟩ (.bool true)) (w.heap.size + 1 + 1) 4 #[.bool true] ∧ Below w.heap.size w (((((((((((((((((w4.setCell ⟨w.heap.size, 0, none⟩ (.int .u64 a0)).setCell ⟨w.heap.size, 1, none⟩ (.int .u64 a1)).setCell ⟨w.heap.size, 2, none⟩ (.int .u64 a2)).setCell ⟨w.heap.size, 3, none⟩ (.int .u64 a3)).setCell ⟨w.heap.size + 1, 0, none⟩ (.int .u64 b0)).setCell ⟨w.heap.size + 1, 1, none⟩ (.int .u64 b1)).setCell ⟨w.heap.size + 1, 2, none⟩ (.int .u64 b2)).setCell ⟨w.heap.size + 1, 3, none⟩ (.int .u64 b3)).setCell ⟨w.heap.size, 0, none⟩ (.int .u64 a0)).setCell ⟨w.heap.size, 1, none⟩ (.int .u64 a1)).setCell ⟨w.heap.size, 2, none⟩ (.int .u64 a2)).setCell ⟨w.heap.size, 3, none⟩ (.int .u64 a3)).setCell ⟨w.heap.size + 1, 0, none⟩ (.int .u64 b0)).setCell ⟨w.heap.size + 1, 1, none⟩ (.int .u64 b1)).setCell ⟨w.heap.size + 1, 2, none⟩ (.int .u64 b2)).setCell ⟨w.heap.size + 1, 3, none⟩ (.int .u64 b3)).setCell ⟨w.heap.size + 1 + 1, 0, none⟩ (.bool true)) := by
  obtain ⟨ZA, ZB, ZD, ZL⟩ := kept_one (a0 := a0) (a1 := a1) (a2 := a2) (a3 := a3) (b0 := b0) (b1 := b1) (b2 := b2) (b3 := b3) k
  have n1 : w.heap.size ≠ w.heap.size + 1 := by omega
  have n2 : w.heap.size + 1 ≠ w.heap.size := by omega
  have n3 : w.heap.size + 1 + 1 ≠ w.heap.size := by omega
  have n4 : w.heap.size + 1 + 1 ≠ w.heap.size + 1 := by omega
  have YA : Blk _ w.heap.size 26 #[.int .u64 a0, .int .u64 a1, .int .u64 a2, .int .u64 a3] := (((((((((ZA).set_ 0 (.int .u64 a0)).set_ 1 (.int .u64 a1)).set_ 2 (.int .u64 a2)).set_ 3 (.int .u64 a3)).far (p := ⟨w.heap.size + 1, 0, none⟩) n1 (.int .u64 b0)).far (p := ⟨w.heap.size + 1, 1, none⟩) n1 (.int .u64 b1)).far (p := ⟨w.heap.size + 1, 2, none⟩) n1 (.int .u64 b2)).far (p := ⟨w.heap.size + 1, 3, none⟩) n1 (.int .u64 b3)).far (p := ⟨w.heap.size + 1 + 1, 0, none⟩) n3.symm (.bool true)
  have YB : Blk _ (w.heap.size + 1) 26 #[.int .u64 b0, .int .u64 b1, .int .u64 b2, .int .u64 b3] := (((((((((ZB).far (p := ⟨w.heap.size, 0, none⟩) n2 (.int .u64 a0)).far (p := ⟨w.heap.size, 1, none⟩) n2 (.int .u64 a1)).far (p := ⟨w.heap.size, 2, none⟩) n2 (.int .u64 a2)).far (p := ⟨w.heap.size, 3, none⟩) n2 (.int .u64 a3)).set_ 0 (.int .u64 b0)).set_ 1 (.int .u64 b1)).set_ 2 (.int .u64 b2)).set_ 3 (.int .u64 b3)).far (p := ⟨w.heap.size + 1 + 1, 0, none⟩) n4.symm (.bool true)
  have YD : Blk _ (w.heap.size + 1 + 1) 4 #[.bool true] := (((((((((ZD).far (p := ⟨w.heap.size, 0, none⟩) n3 (.int .u64 a0)).far (p := ⟨w.heap.size, 1, none⟩) n3 (.int .u64 a1)).far (p := ⟨w.heap.size, 2, none⟩) n3 (.int .u64 a2)).far (p := ⟨w.heap.size, 3, none⟩) n3 (.int .u64 a3)).far (p := ⟨w.heap.size + 1, 0, none⟩) n4 (.int .u64 b0)).far (p := ⟨w.heap.size + 1, 1, none⟩) n4 (.int .u64 b1)).far (p := ⟨w.heap.size + 1, 2, none⟩) n4 (.int .u64 b2)).far (p := ⟨w.heap.size + 1, 3, none⟩) n4 (.int .u64 b3)).set_ 0 (.bool true)
  have YL := (((((((((ZL).setCell (p := ⟨w.heap.size, 0, none⟩) (Nat.le_refl _) (.int .u64 a0)).setCell (p := ⟨w.heap.size, 1, none⟩) (Nat.le_refl _) (.int .u64 a1)).setCell (p := ⟨w.heap.size, 2, none⟩) (Nat.le_refl _) (.int .u64 a2)).setCell (p := ⟨w.heap.size, 3, none⟩) (Nat.le_refl _) (.int .u64 a3)).setCell (p := ⟨w.heap.size + 1, 0, none⟩) (Nat.le_succ _) (.int .u64 b0)).setCell (p := ⟨w.heap.size + 1, 1, none⟩) (Nat.le_succ _) (.int .u64 b1)).setCell (p := ⟨w.heap.size + 1, 2, none⟩) (Nat.le_succ _) (.int .u64 b2)).setCell (p := ⟨w.heap.size + 1, 3, none⟩) (Nat.le_succ _) (.int .u64 b3)).setCell (p := ⟨w.heap.size + 1 + 1, 0, none⟩) (by simp; omega) (.bool true)
  exact ⟨YA, YB, YD, YL⟩

set_option maxRecDepth 100000 in
set_option maxHeartbeats 4000000 in
theorem decode_any (u : Value) (l : List Int) (w : World) (hu : RI w .u8 u l) (hlen : l.length ≤ 1000000) (hby : ∀ x ∈ l, 0 ≤ x ∧ x < 256) :
    Calls Try.prog 7 #[u] w (RetD w (decB l)) := by
  have hmf : ∀ (fn : Fn) (first cap : Array Value) (w : World), (Instr.makeFunc fn first cap).run Try.prog w = .ok (.func fn first cap) w := fun _ _ _ _ => rfl
  obtain ⟨A, c, rfl, hc, hr⟩ := hu
  obtain ⟨h0, hg0, hr0, hk⟩ := dec_start w A l c ⟨A, c, rfl, hc, hr⟩
  obtain ⟨W0, hW0⟩ : ∃ W0, W0 = ((((w.alloc (.cells #[.int .u64 0, .int .u64 0, .int .u64 0, .int .u64 0] 26)).alloc (.cells #[.int .u64 0, .int .u64 0, .int .u64 0, .int .u64 0] 26)).alloc (.cells #[.bool false] 4)).alloc (.cells #[.slice A l.length c] 38)) := ⟨_, rfl⟩
  rw [← hW0] at h0 hg0 hr0 hk
  obtain ⟨N, hN⟩ : ∃ N, N = l.length := ⟨_, rfl⟩
  rw [← hN] at hW0 hg0 hr0 ⊢
  clear hN hc hr
  obtain ⟨D, hD⟩ : ∃ D, D = decB l := ⟨_, rfl⟩
  rw [← hD]
  have HD := Lib.hid hD; clear hD
  go_enter_defers Try.func7, Try.ntmps7
  by_cases hh : l.head? = some 48
  · obtain ⟨t, rfl⟩ : ∃ t, l = 48 :: t := by
      rcases l with _ | ⟨x, t⟩
      · simp at hh
      · simp at hh; subst hh; exact ⟨t, rfl⟩
    have h0 := h0 (by simp)
    clear hg0 hr0
    go_wp2_with fail
    rw [← hW0]
    have ht : t.length ≤ 1000000 := by simp at hlen; omega
    have hwB : w.heap.size ≤ W0.heap.size := hk.2.2.2.2
    refine (must_yes _ _ 48 t _ h0 (by omega)).mono ?_
    rintro e w1 ⟨rfl, h1, hb⟩
    have k1 := hk.but hb
    go_wp2_with fail
    rcases t with _ | ⟨n, r⟩
    · refine (byte_no _ _ w1 h1).mono ?_
      rintro e w2 ⟨rfl, hb2⟩
      obtain rfl : D = none := HD.out
      go_wp2_with fail
      have k := k1.but hb2
      exact dec_fail rfl rfl rfl rfl k.1 k.2.1 k.2.2.1 k.2.2.2.1
    · have hr : r.length ≤ 1000000 := by simp at ht; omega
      have hn := hby n (by simp)
      have hby' : ∀ x ∈ r, 0 ≤ x ∧ x < 256 := fun x hx => hby x (by simp [hx])
      refine (byte_yes _ _ n r w1 h1 (by omega)).mono ?_
      rintro e w2 ⟨rfl, h2, hb2⟩
      have k2 := k1.but hb2
      have h2' := h2
      obtain ⟨v, hblk, ⟨A', c', rfl, hc', -⟩, -⟩ := h2'
      have q1 := hblk.cell 0
      simp at q1
      clear hblk
      by_cases hnl : n = r.length
      · have hne : (n != (r.length : Int)) = false := by simpa using hnl
        go_wp2_with fail
        refine (rd_integer _ _ r w2 k2.2.2.2.2 h2 hr hby').mono ?_
        have e1 : decB (48 :: n :: r) = (rdI r).bind fun (a, r1) => (rdI r1).bind fun (b, r2) => if r2 = [] then some (a, b) else none := by rw [decB_cons, if_pos ⟨rfl, hnl⟩]
        have E1 := Lib.hid (HD.out.trans e1); clear e1
        cases hI : rdI r with
        | none =>
          rintro e w3 ⟨rfl, hb3⟩
          have k3 := k2.but hb3
          obtain rfl : D = none := by rw [E1.out, hI]; rfl
          go_wp2_with fail
          exact dec_fail rfl rfl rfl rfl k3.1 k3.2.1 k3.2.2.1 k3.2.2.2.1
        | some p =>
          obtain ⟨a, r1⟩ := p
          obtain ⟨hr1, hm1, a0, a1, a2, a3, rfl⟩ := rdI_some hI
          rintro e w3 ⟨rfl, h3, hb3⟩
          have k3 := k2.but hb3
          go_wp2_with fail
          refine (rd_integer _ _ r1 w3 k3.2.2.2.2 h3 (by omega) (fun x hx => hby' x (hm1 x hx))).mono ?_
          cases hJ : rdI r1 with
          | none =>
            rintro e w4 ⟨rfl, hb4⟩
            have k4 := k3.but hb4
            obtain rfl : D = none := by rw [E1.out, hI, Option.bind_some]; simp only [hJ]; rfl
            go_wp2_with fail
            exact dec_fail rfl rfl rfl rfl k4.1 k4.2.1 k4.2.2.1 k4.2.2.2.1
          | some p =>
            obtain ⟨b, r2⟩ := p
            obtain ⟨hr2, hm2, b0, b1, b2, b3, rfl⟩ := rdI_some hJ
            rintro e w4 ⟨rfl, h4, hb4⟩
            have k4 := k3.but hb4
            obtain ⟨v, hblk, ⟨A', c', rfl, hc', -⟩, -⟩ := h4
            have E2 : D = if r2 = [] then some ([a0, a1, a2, a3], [b0, b1, b2, b3]) else none := by rw [E1.out, hI, Option.bind_some]; simp only [hJ]; rfl
            simp only [List.map_cons, List.map_nil]
            have s1 := hblk.cell 0
            simp at s1
            have f0 := k4.1.cell
            have f1 := k4.1.frozen
            have f2 := k4.2.1.cell
            have f3 := k4.2.1.frozen
            have f4 := k4.2.2.1.cell
            have f5 := k4.2.2.1.frozen
            have hK := Lib.hid k4; clear k4
            have G1 := Lib.hid (kept_one (a0 := a0) (a1 := a1) (a2 := a2) (a3 := a3) (b0 := b0) (b1 := b1) (b2 := b2) (b3 := b3) hK.out)
            have G2 := Lib.hid (kept_two (a0 := a0) (a1 := a1) (a2 := a2) (a3 := a3) (b0 := b0) (b1 := b1) (b2 := b2) (b3 := b3) hK.out)
            clear hk k1 k2 k3 hb hb2 hb3 hb4 h0 h1 h2 h3 q1 hI hJ hby hby' hm1 hm2
            by_cases hz : r2 = []
            · subst hz
              rw [if_pos rfl] at E2
              subst E2
              go_wp2
              go_region
              go_wp2
              exact dec_ok rfl rfl rfl rfl G2.out.1.drew G2.out.2.1.drew G2.out.2.2.1.drew G2.out.2.2.2.drew
            · have hpos : decide ((0 : Int) < r2.length) = true := by have := List.length_pos_iff.2 hz; simp; omega
              rw [if_neg hz] at E2
              subst E2
              have hp1 : (0 : Int) < r2.length := by have := List.length_pos_iff.2 hz; omega
              have hp2 : 0 < r2.length := List.length_pos_iff.2 hz
              go_wp2
              exact dec_fail rfl rfl rfl rfl G1.out.1 G1.out.2.1 G1.out.2.2.1 G1.out.2.2.2
      · have hne : (n != (r.length : Int)) = true := by simpa using hnl
        have e : decB (48 :: n :: r) = none := by rw [decB_cons, if_neg]; exact fun h => hnl h.2
        obtain rfl : D = none := HD.out.trans e
        go_wp2_with fail
        exact dec_fail rfl rfl rfl rfl k2.1 k2.2.1 k2.2.2.1 k2.2.2.2.1
  · have e : decB l = none := by
      rcases l with _ | ⟨x, _ | ⟨n, r⟩⟩
      · rfl
      · rfl
      · rw [decB_cons, if_neg]; rintro ⟨rfl, -⟩; exact hh rfl
    obtain rfl : D = none := HD.out.trans e
    go_wp2_with fail
    rw [← hW0]
    refine (show Calls _ _ _ _ (RdNo _ _) by
      rcases l with _ | ⟨x, r⟩
      · exact must_nil _ _ 48 _ hg0 hr0
      · exact must_no _ _ 48 _ _ (h0 (by simp)) (by omega) hh).mono ?_
    rintro e w1 ⟨rfl, hb⟩
    go_wp2_with fail
    have k := hk.but hb
    exact dec_fail rfl rfl rfl rfl k.1 k.2.1 k.2.2.1 k.2.2.2.1
end Go.Proofs.Yteicdkknciljhaa
