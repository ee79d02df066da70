/- Contracts of the layer der: Decode. -/
import Derived.Test.YteicdkknciljhaaYes33
namespace Go.Proofs.Yteicdkknciljhaa
open Go.RowKit Go.Chr

open Classical in
/-- what the reader makes of an integer -/
noncomputable def rdI : List Int → Option (List Int × List Int)
  | x :: n :: r => if x = 2 ∧ 1 ≤ n ∧ n ≤ 33 ∧ n ≤ r.length ∧ ¬ badI (r.take n.toNat) then some (natB (r.take n.toNat), r.drop n.toNat) else none
  | _ => none

open Classical in
theorem rdI_cons (x n : Int) (r : List Int) : rdI (x :: n :: r) = if x = 2 ∧ 1 ≤ n ∧ n ≤ 33 ∧ n ≤ r.length ∧ ¬ badI (r.take n.toNat) then some (natB (r.take n.toNat), r.drop n.toNat) else none := rfl

def RdI (g B : Nat) (o : Option (List Int × List Int)) (w : World) (e : Ending) (w' : World) : Prop :=
  match o with
  | some (a, l) => RdYes g B (.agg (a.map (Value.int .u64)).toArray) l w e w'
  | none => RdNo g w e w'

theorem rd_integer (g B : Nat) (l : List Int) (w : World) (hB : B ≤ w.heap.size) (h : IsR w g B l) (hlen : l.length ≤ 1000000) (hby : ∀ x ∈ l, 0 ≤ x ∧ x < 256) :
    Calls Try.prog 14 #[.pointer (some ⟨g, 0, none⟩)] w (RdI g B (rdI l) w) := by
  rcases l with _ | ⟨x, _ | ⟨n, r⟩⟩
  · exact integer_no1 g B [] w h (by simp) (by simp)
  · by_cases hx : x = 2
    · subst hx; exact integer_no2 g B w h
    · exact integer_no1 g B [x] w h (by simp) (by simpa using hx)
  · by_cases hx : x = 2
    · subst hx
      have hn := hby n (by simp)
      have hr : r.length ≤ 1000000 := by simp at hlen; omega
      by_cases hbad : n < 1 ∨ 33 < n ∨ (r.length : Int) < n
      · have e : rdI (2 :: n :: r) = none := by rw [rdI_cons, if_neg]; omega
        rw [e]
        exact integer_no3 g B n r w h hn.1 hn.2 hr hbad
      · obtain ⟨m, rfl⟩ : ∃ m : Nat, n = m := ⟨n.toNat, by omega⟩
        by_cases hb : badI (r.take m)
        · have e : rdI (2 :: (m : Int) :: r) = none := by rw [rdI_cons, if_neg]; rw [Int.toNat_natCast]; exact fun k => k.2.2.2.2 hb
          rw [e]
          exact integer_no4 g B m r w h hr (by omega) (by omega) (by omega) hb
        · have e : rdI (2 :: (m : Int) :: r) = some (natB (r.take m), r.drop m) := by
            rw [rdI_cons, if_pos]
            · simp
            · rw [Int.toNat_natCast]; exact ⟨rfl, by omega, by omega, by omega, hb⟩
          rw [e]
          have hby' : ∀ x ∈ r, 0 ≤ x ∧ x < 256 := fun x hx => hby x (by simp [hx])
          by_cases h33 : m = 33
          · subst h33; exact integer_yes33 g B 33 r w hB h hr hby' rfl (by omega) hb
          · exact integer_yes32 g B m r w hB h hr hby' (by omega) (by omega) (by omega) hb
    · have e : rdI (x :: n :: r) = none := by rw [rdI_cons, if_neg]; exact fun k => hx k.1
      rw [e]
      exact integer_no1 g B _ w h (by simp at hlen ⊢; omega) (by simpa using hx)

abbrev zN : Value := .agg #[.int .u64 0, .int .u64 0, .int .u64 0, .int .u64 0]

set_option maxRecDepth 100000 in
set_option maxHeartbeats 1000000 in
theorem caught (a b d : Nat) (x0 x1 x2 x3 y0 y1 y2 y3 : Value) (t : Value) (older : List PanicEntry) (pv : Value) (u : TypeId) (w : World)
    (ha : Blk w a 26 #[x0, x1, x2, x3]) (hb : Blk w b 26 #[y0, y1, y2, y3]) (hd : Blk w d 4 #[t]) (hab : a ≠ b) (had : a ≠ d) (hbd : b ≠ d) :
    CallsD Try.prog 11 #[.pointer (some ⟨a, 0, none⟩), .pointer (some ⟨b, 0, none⟩), .pointer (some ⟨d, 0, none⟩)] (.panicking ({ v := .iface u pv, recovered := false } :: older)) w fun e u' w' =>
      e = .returned (.tuple #[]) ∧ u' = .panicking ({ v := .iface u pv, recovered := true } :: older) ∧
        Blk w' a 26 #[.int .u64 0, .int .u64 0, .int .u64 0, .int .u64 0] ∧ Blk w' b 26 #[.int .u64 0, .int .u64 0, .int .u64 0, .int .u64 0] ∧ Blk w' d 4 #[.bool false] ∧
        (∀ B, B ≤ a → B ≤ b → B ≤ d → Below B w w') := by
  have a0 := ha.cell 0
  have a1 := ha.cell 1
  have a2 := ha.cell 2
  have a3 := ha.cell 3
  have a4 := ha.frozen
  have b0 := hb.cell 0
  have b1 := hb.cell 1
  have b2 := hb.cell 2
  have b3 := hb.cell 3
  have b4 := hb.frozen
  have d0 := hd.cell 0
  have d4 := hd.frozen
  have hab' : b ≠ a := fun h => hab h.symm
  have had' : d ≠ a := fun h => had h.symm
  have hbd' : d ≠ b := fun h => hbd h.symm
  simp at a0 a1 a2 a3 b0 b1 b2 b3 d0
  have HA := Lib.hid ha
  have HB := Lib.hid hb
  have HD := Lib.hid hd
  clear ha hb hd
  refine callsD_of_wpS Try.func11 rfl fun c₀ cs hu => ?_
  apply wpS_seq
  apply wpS_region
  simp [wpOpsS, go_sem, recoverD, hu, Try.ntmps11, Exit.thenS]
  refine wpS_cond (t := true) (by simp [Act.eval, Array.replicate]) ?_
  simp only [if_true]
  apply wpS_region
  simp [wpOpsS, go_sem, *, bodyPostS, results, Try.results11]
  refine ⟨?_, ?_, ?_, ?_⟩
  · exact (((((((((HA.out).set_ 0 (.int .u64 0)).set_ 1 (.int .u64 0)).set_ 2 (.int .u64 0)).set_ 3 (.int .u64 0)).far (p := ⟨b, 0, none⟩) hab (.int .u64 0)).far (p := ⟨b, 1, none⟩) hab (.int .u64 0)).far (p := ⟨b, 2, none⟩) hab (.int .u64 0)).far (p := ⟨b, 3, none⟩) hab (.int .u64 0)).far (p := ⟨d, 0, none⟩) had (.bool false)
  · exact (((((((((HB.out).far (p := ⟨a, 0, none⟩) hab' (.int .u64 0)).far (p := ⟨a, 1, none⟩) hab' (.int .u64 0)).far (p := ⟨a, 2, none⟩) hab' (.int .u64 0)).far (p := ⟨a, 3, none⟩) hab' (.int .u64 0)).set_ 0 (.int .u64 0)).set_ 1 (.int .u64 0)).set_ 2 (.int .u64 0)).set_ 3 (.int .u64 0)).far (p := ⟨d, 0, none⟩) hbd (.bool false)
  · exact (((((((((HD.out).far (p := ⟨a, 0, none⟩) had' (.int .u64 0)).far (p := ⟨a, 1, none⟩) had' (.int .u64 0)).far (p := ⟨a, 2, none⟩) had' (.int .u64 0)).far (p := ⟨a, 3, none⟩) had' (.int .u64 0)).far (p := ⟨b, 0, none⟩) hbd' (.int .u64 0)).far (p := ⟨b, 1, none⟩) hbd' (.int .u64 0)).far (p := ⟨b, 2, none⟩) hbd' (.int .u64 0)).far (p := ⟨b, 3, none⟩) hbd' (.int .u64 0)).set_ 0 (.bool false)
  · intro B h1 h2 h3
    exact (((((((((Below.refl B w).setCell h1 _).setCell h1 _).setCell h1 _).setCell h1 _).setCell h2 _).setCell h2 _).setCell h2 _).setCell h2 _).setCell h3 _

theorem idle (a b d : Value) (w : World) :
    CallsD Try.prog 11 #[a, b, d] .returning w fun e u' w' => e = .returned (.tuple #[]) ∧ u' = .returning ∧ w' = w := by
  refine callsD_of_wpS Try.func11 rfl fun c₀ cs hu => ?_
  apply wpS_seq
  apply wpS_region
  simp [wpOpsS, go_sem, recoverD, hu, Try.ntmps11, Exit.thenS]
  refine wpS_cond (t := false) (by simp [Act.eval, Array.replicate]) ?_
  simp only [Bool.false_eq_true, if_false]
  refine wpS_of_wp (wp_skip ?_)
  cases c₀
  simp_all [bodyPostS, results, Try.results11]
end Go.Proofs.Yteicdkknciljhaa
