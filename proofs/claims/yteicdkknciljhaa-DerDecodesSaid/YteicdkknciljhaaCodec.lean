/- Contracts of the codec, and of what it calls. -/
import Derived.Test.YteicdkknciljhaaSeat
import Derived.Test.YteicdkknciljhaaSpec
namespace Go.Proofs.Yteicdkknciljhaa
open Go.RowKit Go.Chr

/-- returns new bytes -/
def RetB (w : World) (l : List Int) (e : Ending) (w' : World) : Prop := ∃ v, e = .returned v ∧ OI w' w.heap.size 5 .u8 v l ∧ Below w.heap.size w w'

/-- turns bytes of the call's own round, in place -/
def RevB (w : World) (B : Nat) (v : Value) (l : List Int) (e : Ending) (w' : World) : Prop := e = .returned (.tuple #[]) ∧ OI w' B 5 .u8 v l.reverse ∧ w.grownBy w' v.ownBlock

theorem take_succ_set {l m : List Int} {k : Nat} {x : Int} (h : l.take k = m.take k) (hl : l.length = m.length) (hk : k < m.length) (hx : m.getD k 0 = x) : (l.set k x).take (k + 1) = m.take (k + 1) := by
  apply List.ext_getElem
  · simp [hl]
  · intro i h1 h2
    simp only [List.length_take, List.length_set] at h1
    simp only [List.getElem_take, List.getElem_set]
    split
    · subst_vars; simp [List.getD, List.getElem?_eq_getElem hk]
    · have : (l.take k)[i]'(by simp; omega) = (m.take k)[i]'(by simp; omega) := by simp only [h]
      simpa using this

set_option maxHeartbeats 400000 in
theorem putLittle_any (a0 a1 a2 a3 : Int) (w : World) :
    Calls Try.prog 30 #[.agg #[.int .u64 a0, .int .u64 a1, .int .u64 a2, .int .u64 a3]] w (RetB w (leB [a0, a1, a2, a3])) := by
  have hmk : ∀ w, (Instr.makeSlice 22 (.int .i64 32) (.int .i64 32)).run Try.prog w = .ok (.slice (some ⟨w.heap.size, 0, none⟩) 32 32) (w.alloc (.cells (Array.replicate 32 (.int .u8 0)) 5)) := fun _ => by kernel_rfl
  go_enter Try.func30, Try.ntmps30
  go_wp2
  go_loopw [8] (fun i wr => ∃ (k : Nat) (l : List Int), k ≤ 32 ∧ l.length = 32 ∧ i = .int .i64 k ∧
      IB wr w.heap.size 26 .u64 [a0, a1, a2, a3] ∧ IB wr (w.heap.size + 1) 5 .u8 l ∧ l.take k = (leB [a0, a1, a2, a3]).take k ∧ Below w.heap.size w wr) (fun i _ => 32 - (intOf i).toNat)
  case atStart =>
    refine ⟨0, List.replicate 32 0, by omega, by simp, rfl, ?_, ?_, by simp, ?_⟩
    · exact (IB.new w 26 .u64 [a0, a1, a2, a3]).alloc _
    · have := IB.zeros (w.alloc (.cells #[.int .u64 a0, .int .u64 a1, .int .u64 a2, .int .u64 a3] 26)) 5 .u8 32
      simpa using this
    · exact ((Below.refl _ _).alloc (Nat.le_refl _) _).alloc (by simp) _
  case round =>
    obtain ⟨k, l, hk, hl, rfl, hb0, hb1, ht, hB⟩ := hrel
    by_cases hlt : k < 32
    · have q1 := hb0.cell (i := k / 8) (by simp; omega)
      have q2 := hb1.cell (i := k) (by omega)
      have q3 := hb1.frozen k
      obtain ⟨x, hx⟩ : ∃ x, x = [a0, a1, a2, a3].getD (k / 8) 0 := ⟨_, rfl⟩
      rw [← hx] at q1
      have HX := Lib.hid hx; clear hx
      have HT := Lib.hid ht; clear ht
      have H0 := Lib.hid hb0; clear hb0
      have H1 := Lib.hid hb1; clear hb1
      have HL := Lib.hid hl; clear hl
      go_wp2
      go_roundw
      case rel =>
        have hl := HL.out
        refine ⟨k + 1, l.set k (x / 2 ^ (8 * (k % 8)) % 256), by omega, by simp [hl], by go_num, H0.out.far (by simp) _, H1.out.set k _, ?_, hB.setCell (by simp) _⟩
        refine take_succ_set HT.out (by rw [hl, leB_length]) (by rw [leB_length]; omega) ?_
        rw [HX.out]
        simp [leB, List.getD, hlt]
      case measure => simp [intOf]; omega
    · have hk32 : k = 32 := by omega
      have hfin : l = leB [a0, a1, a2, a3] := by
        subst hk32
        rw [List.take_of_length_le (by omega), List.take_of_length_le (by rw [leB_length]; omega)] at ht; exact ht
      have HX := Lib.hid hfin; clear hfin ht hk32
      have H0 := Lib.hid hb0; clear hb0
      have H1 := Lib.hid hb1; clear hb1
      have HL := Lib.hid hl; clear hl
      go_wp2
      go_ret
      refine ⟨_, rfl, ?_, hB⟩
      have := OI.of_ib (B := w.heap.size) H1.out (by omega) (by rw [HL.out]; simp [maxLen])
      rw [HL.out, HX.out] at this; exact this

/-- the cells between two turned round -/
theorem rev_step {l m : List Int} {i j : Nat} (hl : l.length = m.length) (hij : i + j + 1 = m.length) (hlt : i < j)
    (hp : ∀ q, q < m.length → l.getD q 0 = if q < i ∨ j + 1 ≤ q then m.getD (m.length - 1 - q) 0 else m.getD q 0) :
    ∀ q, q < m.length → ((l.set i (l.getD j 0)).set j (l.getD i 0)).getD q 0 = if q < i + 1 ∨ j ≤ q then m.getD (m.length - 1 - q) 0 else m.getD q 0 := by
  intro q hq
  have h1 := hp i (by omega)
  have h2 := hp j (by omega)
  rw [if_neg (by omega)] at h1 h2
  rw [h1, h2]
  have hq' := hp q hq
  simp only [List.getD, List.getElem?_set, List.length_set] at *
  by_cases e1 : j = q
  · subst e1
    rw [if_pos rfl, if_pos (by omega), if_pos (by omega)]
    rw [show m.length - 1 - j = i by omega]; rfl
  · rw [if_neg e1]
    by_cases e2 : i = q
    · subst e2
      rw [if_pos rfl, if_pos (by omega), if_pos (by omega)]
      rw [show m.length - 1 - i = j by omega]; rfl
    · rw [if_neg e2, hq']
      by_cases e3 : q < i ∨ j + 1 ≤ q
      · rw [if_pos e3, if_pos (by omega)]
      · rw [if_neg e3, if_neg (by omega)]

theorem rev_done {l m : List Int} {i j : Nat} (hl : l.length = m.length) (hij : i + j = m.length) (hlt : j ≤ i + 1)
    (hp : ∀ q, q < m.length → l.getD q 0 = if q < i ∨ j ≤ q then m.getD (m.length - 1 - q) 0 else m.getD q 0) : l = m.reverse := by
  apply List.ext_getElem
  · simp [hl]
  · intro q h1 h2
    have := hp q (by omega)
    have hq : q < m.length := by omega
    have e : l.getD q 0 = m.getD (m.length - 1 - q) 0 := by
      rw [this]
      by_cases h : q < i ∨ j ≤ q
      · rw [if_pos h]
      · rw [if_neg h, show m.length - 1 - q = q by omega]
    simp only [List.getD, List.getElem?_eq_getElem h1, List.getElem?_eq_getElem (show m.length - 1 - q < m.length by omega), Option.getD_some] at e
    rw [e]; simp

set_option maxHeartbeats 1000000 in
theorem reverse_any (v : Value) (l : List Int) (B : Nat) (w : World) (hv : OI w B 5 .u8 v l) (hlen : l.length ≤ 140737488355328) :
    Calls Try.prog 24 #[v] w (RevB w B v l) := by
  rcases hv.open with ⟨rfl, rfl⟩ | ⟨g, cap, sp, rfl, hB, hc, hm, hs, hg⟩
  · go_enter Try.func24, Try.ntmps24
    go_wp2
    refine wp_loop_once ?_
    go_wp2
    go_end0
    exact ⟨rfl, hv, World.grownBy.refl w _⟩
  · clear hv
    go_enter Try.func24, Try.ntmps24
    go_wp2
    go_loopw [2, 3] (fun i j wr => ∃ (p q : Nat) (m : List Int), m.length = l.length ∧ p + q = l.length ∧ i = .int .i64 p ∧ j = .int .i64 (q - 1) ∧ p ≤ q + 1 ∧
      IS wr g 5 .u8 m sp ∧ (∀ z, z < l.length → m.getD z 0 = if z < p ∨ q ≤ z then l.getD (l.length - 1 - z) 0 else l.getD z 0) ∧ w.grownBy wr (some g)) (fun i j _ => (intOf j - intOf i + 1).toNat)
    case atStart =>
      refine ⟨0, l.length, l, rfl, by omega, rfl, rfl, by omega, hg, ?_, World.grownBy.refl w _⟩
      intro z hz; rw [if_neg (by omega)]
    case round =>
      obtain ⟨p, q, m, hml, hpq, rfl, rfl, hle, hb, hp, hB'⟩ := hrel
      by_cases hlt : (p : Int) < q - 1
      · obtain ⟨r, rfl⟩ : ∃ r, q = r + 1 := ⟨q - 1, by omega⟩
        have e : ((r + 1 : Nat) : Int) - 1 = r := by omega
        rw [e]; rw [e] at hlt; clear e
        have q1 := hb.cell (i := p) (by omega)
        have q2 := hb.cell (i := r) (by omega)
        have q3 := hb.frozen p
        have q4 := hb.frozen r
        have n1 : p < l.length := by omega
        have n2 : r < l.length := by omega
        have n3 : p ≠ r := by omega
        obtain ⟨x, hx⟩ : ∃ x, x = m.getD p 0 := ⟨_, rfl⟩
        obtain ⟨y, hy⟩ : ∃ y, y = m.getD r 0 := ⟨_, rfl⟩
        rw [← hx] at q1
        rw [← hy] at q2
        have HX := Lib.hid hx; clear hx
        have HY := Lib.hid hy; clear hy
        have HP := Lib.hid hp; clear hp
        have HM := Lib.hid hml; clear hml
        have HQ := Lib.hid hpq; clear hpq
        go_wp2
        go_region
        go_wp2
        go_roundw
        case rel =>
          have hx := HX.out; have hy := HY.out; have hp := HP.out; have hml := HM.out; have hpq := HQ.out
          refine ⟨p + 1, r, (m.set p y).set r x, by simp [hml], by omega, by go_num, rfl, by omega, ?_, ?_, ?_⟩
          · exact (hb.drew.set (by omega) y).set (by simp; omega) x
          · have := rev_step (l := m) (m := l) (i := p) (j := r) hml (by omega) (by omega) hp
            rw [hx, hy]; exact this
          · exact gb_set (gb_set (gb_drew hB') rfl _) rfl _
        case measure => simp [intOf]; omega
      · have hfin : m = l.reverse := rev_done (i := p) (j := q) hml (by omega) (by omega) hp
        have hlt' : ¬ ((p : Int) < (q : Int) - 1) := hlt
        have HF := Lib.hid hfin; clear hfin hp
        have HM := Lib.hid hml; clear hml
        have HQ := Lib.hid hpq; clear hpq
        go_wp2
        go_end0
        refine ⟨rfl, ?_, hB'⟩
        rw [← HF.out]
        have := OI.mk hb hB (by have := HM.out; omega) hm
        rw [HM.out] at this; exact this
set_option maxHeartbeats 400000 in
theorem putBig_any (a0 a1 a2 a3 : Int) (w : World) :
    Calls Try.prog 22 #[.agg #[.int .u64 a0, .int .u64 a1, .int .u64 a2, .int .u64 a3]] w (RetB w (leB [a0, a1, a2, a3]).reverse) := by
  go_enter Try.func22, Try.ntmps22
  go_wp2_with fail
  refine (putLittle_any a0 a1 a2 a3 _).mono ?_
  rintro e w1 ⟨v, rfl, hv, hb⟩
  go_wp2_with fail
  refine (reverse_any v _ _ w1 hv (by rw [leB_length]; omega)).mono ?_
  rintro e w2 ⟨rfl, hv2, hg⟩
  go_wp2
  go_ret
  simp at hv2 hv
  refine ⟨v, rfl, hv2.mono (by simp), ?_⟩
  refine (((Below.refl _ _).alloc (Nat.le_refl _) _).trans (hb.mono (by simp))).grown hg ?_ fun k hk => ?_
  · have := hb.size; simp at this; omega
  · have := (hv.lt k hk).1; omega

set_option maxHeartbeats 400000 in
theorem clone_any (u : Value) (l : List Int) (w : World) (hu : RI w .u8 u l) (hlen : l.length ≤ 140737488355328) :
    Calls Try.prog 23 #[u] w (RetB w l) := by
  have hu' := hu
  obtain ⟨A, c, rfl, hc, hr⟩ := hu
  have heq : ∀ w : World, (binOp .eql 22 (.slice A l.length c) (.slice none 0 0)).run Try.prog w = .ok (.bool A.isNone) w := fun w => Lib.run_eql_slice_nil (P := Try.prog) w 22 5 A l.length c 0 0 Try.underlying22
  have hbs : ∀ w, (Instr.buildSlice 22 0 #[]).run Try.prog w = .ok (.slice (some ⟨w.heap.size, 0, none⟩) 0 0) (w.alloc (.cells #[] 5)) := fun _ => by kernel_rfl
  rcases A with _ | ad
  · have : l = [] := by
      rcases l with _ | ⟨x, l⟩
      · rfl
      · obtain ⟨ad, h, _⟩ := hr.2 (by simp)
        cases h
    subst this
    simp only [Option.isNone_none, List.length_nil] at heq
    go_enter Try.func23, Try.ntmps23
    go_wp2
    go_ret
    exact ⟨_, rfl, OI.nil _ _ _ _, Below.refl _ _⟩
  · simp only [Option.isNone_some] at heq
    go_enter Try.func23, Try.ntmps23
    go_wp2_with (at_builtin; refine app_u8 (B := w.heap.size) rfl (.tmp 5) (.tmp 6) rfl _ _ [] l rfl rfl (OI.mk (sp := []) (Blk.new w 5 #[]) (Nat.le_refl _) rfl (by simp)) (hu'.below ((Below.refl _ _).alloc (Nat.le_refl _) _)) (by simpa using hlen) (by simp) ?_; intro v1 w1 hv hb _ _)
    go_ret
    exact ⟨v1, rfl, by simpa using hv, ((Below.refl _ _).alloc (Nat.le_refl _) _).trans hb⟩
theorem or_shift {z x : Int} {s : Nat} (hs : s ≤ 56) (hz0 : 0 ≤ z) (hz : z < 2 ^ s) (hx0 : 0 ≤ x) (hx : x < 256) :
    bits .or .u64 z (IntKind.u64.wrap (x * 2 ^ s)) = z + x * 2 ^ s := by
  obtain ⟨a, rfl⟩ := Int.eq_ofNat_of_zero_le hz0
  obtain ⟨b, rfl⟩ := Int.eq_ofNat_of_zero_le hx0
  have h2 : (2 : Int) ^ s = ((2 ^ s : Nat) : Int) := by simp
  rw [h2] at hz ⊢
  have ha : a < 2 ^ s := by omega
  have hp : 2 ^ s ≤ 2 ^ 56 := Nat.pow_le_pow_right (by decide) hs
  have hbm : b * 2 ^ s ≤ 255 * 2 ^ 56 := Nat.mul_le_mul (by omega) hp
  have e : ((b : Int) * ((2 ^ s : Nat) : Int)) = ((b * 2 ^ s : Nat) : Int) := by simp
  rw [e, IntKind.wrap_u64]
  have hw : ((b * 2 ^ s : Nat) : Int) % 18446744073709551616 = ((b * 2 ^ s : Nat) : Int) := by
    refine Int.emod_eq_of_lt (by omega) ?_
    have : (255 * 2 ^ 56 : Nat) < 18446744073709551616 := by decide
    omega
  rw [hw, bits_or_u64_nat a (b * 2 ^ s) (by have : (2 ^ 56 : Nat) < 18446744073709551616 := by decide
                                            omega) (by have : (255 * 2 ^ 56 : Nat) < 18446744073709551616 := by decide
                                                       omega)]
  have := Nat.two_pow_add_eq_or_of_lt ha b
  rw [Nat.mul_comm, Nat.or_comm] at this
  rw [← this]; simp [Int.add_comm]

theorem leTo_succ {l : List Int} {k : Nat} {x : Int} (hk : k < 32) (hx : l[k]? = some x) (hb : ∀ x ∈ l, 0 ≤ x ∧ x < 256) :
    (leTo l k).set (k / 8) (bits .or .u64 ((leTo l k).getD (k / 8) 0) (IntKind.u64.wrap (x * 2 ^ (8 * (k % 8))))) = leTo l (k + 1) := by
  have h0 := limbTo_bd hb k
  have hxx := hb x (List.mem_of_getElem? hx)
  have hgx : l.getD k 0 = x := by simp [List.getD, hx]
  have hp : (256 : Int) ^ (k % 8) = 2 ^ (8 * (k % 8)) := by rw [Int.pow_mul]; rfl
  have hs := limbTo_succ l k
  rw [hgx, hp] at hs
  rw [hp] at h0
  have hor := or_shift (z := limbTo l (k / 8) k) (s := 8 * (k % 8)) (by omega) h0.1 h0.2 hxx.1 hxx.2
  rw [← hs] at hor
  have hj : k / 8 = 0 ∨ k / 8 = 1 ∨ k / 8 = 2 ∨ k / 8 = 3 := by omega
  have n0 := @limbTo_succ_ne l 0 k
  have n1 := @limbTo_succ_ne l 1 k
  have n2 := @limbTo_succ_ne l 2 k
  have n3 := @limbTo_succ_ne l 3 k
  rcases hj with hj | hj | hj | hj <;> rw [hj] at hor n0 n1 n2 n3 ⊢ <;> simp [leTo, List.getD] at hor n0 n1 n2 n3 ⊢ <;> simp [hor, n0, n1, n2, n3]

/-- returns limbs and a bool -/
def RetN (w : World) (L : List Int) (ok : Bool) (e : Ending) (w' : World) : Prop := e = .returned (.tuple #[.agg (L.map (Value.int .u64)).toArray, .bool ok]) ∧ Below w.heap.size w w'

set_option maxHeartbeats 1000000 in
theorem little_any (u : Value) (l : List Int) (w : World) (hu : RI w .u8 u l) (hb : ∀ x ∈ l, 0 ≤ x ∧ x < 256) (hlen : l.length = 32) :
    Calls Try.prog 25 #[u] w (RetN w (leN l) true) := by
  have hu' := hu
  obtain ⟨A, c, rfl, hc, hr⟩ := hu
  have hn : ((l.length : Int) != 32) = false := by rw [hlen]; rfl
  have HL := Lib.hid hlen; clear hlen
  go_enter Try.func25, Try.ntmps25
  go_wp2
  go_loopw [13] (fun i wr => ∃ (k : Nat), k ≤ 32 ∧ i = .int .i64 k ∧ IB wr (w.heap.size + 1) 26 .u64 (leTo l k) ∧ Blk wr w.heap.size 26 #[.int .u64 0, .int .u64 0, .int .u64 0, .int .u64 0] ∧ Below w.heap.size w wr) (fun i _ => 32 - (intOf i).toNat)
  case atStart =>
    refine ⟨0, by omega, rfl, ?_, ?_, ?_⟩
    · have := IB.new (w.alloc (.cells #[.int .u64 0, .int .u64 0, .int .u64 0, .int .u64 0] 26)) 26 .u64 (leTo l 0)
      simpa [leTo, limbTo, lt8] using this
    · exact (Blk.new w 26 _).alloc _
    · exact ((Below.refl _ _).alloc (Nat.le_refl _) _).alloc (by simp) _
  case round =>
    obtain ⟨k, hk, rfl, hb1, hb0, hB⟩ := hrel
    by_cases hlt : k < 32
    · obtain ⟨ad, y, rfl, _, hx, hcell⟩ := (hr.below hB).at_ (k := k) (by rw [HL.out]; exact hlt)
      obtain ⟨x, rfl, hxl⟩ : ∃ x, y = .int .u8 x ∧ l[k]? = some x := by
        rw [List.getElem?_map] at hx
        cases h : l[k]? with
        | none => rw [h] at hx; simp at hx
        | some x => rw [h] at hx; simp at hx; exact ⟨x, hx.symm, rfl⟩
      have hx0 : 0 ≤ x ∧ x < 256 := hb x (List.mem_of_getElem? hxl)
      obtain ⟨hx1, hx2⟩ := hx0
      have hkl : (k : Int) < l.length := by rw [HL.out]; omega
      have q1 := hb1.cell (i := k / 8) (by simp [leTo]; omega)
      have q2 := hb1.frozen (k / 8)
      obtain ⟨z, hz⟩ : ∃ z, z = (leTo l k).getD (k / 8) 0 := ⟨_, rfl⟩
      rw [← hz] at q1
      have HZ := Lib.hid hz; clear hz
      have HX := Lib.hid hxl; clear hxl hx
      go_wp2
      go_region
      go_wp2
      go_roundw
      case rel =>
        refine ⟨k + 1, by omega, by go_num, (hb1.drew.set (k / 8) _).congr ?_, hb0.drew.far (by simp) _, hB.drew.setCell (by simp) _⟩
        rw [HZ.out]
        exact leTo_succ hlt HX.out hb
      case measure => simp [intOf]; omega
    · have hn2 : k = 32 := by omega
      have hlt' : ¬ ((k : Int) < l.length) := by rw [HL.out]; omega
      subst hn2
      have hb1' : Blk wr (w.heap.size + 1) 26 #[.int .u64 (limbTo l 0 32), .int .u64 (limbTo l 1 32), .int .u64 (limbTo l 2 32), .int .u64 (limbTo l 3 32)] := hb1
      have r1 := hb1'.cell
      have r2 := hb0.cell
      have r3 := hb0.frozen
      have r4 : (32 : Int) < l.length ↔ False := by rw [HL.out]; decide
      simp only [leN, leTo] at *
      have H0 := Lib.hid hb0; clear hb0
      clear hb1 hb1'
      go_wp2
      have hfin := (((H0.out.set_ 0 (.int .u64 (limbTo l 0 32))).set_ 1 (.int .u64 (limbTo l 1 32))).set_ 2 (.int .u64 (limbTo l 2 32))).set_ 3 (.int .u64 (limbTo l 3 32))
      refine bodyPost_ret (results_blk_tmp (d := .array 4 24) Try.results25 rfl hfin rfl Try.underlying26 (by kernel_rfl)) rfl ⟨rfl, ?_⟩
      exact (((hB.setCell (by simp) _).setCell (by simp) _).setCell (by simp) _).setCell (by simp) _
set_option maxHeartbeats 1000000 in
theorem big_any (u : Value) (l : List Int) (w : World) (hu : RI w .u8 u l) (hb : ∀ x ∈ l, 0 ≤ x ∧ x < 256) (hlen : l.length = 32) :
    Calls Try.prog 18 #[u] w (RetN w (leN l.reverse) true) := by
  have HL := Lib.hid hlen; clear hlen
  go_enter Try.func18, Try.ntmps18
  go_wp2_with fail
  refine (clone_any u l _ (hu.below ((Below.refl _ _).alloc (Nat.le_refl _) _)) (by rw [HL.out]; omega)).mono ?_
  rintro e w1 ⟨v, rfl, hv, hb1⟩
  go_wp2_with fail
  refine (reverse_any v _ _ w1 hv (by rw [HL.out]; omega)).mono ?_
  rintro e w2 ⟨rfl, hv2, hg⟩
  have hb2 : Below (w.alloc (.cells #[.int .u64 0, .int .u64 0, .int .u64 0, .int .u64 0] 26)).heap.size (w.alloc (.cells #[.int .u64 0, .int .u64 0, .int .u64 0, .int .u64 0] 26)) w2 :=
    hb1.grown hg hb1.size fun k hk => (hv.lt k hk).1
  go_wp2_with fail
  refine (little_any v _ w2 hv2.ri (fun x hx => hb x (List.mem_reverse.1 hx)) (by simp [HL.out])).mono ?_
  rintro e w3 ⟨rfl, hb3⟩
  have hb4 := hb2.trans (hb3.mono hb2.size)
  have H0 := ((Blk.new w 26 #[.int .u64 0, .int .u64 0, .int .u64 0, .int .u64 0]).below hb4 (by simp))
  have r2 := H0.cell
  have r3 := H0.frozen
  have H := Lib.hid H0; clear H0
  obtain ⟨x0, x1, x2, x3, hL⟩ : ∃ x0 x1 x2 x3, leN l.reverse = [x0, x1, x2, x3] := ⟨_, _, _, _, rfl⟩
  simp only [hL, List.map_cons, List.map_nil]
  have HX := Lib.hid hL; clear hL
  go_wp2
  have hfin := (((H.out.set_ 0 (.int .u64 x0)).set_ 1 (.int .u64 x1)).set_ 2 (.int .u64 x2)).set_ 3 (.int .u64 x3)
  refine bodyPost_ret (results_blk_tmp (d := .array 4 24) Try.results18 rfl hfin rfl Try.underlying26 (by kernel_rfl)) rfl ⟨by rw [HX.out]; rfl, ?_⟩
  have hB := ((Below.refl w.heap.size w).alloc (Nat.le_refl _) (.cells #[.int .u64 0, .int .u64 0, .int .u64 0, .int .u64 0] 26)).trans (hb4.mono (by simp))
  exact (((hB.setCell (by simp) _).setCell (by simp) _).setCell (by simp) _).setCell (by simp) _
end Go.Proofs.Yteicdkknciljhaa
