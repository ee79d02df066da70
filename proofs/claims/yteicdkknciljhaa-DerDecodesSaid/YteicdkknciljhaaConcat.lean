/- Contracts of slices.Grow (of nil) and slices.Concat at bytes. -/
import Derived.Test.YteicdkknciljhaaRef3
import Derived.Lib.AppendZerosOnto
namespace Go.Proofs.Yteicdkknciljhaa
open Go.RowKit Go.Chr

/-- append of a make onto nil -/
theorem app_zeros {w : World} {ops : Array Oper} {rest : List Oper} {o : Oper} {a : Act} {Q : Exit → Act → World → Prop} (hgd : o.guard = none) (s x : Operand)
    (ho : o.op = .call { callee := .builtin .append, args := #[s, x], argTypes := #[22, 3] })
    (n : Nat) (hs : a.eval s = .slice none 0 0) (hx : a.eval x = .int .i64 ((n : Int) + 1)) (hn : n + 1 ≤ 1000000000)
    (h : ∀ G, n + 1 ≤ G → G ≤ maxLen → wpList Try.prog ops Q rest (a.put o.dst (.slice (some ⟨w.heap.size, 0, none⟩) (n + 1) G)) (w.drew.alloc (.cells ((List.replicate G 0).map (Value.int .u8)).toArray 5))) :
    wpList Try.prog ops Q (o :: rest) a w := by
  obtain ⟨i0, hi0, hz0, hz1, hz2⟩ := info_parts info_u8
  have hrz : (Builtin.append_ #[22, 3] o.type #[.slice none 0 0, .int .i64 ((n : Int) + 1)]).run Try.prog w =
      .ok (.slice (some ⟨w.heap.size, 0, none⟩) (n + 1) (grownCap w (n + 1) 0 5)) (w.drew.alloc (.cells ((List.replicate (grownCap w (n + 1) 0 5) 0).map (Value.int .u8)).toArray 5)) := by
    have h := Lib.run_append_grow_zeros (P := Try.prog) w 22 3 o.type 5 i0 (.int .u8 0) .i64 .i64 Try.underlying22 Try.underlying3 hi0 hz0 none 0 0 []
      (by simp [Builtin.firstCells]) (n + 1) (by omega) (by omega) (by omega) (by omega) (by rw [hz2]; omega)
      (by rw [hz2]; simp [Builtin.nextslicecap]; omega)
    have hG := grownCap_ge w (n + 1) 0 5
    simp only [Nat.zero_add] at h
    rw [show ((n : Int) + 1) = ((n + 1 : Nat) : Int) by omega, h]
    congr 3
    simp only [Builtin.zeroCells, Value.cells]
    apply Array.ext
    · simp; omega
    · intro i h1 h2; simp [Array.getElem_append]; split <;> simp [Nat.mod_one]
  refine wpList_plain hgd fun K hK => ?_
  unfold Oper.wp execOp
  simp only [ho, resolve, invoke, builtin, Sem.run_bind, Sem.run_pure, Result.andThen_ok, List.map_toArray, List.map_cons, List.map_nil, hs, hx, hrz]
  exact hK _ _ (h _ (grownCap_ge _ _ _ _) (grownCap_le_maxLen _ _ _ _ (by simp [maxLen]; omega)))

set_option maxRecDepth 100000 in
set_option maxHeartbeats 1000000 in
theorem grow_nil (n : Nat) (w : World) (hn : n ≤ 1000000000) :
    Calls Try.prog 26 #[.slice none 0 0, .int .i64 n] w (RetB w []) := by
  rcases n with _ | n
  · go_enter Try.func26, Try.ntmps26
    go_wp2
    go_ret
    exact ⟨_, rfl, OI.nil _ _ _ _, Below.refl _ _⟩
  · have c1 : ((n + 1 : Nat) : Int) = (n : Int) + 1 := by omega
    rw [c1]
    clear c1
    have i1 : (0 : Int) < (n : Int) + 1 := by omega
    go_enter Try.func26, Try.ntmps26
    go_wp2_with (at_builtin; refine app_zeros rfl (.tmp 20) (.tmp 21) rfl n rfl rfl hn ?_; intro G hG1 hG2; have hG3 : (0 : Int) ≤ G := by omega)
    go_ret
    refine ⟨_, rfl, ?_, ?_⟩
    · refine OI.mk (l := []) (sp := (List.replicate G (0 : Int)).map (Value.int .u8)) ?_ (Nat.le_refl _) (by simp) hG2
      have := (Blk.new w 5 (Array.replicate G (.int .u8 0))).drew
      simpa [IS] using this
    · exact ((Below.refl _ _).alloc (Nat.le_refl _) _).drew

theorem flatten_take_succ {ls : List (List Int)} {k : Nat} {l : List Int} (h : ls[k]? = some l) : (ls.take (k + 1)).flatten = (ls.take k).flatten ++ l := by
  obtain ⟨h1, rfl⟩ := List.getElem?_eq_some_iff.1 h
  rw [List.take_succ_eq_append_getElem h1, List.flatten_append]
  simp only [List.flatten_cons, List.flatten_nil, List.append_nil]
/-- how long the first k are -/
def tot (ls : List (List Int)) (k : Nat) : Nat := (ls.take k).flatten.length
theorem tot_succ {ls : List (List Int)} {k : Nat} {l : List Int} (h : ls[k]? = some l) : tot ls (k + 1) = tot ls k + l.length := by
  unfold tot; rw [flatten_take_succ h, List.length_append]
theorem tot_le (ls : List (List Int)) (k : Nat) : tot ls k ≤ ls.flatten.length := by
  unfold tot
  conv => rhs; rw [← List.take_append_drop k ls, List.flatten_append, List.length_append]
  omega
theorem tot_all (ls : List (List Int)) : tot ls ls.length = ls.flatten.length := by unfold tot; rw [List.take_length]

set_option maxRecDepth 100000 in
set_option maxHeartbeats 1000000 in
theorem concat_any (u : Value) (ls : List (List Int)) (w : World) (hu : RR w .u8 u ls) (hlen : ls.flatten.length ≤ 1000000000) (hn : ls.length ≤ 1000000000) :
    Calls Try.prog 19 #[u] w (RetB w ls.flatten) := by
  have hu' := hu
  obtain ⟨A, c, us, rfl, hc, -, -⟩ := hu
  have htl : ∀ k, tot ls k ≤ 1000000000 := fun k => Nat.le_trans (tot_le ls k) hlen
  have HT := Lib.hid htl
  clear htl hlen
  go_enter Try.func19, Try.ntmps19
  go_wp2
  go_loop [3, 11] (fun s i => ∃ (k : Nat), k ≤ ls.length ∧ i = .int .i64 k ∧ s = .int .i64 (tot ls k : Nat)) (fun _ i => ls.length - (intOf i).toNat)
  case atStart => exact ⟨0, Nat.zero_le _, rfl, by simp [tot]⟩
  case round =>
    obtain ⟨k, hk, rfl, rfl⟩ := hrel
    by_cases hlt : k < ls.length
    · have hl : ls[k]? = some ls[k] := List.getElem?_eq_getElem hlt
      generalize ls[k] = l at hl
      obtain ⟨-, ad, x, rfl, hcell, hx⟩ := hu'.at_ hl
      have hs := tot_succ hl
      have h1 := HT.out (k + 1)
      rw [hs] at h1
      obtain ⟨A2, c2, rfl, hc2, -⟩ := hx
      obtain ⟨a, ha⟩ : ∃ a, a = tot ls k := ⟨_, rfl⟩
      rw [← ha] at h1 hs ⊢
      have i2 : (a : Int) + l.length ≤ 1000000000 := by omega
      have i1 : ((a : Int) + l.length < 0) = False := by simp; omega
      have hkl : (k : Int) < ls.length := by omega
      have HS := Lib.hid hs; clear hs
      clear hl ha
      go_wp2
      go_round
      case rel => exact ⟨k + 1, by omega, by go_num, by rw [HS.out]; go_num⟩
      case measure => simp [intOf]; omega
    · have hk2 : k = ls.length := by omega
      have h1 := HT.out k
      obtain ⟨N, hN⟩ : ∃ N, N = tot ls k := ⟨_, rfl⟩
      rw [← hN] at h1 ⊢
      have H1 := Lib.hid hk2
      clear hk2 hN
      go_wp2_with fail
      refine (grow_nil N w h1).mono ?_
      rintro e w1 ⟨v, rfl, hv, hb⟩
      go_wp2_with fail
      go_loopw [6, 27] (fun v i wr => ∃ (k : Nat), k ≤ ls.length ∧ i = .int .i64 k ∧ OI wr w.heap.size 5 .u8 v (ls.take k).flatten ∧ Below w.heap.size w wr) (fun _ i _ => ls.length - (intOf i).toNat)
      case atStart => exact ⟨0, Nat.zero_le _, rfl, by simpa using hv, hb⟩
      case round =>
        obtain ⟨k, hk, rfl, hv2, hB⟩ := hrel
        by_cases hlt : k < ls.length
        · have hl : ls[k]? = some ls[k] := List.getElem?_eq_getElem hlt
          generalize ls[k] = l at hl
          obtain ⟨-, ad, x, rfl, hcell, hx⟩ := (hu'.below hB).at_ hl
          have hs := tot_succ hl
          have h1 := HT.out (k + 1)
          have hlen2 : (ls.take k).flatten.length + l.length ≤ 140737488355328 := by
            have : tot ls k = (ls.take k).flatten.length := rfl
            omega
          have HL := Lib.hid hlen2; clear hlen2
          have HF := Lib.hid (flatten_take_succ hl)
          clear hs hl
          have hkl : (k : Int) < ls.length := by omega
          go_wp2_with (at_builtin; refine app_u8 (B := w.heap.size) rfl (.tmp 31) (.tmp 32) rfl _ _ _ l rfl rfl hv2 hx HL.out hB.size ?_; intro v1 w2 hv1 hb1 _ _)
          go_roundw
          case rel => exact ⟨k + 1, by omega, by go_num, by rw [HF.out]; exact hv1, hB.trans hb1⟩
          case measure => simp [intOf]; omega
        · have hk2 : k = ls.length := by omega
          subst hk2
          rw [List.take_length] at hv2
          go_wp2
          go_ret
          exact ⟨_, rfl, hv2, hB⟩
end Go.Proofs.Yteicdkknciljhaa
