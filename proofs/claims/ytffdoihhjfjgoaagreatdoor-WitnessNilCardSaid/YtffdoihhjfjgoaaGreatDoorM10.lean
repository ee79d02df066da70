import Derived.Test.YtffdoihhjfjgoaaGreatDoorM9
import Derived.Lib.AppendZerosOnto
import Derived.Test.YtffdoihhjfjgoaaGreatDoorM7
/- Contracts of slices.Grow (of nil) and slices.Concat at bytes. -/
namespace Go.Proofs.YtffdoihhjfjgoaaGreatDoor
open Go.RowKit Go.Chr
set_option maxRecDepth 100000 in
theorem app_zeros {w : World} {ops : Array Oper} {rest : List Oper} {o : Oper} {a : Act} {Q : Exit → Act → World → Prop} (hgd : o.guard = none) (s x : Operand)
  (ho : o.op = .call { callee := .builtin .append, args := #[s, x], argTypes := #[27, 3] })
  (n : Nat) (hs : a.eval s = .slice none 0 0) (hx : a.eval x = .int .i64 ((n : Int) + 1)) (hn : n + 1 ≤ 1000000000)
  (h : ∀ G, n + 1 ≤ G → G ≤ maxLen → wpList Tryz.prog ops Q rest (a.put o.dst (.slice (some ⟨w.heap.size, 0, none⟩) (n + 1) G)) (w.drew.alloc (.cells ((List.replicate G 0).map (Value.int .u8)).toArray 5))) :
  wpList Tryz.prog ops Q (o :: rest) a w := by
 obtain ⟨i0, hi0, hz0, hz1, hz2⟩ := info_parts info_u8
 have hrz : (Builtin.append_ #[27, 3] o.type #[.slice none 0 0, .int .i64 ((n : Int) + 1)]).run Tryz.prog w =
   .ok (.slice (some ⟨w.heap.size, 0, none⟩) (n + 1) (grownCap w (n + 1) 0 5)) (w.drew.alloc (.cells ((List.replicate (grownCap w (n + 1) 0 5) 0).map (Value.int .u8)).toArray 5)) := by
  have h := Lib.run_append_grow_zeros (P := Tryz.prog) w 27 3 o.type 5 i0 (.int .u8 0) .i64 .i64 Tryz.underlying27 Tryz.underlying3 hi0 hz0 none 0 0 []
   (by simp [Builtin.firstCells]) (n + 1) (by omega) (by omega) (by omega) (by omega) (by rw [hz2]; omega)
   (by rw [hz2]; simp [Builtin.nextslicecap]; omega)
  have hG := grownCap_ge w (n + 1) 0 5
  simp only [Nat.zero_add] at h
  rw [show ((n : Int) + 1) = ((n + 1 : Nat) : Int) by omega, h]
  congr 3
  simp only [Builtin.zeroCells, Value.cells]
  apply Array.ext
  ·simp; omega
  ·intro i h1 h2; simp [Array.getElem_append]; split <;> simp [Nat.mod_one]
 refine wpList_plain hgd fun K hK => ?_
 unfold Oper.wp execOp
 simp only [ho, resolve, invoke, builtin, Sem.run_bind, Sem.run_pure, Result.andThen_ok, List.map_toArray, List.map_cons, List.map_nil, hs, hx, hrz]
 exact hK _ _ (h _ (grownCap_ge _ _ _ _) (grownCap_le_maxLen _ _ _ _ (by simp [maxLen]; omega)))
set_option maxRecDepth 100000 in
set_option maxHeartbeats 1000000 in
theorem grow_nil (n : Nat) (w : World) (hn : n ≤ 1000000000) :
  Calls Tryz.prog 207 #[.slice none 0 0, .int .i64 n] w (RetB w []) := by
 rcases n with _ | n
 ·go_enter Tryz.func207, Tryz.ntmps207
  go_wp2
  go_ret
  exact ⟨_, rfl, OI.nil _ _ _ _, Below.refl _ _⟩
 ·have c1 : ((n + 1 : Nat) : Int) = (n : Int) + 1 := by omega
  rw [c1]
  clear c1
  have i1 : (0 : Int) < (n : Int) + 1 := by omega
  go_enter Tryz.func207, Tryz.ntmps207
  go_wp2_with (at_builtin; refine app_zeros rfl (.tmp 20) (.tmp 21) rfl n rfl rfl hn ?_; intro G hG1 hG2; have hG3 : (0 : Int) ≤ G := by omega)
  go_ret
  refine ⟨_, rfl, ?_, ?_⟩
  ·refine OI.mk (l := []) (sp := (List.replicate G (0 : Int)).map (Value.int .u8)) ?_ (Nat.le_refl _) (by simp) hG2
   have := (Blk.new w 5 (Array.replicate G (.int .u8 0))).drew
   simpa [IS] using this
  ·exact ((Below.refl _ _).alloc (Nat.le_refl _) _).drew
theorem flatten_take_succ {ls : List (List Int)} {k : Nat} {l : List Int} (h : ls[k]? = some l) : (ls.take (k + 1)).flatten = (ls.take k).flatten ++ l := by
 obtain ⟨h1, rfl⟩ := List.getElem?_eq_some_iff.1 h
 rw [List.take_succ_eq_append_getElem h1, List.flatten_append]
 simp only [List.flatten_cons, List.flatten_nil, List.append_nil]
def tot (ls : List (List Int)) (k : Nat) : Nat := (ls.take k).flatten.length
theorem tot_succ {ls : List (List Int)} {k : Nat} {l : List Int} (h : ls[k]? = some l) : tot ls (k + 1) = tot ls k + l.length := by
 unfold tot; rw [flatten_take_succ h, List.length_append]
theorem tot_le (ls : List (List Int)) (k : Nat) : tot ls k ≤ ls.flatten.length := by
 unfold tot
 conv => rhs; rw [← List.take_append_drop k ls, List.flatten_append, List.length_append]
 omega
set_option maxRecDepth 100000 in
set_option maxHeartbeats 1000000 in
theorem concat_any (u : Value) (ls : List (List Int)) (w : World) (hu : RR w .u8 u ls) (hlen : ls.flatten.length ≤ 1000000000) (hn : ls.length ≤ 1000000000) :
  Calls Tryz.prog 97 #[u] w (RetB w ls.flatten) := by
 have hu' := hu
 obtain ⟨A, c, us, rfl, hc, -, -⟩ := hu
 have htl : ∀ k, tot ls k ≤ 1000000000 := fun k => Nat.le_trans (tot_le ls k) hlen
 have HT := Lib.hid htl
 clear htl hlen
 go_enter Tryz.func97, Tryz.ntmps97
 go_wp2
 go_loop [3, 11] (fun s i => ∃ (k : Nat), k ≤ ls.length ∧ i = .int .i64 k ∧ s = .int .i64 (tot ls k : Nat)) (fun _ i => ls.length - (intOf i).toNat)
 case atStart => exact ⟨0, Nat.zero_le _, rfl, by simp [tot]⟩
 case round =>
  obtain ⟨k, hk, rfl, rfl⟩ := hrel
  by_cases hlt : k < ls.length
  ·have hl : ls[k]? = some ls[k] := List.getElem?_eq_getElem hlt
   generalize ls[k] = l at hl
   obtain ⟨-, ad, x, rfl, hcell, hx⟩ := hu'.at_ hl
   have hs := tot_succ hl
   have h1 := HT.out (k + 1)
   rw [hs] at h1
   obtain ⟨A2, c2, rfl, hc2, -⟩ := hx
   obtain ⟨a, ha⟩ : ∃ a, a = tot ls k := ⟨_, rfl⟩
   rw [← ha] at h1 hs ⊢
   have i2 : (a : Int) + l.length ≤ 1000000000 := by omega
   have i1 : ((a : Int) + l.length < 0) = False := by simp; omega
   have hkl : (k : Int) < ls.length := by omega
   have HS := Lib.hid hs; clear hs
   clear hl ha
   go_wp2
   go_round
   case rel => exact ⟨k + 1, by omega, by go_num, by rw [HS.out]; go_num⟩
   case measure => simp [intOf]; omega
  ·have hk2 : k = ls.length := by omega
   have h1 := HT.out k
   obtain ⟨N, hN⟩ : ∃ N, N = tot ls k := ⟨_, rfl⟩
   rw [← hN] at h1 ⊢
   have H1 := Lib.hid hk2
   clear hk2 hN
   go_wp2_with fail
   refine (grow_nil N w h1).mono ?_
   rintro e w1 ⟨v, rfl, hv, hb⟩
   go_wp2_with fail
   go_loopw [6, 27] (fun v i wr => ∃ (k : Nat), k ≤ ls.length ∧ i = .int .i64 k ∧ OI wr w.heap.size 5 .u8 v (ls.take k).flatten ∧ Below w.heap.size w wr) (fun _ i _ => ls.length - (intOf i).toNat)
   case atStart => exact ⟨0, Nat.zero_le _, rfl, by simpa using hv, hb⟩
   case round =>
    obtain ⟨k, hk, rfl, hv2, hB⟩ := hrel
    by_cases hlt : k < ls.length
    ·have hl : ls[k]? = some ls[k] := List.getElem?_eq_getElem hlt
     generalize ls[k] = l at hl
     obtain ⟨-, ad, x, rfl, hcell, hx⟩ := (hu'.below hB).at_ hl
     have hs := tot_succ hl
     have h1 := HT.out (k + 1)
     have hlen2 : (ls.take k).flatten.length + l.length ≤ 140737488355328 := by
      have : tot ls k = (ls.take k).flatten.length := rfl
      omega
     have HL := Lib.hid hlen2; clear hlen2
     have HF := Lib.hid (flatten_take_succ hl)
     clear hs hl
     have hkl : (k : Int) < ls.length := by omega
     go_wp2_with (at_builtin; refine app_u8 (B := w.heap.size) rfl (.tmp 31) (.tmp 32) rfl _ _ _ l rfl rfl hv2 hx HL.out hB.size ?_; intro v1 w2 hv1 hb1 _ _)
     go_roundw
     case rel => exact ⟨k + 1, by omega, by go_num, by rw [HF.out]; exact hv1, hB.trans hb1⟩
     case measure => simp [intOf]; omega
    ·have hk2 : k = ls.length := by omega
     subst hk2
     rw [List.take_length] at hv2
     go_wp2
     go_ret
     exact ⟨_, rfl, hv2, hB⟩
end Go.Proofs.YtffdoihhjfjgoaaGreatDoor
/- Clone, Concat; numbers as bytes, turned. -/
namespace Go.Proofs.YtffdoihhjfjgoaaGreatDoor
open Go Go.Ab Go.RowKit Go.Chr
set_option maxRecDepth 100000
theorem retB_outs {f : FuncId} {vs : List Value} {w : World} {l : List Int} (hfn : (Tryz.prog.funcs[f]?).map (fun fn => (fn.name == "runtime.NumGoroutine", fn.body.isSome)) = some (false, true))
  (h : Calls Tryz.prog f vs.toArray w (RetB w l)) (hl : ∀ x ∈ l, 0 ≤ x ∧ x < 256) : CallOuts CX.P f vs w fun u w' => Below w.heap.size w w' ∧ OI w' w.heap.size 5 .u8 u l ∧ ∀ x ∈ l, okI .u8 x := by
 rw [CX_P]
 refine callOuts_of hfn (Calls.mono h ?_)
 rintro e w' ⟨v, rfl, ho, hb⟩
 exact ⟨v, rfl, hb, ho, fun x hx => okI_u8.2 (hl x hx)⟩
theorem cs1 {N : Nat → Prop} {w : World} {a : CV} {vs : List Value} (h : cvsRel N w [a] vs) : ∃ u, vs = [u] ∧ asVal a.isAgg (a.rel N w) u := by
 obtain ⟨u, v1, rfl, h1, rfl⟩ := h
 exact ⟨u, rfl, h1⟩
def cloneS : OSpec := fun cs => match cs with
 | [.ints .u8 l] => some (some (l.length ≤ 1000000000), l)
 | _ => none
theorem clone_c : CallOkO CX 5 .u8 114 cloneS := by
 intro cs p l hF hp N w vs hE hv
 unfold cloneS at hF
 split at hF
 ·rename_i l
  injection hF with hF; injection hF with e1 e2; subst e1; subst e2
  obtain ⟨u1, rfl, h1⟩ := cs1 hv
  obtain ⟨hr, hb⟩ := ints_ri hE.1 h1
  have hb := fun x hx => okI_u8.1 (hb x hx)
  have hp : l.length ≤ 1000000000 := hp
  exact retB_outs (by kernel_rfl) (clone_any u1 l w hr (by omega)) hb
 ·cases hF
theorem rows_rr {N : Nat → Prop} {w : World} {ls : List (List Int)} {v : Value} (hN : ∀ k, N k → k < w.heap.size) (h : asVal (CV.rows 1 (.ints .u8) ls).isAgg ((CV.rows 1 (.ints .u8) ls).rel N w) v) : RR w .u8 v ls ∧ ∀ l ∈ ls, ∀ x ∈ l, 0 ≤ x ∧ x < 256 := by
 obtain ⟨ys, hy, A, c, e, hc, h⟩ := h
 injection e with e
 have hlen := relList_len hy
 have hat : ∀ (i : Nat) (l : List Int), ls[i]? = some l → ∃ u, ys[i]? = some u ∧ intsRel N w .u8 l [u] := by
  intro i l hl
  obtain ⟨c1, c2, c3, e, h1, h2, h3, _⟩ := relList_at (xs := ls) hy hl
  match c2, h2 with
  | [u], _ =>
   refine ⟨u, ?_, h3⟩
   rw [e, List.getElem?_append_right (by omega), show i - c1.length = 0 by omega]; rfl
 refine ⟨⟨A, c, ys, e, hc, ⟨hlen, fun h0 => ?_⟩, fun i u l hu hl => ?_⟩, fun l hl x hx => ?_⟩
 ·obtain ⟨ad, e, hb, hr⟩ := h h0
  exact ⟨ad, e, hN _ hb, hr⟩
 ·obtain ⟨u', hu', hr⟩ := hat i l hl
  rw [hu] at hu'; injection hu' with hu'; subst hu'
  exact (ints_ri hN hr).1
 ·obtain ⟨i, hi, rfl⟩ := List.getElem_of_mem hl
  obtain ⟨u', hu', hr⟩ := hat i _ (List.getElem?_eq_getElem hi)
  exact okI_u8.1 (hr.2 x hx)
def concatS : OSpec := fun cs => match cs with
 | [.rows 1 (.ints .u8) ls] => some (some (List.length (List.flatten (α := Int) ls) ≤ 1000000000 ∧ List.length (α := List Int) ls ≤ 1000000000), List.flatten (α := Int) ls)
 | _ => none
theorem concat_c : CallOkO CX 5 .u8 97 concatS := by
 intro cs p l hF hp N w vs hE hv
 unfold concatS at hF
 split at hF
 ·rename_i ls
  injection hF with hF; injection hF with e1 e2; subst e1; subst e2
  obtain ⟨u1, rfl, h1⟩ := cs1 hv
  obtain ⟨hr, hb⟩ := rows_rr hE.1 h1
  refine retB_outs (by kernel_rfl) (concat_any u1 ls w hr hp.1 hp.2) ?_
  intro x hx
  obtain ⟨l, hl, hx⟩ := List.mem_flatten.1 hx
  exact hb l hl x hx
 ·cases hF
noncomputable def GB : Tab := (114, flatO 5 .u8 cloneS) :: (97, flatO 5 .u8 concatS) :: (184, lift [true, true] cBelowS) :: (183, lift [true] cLittleS) :: (98, lift [true] cPutLittleS) :: (288, lift [false] revBS) :: G00
theorem GB_ok : TabOk CX GB := .cons (flatO_ok clone_c) <| .cons (flatO_ok concat_c) <| .cons (lift_ok cBelow_ok _) <| .cons (lift_ok cLittle_ok _) <| .cons (lift_ok cPutLittle_ok _) <| .cons (lift_ok revB_ok _) G00_ok
noncomputable def G2 : Tab := [(114, flatO 5 .u8 cloneS), (97, flatO 5 .u8 concatS)]
theorem G2_ok : TabOk CX G2 := .cons (flatO_ok clone_c) <| .cons (flatO_ok concat_c) .nil
noncomputable def cPutBigS : FSpec := fun xs bl => match xs, bl with
 | [.c (.nat mm1 x)], [] => bif Nat.beq mm1 two256 then some (none, ⟨.own 0 1 32, [], [.cells 5 1 (.ints .u8 (beL x))]⟩) else none
 | _, _ => none
theorem cPutBig_ok : FnOk CX 191 cPutBigS := by
 refine fnOkF hmo GB_ok (fn := Tryz.f191) (c := bodyOf' Tryz.f191) (by kernel_rfl) (by kernel_rfl) (by kernel_rfl) ?_
 intro xs bl p o hF hp
 unfold cPutBigS at hF
 split at hF
 ·rename_i mm1 x
  obtain ⟨hg, hF⟩ := guard_some hF
  have hg0 := beqN hg
  subst hg0
  injection hF with hF; injection hF with e1 e2; subst e1; subst e2
  refine ⟨Nat.le_of_ble_eq_true (by kernel_rfl), fun X hX hfa => ⟨[], 999, ?_⟩⟩
  refine ⟨(32 = (leL x).length ∧ 32 ≤ 1000000000) ∧ some (Out.mk (AV.own 0 1 32) [] [Blk'.cells 5 1 (Body.ints IntKind.u8 (leL x).reverse)]) = some (Out.mk (AV.own 0 1 32) [] [Blk'.cells 5 1 (Body.ints IntKind.u8 (beL x))]), by kernel_rfl, ?_⟩
  exact ⟨⟨by rw [leL_len], by omega⟩, rfl⟩
 ·cases hF
noncomputable def cBigS : FSpec := fun xs bl => match xs, bl with
 | [.c (.ints .u8 l)], [] => some (some (l.length = 32), ⟨.t2 (.c (.nat two256 (beW l))) (.c (.bool true)), [], []⟩)
 | _, _ => none
theorem cBig_ok : FnOk CX 192 cBigS := by
 refine fnOkF hmo GB_ok (fn := Tryz.f192) (c := bodyOf' Tryz.f192) (by kernel_rfl) (by kernel_rfl) (by kernel_rfl) ?_
 intro xs bl p o hF hp
 unfold cBigS at hF
 split at hF
 ·rename_i l
  injection hF with hF; injection hF with e1 e2; subst e1; subst e2
  have hp : l.length = 32 := hp
  refine ⟨Nat.le_of_ble_eq_true (by kernel_rfl), fun X hX hfa => ⟨[], 999, ?_⟩⟩
  refine ⟨l.length ≤ 1000000000 ∧ (l.length = l.length ∧ l.length ≤ 1000000000) ∧ l.reverse.length = 32 ∧ some (Out.mk ((AV.c (CV.nat two256 (leW l.reverse))).t2 (AV.c (CV.bool true))) [] []) = some (Out.mk ((AV.c (CV.nat two256 (beW l))).t2 (AV.c (CV.bool true))) [] []), by kernel_rfl, ?_⟩
  exact ⟨by omega, ⟨rfl, by omega⟩, by rw [List.length_reverse]; exact hp, rfl⟩
 ·cases hF
noncomputable def G0 : Tab := (191, lift [true] cPutBigS) :: (192, lift [true] cBigS) :: GB
theorem G0_ok : TabOk CX G0 := .cons (lift_ok cPutBig_ok _) <| .cons (lift_ok cBig_ok _) GB_ok
end Go.Proofs.YtffdoihhjfjgoaaGreatDoor
/- The references ref01.Less, ref03. -/
namespace Go.Proofs.YtffdoihhjfjgoaaGreatDoor
open Go Go.Ab Go.RowKit Go.Chr
set_option maxRecDepth 100000
noncomputable def sameB (l m : List Int) : Bool := shut (decide (l = m))
theorem sameB_eq (l m : List Int) : sameB l m = decide (l = m) := shut_eq _
def saI (l m : List Int) (i : Nat) : St := ⟨[(0, .c (.ints .u8 l)), (1, .c (.ints .u8 m)), (5, .c (.int .i64 (i : Nat)))], [], 0, 26⟩
def saF : St := ⟨[], [], 0, 26⟩
def saR : St := ⟨[(4, .c (.bool false))], [], 0, 26⟩
def saP (l m : List Int) : Prop := l.length = m.length ∧ l.length ≤ 1000000000
theorem same_l0 {X : Snap} (hX : ∀ b L, X.ι b = some L → b < 0) (l m : List Int) : LOk CX X 0 (loopAt 0 Tryz.f117) (loopR 0 [] [0, 1, 5] (saI l m 0) (saP l m) (!sameB l m) saF saR) := by
 refine loopR_ok hmo GE_ok (by kernel_rfl) hX [] [] [4] (saI l m) (fun i => i ≤ l.length ∧ ∀ j, j < i → l.getD j 0 = m.getD j 0) (fun i => l.length - i) 0 (fun _ => rfl) (fun _ => ⟨by omega, fun j h => by omega⟩) ?_
 intro hp i hi hfa
 refine ⟨[], 999, ?_⟩
 refine ⟨bif decide ((Nat.cast (R := Int) i) < (Nat.cast (R := Int) l.length)) then bif decide ((Nat.cast (R := Int) i) < (Nat.cast (R := Int) l.length)) then bif decide ((Nat.cast (R := Int) i) < (Nat.cast (R := Int) m.length)) then bif l.getD (Nat.cast (R := Int) i).toNat 0 != m.getD (Nat.cast (R := Int) i).toNat 0 then (!sameB l m) = true ∧ some (St.mk [(4, AV.c (CV.bool false))] [] 0 26) = some saR else ∃ (v' : Nat), some (St.mk [(0, AV.c (CV.ints IntKind.u8 l)), (1, AV.c (CV.ints IntKind.u8 m)), (5, AV.c (CV.int IntKind.i64 (IntKind.i64.wrap ((Nat.cast (R := Int) i) + 1))))] [] 0 26) = some (saI l m v') ∧ l.length - v' < l.length - i ∧ v' ≤ l.length ∧ ∀ (j : Nat), j < v' → l.getD j 0 = m.getD j 0 else False else False else (!sameB l m) = false ∧ some (St.mk [] [] 0 26) = some saF, by kernel_rfl, ?_⟩
 obtain ⟨hlm, hp⟩ : l.length = m.length ∧ l.length ≤ 1000000000 := hp
 obtain ⟨hi, hno⟩ : i ≤ l.length ∧ ∀ j, j < i → l.getD j 0 = m.getD j 0 := hi
 rw [Int.toNat_natCast, sameB_eq]
 refine cond_intro (fun h => cond_at h (cond_at (by simp at h ⊢; omega) ?_)) (fun h => ?_)
 ·have h := of_decide_eq_true h
  refine cond_intro (fun h1 => ⟨?_, rfl⟩) (fun h1 => ⟨i + 1, ?_, by omega, by omega, fun j hj => ?_⟩)
  ·have hne : l ≠ m := fun e => by subst e; simp at h1
   simp [hne]
  ·rw [wi (by omega)]; rfl
  ·by_cases hji : j = i
   ·subst hji; simpa using h1
   ·exact hno j (by omega)
 ·have h := of_decide_eq_false h
  have e : l = m := getD_ext hlm fun k hk => hno k (by omega)
  refine ⟨?_, rfl⟩
  simp [e]
noncomputable def rSameS : FSpec := fun xs bl => match xs, bl with
 | [.c (.ints .u8 l), .c (.ints .u8 m)], [] => some (some (l.length ≤ 1000000000 ∧ m.length ≤ 1000000000), ⟨.c (.bool (sameB l m)), [], []⟩)
 | _, _ => none
theorem rSame_ok : FnOk CX 117 rSameS := by
 refine fnOkF hmo GE_ok (fn := Tryz.f117) (c := bodyOf' Tryz.f117) (by kernel_rfl) (by kernel_rfl) (by kernel_rfl) ?_
 intro xs bl p o hF hp
 unfold rSameS at hF
 split at hF
 ·rename_i l m
  injection hF with hF; injection hF with e1 e2; subst e1; subst e2
  have hp : l.length ≤ 1000000000 ∧ m.length ≤ 1000000000 := hp
  refine ⟨Nat.le_of_ble_eq_true (by kernel_rfl), fun X hX hfa => ⟨[(0, loopR 0 [] [0, 1, 5] (saI l m 0) (saP l m) (!sameB l m) saF saR)], 999, ?_⟩⟩
  refine ⟨bif (Nat.cast (R := Int) l.length) != (Nat.cast (R := Int) m.length) then some (Out.mk (AV.c (CV.bool false)) [] []) = some (Out.mk (AV.c (CV.bool (sameB l m))) [] []) else LOk CX X 0 (loopAt 0 Tryz.f117) (loopR 0 [] [0, 1, 5] (saI l m 0) (saP l m) (!sameB l m) saF saR) ∧ some (St.mk [(0, AV.c (CV.ints IntKind.u8 l)), (1, AV.c (CV.ints IntKind.u8 m)), (5, AV.c (CV.int IntKind.i64 0))] [] 0 26) = some (saI l m 0) ∧ saP l m ∧ bif !sameB l m then some (Out.mk (AV.c (CV.bool false)) [] []) = some (Out.mk (AV.c (CV.bool (sameB l m))) [] []) else some (Out.mk (AV.c (CV.bool true)) [] []) = some (Out.mk (AV.c (CV.bool (sameB l m))) [] []), by kernel_rfl, ?_⟩
  refine cond_intro (fun h => ?_) (fun h => ⟨same_l0 hX l m, rfl, ⟨by simp at h; omega, hp.1⟩, ?_⟩)
  ·have hne : l ≠ m := fun e => by subst e; simp at h
   rw [sameB_eq, decide_eq_false hne]
  ·cases sameB l m <;> rfl
 ·cases hF
end Go.Proofs.YtffdoihhjfjgoaaGreatDoor
/- The layer disk: what is read. -/
namespace Go.Proofs.YtffdoihhjfjgoaaGreatDoor
open Go Go.Ab Go.RowKit Go.Chr
set_option maxRecDepth 100000
def dkB (a m n : Nat) (f : Int) (d : Bool) : Blk' := .cells 194 4 (.els [.pr (.own a 64 n) (.pr (.hd .mp m) (.c (.pr (.int .i64 f) (.pr (.bool d) .nl))))])
def scB (xs : List (List Int)) : Blk' := .cells 204 64 (.rows (.arr .u8 64) xs)
def mpB (m : List (Int × List Int)) : Blk' := .map (.arr .u8 64) m
def zS : List Int := List.replicate 64 0
noncomputable def dNewS : FSpec := fun xs bl => match xs, bl with
 | [.c (.int .i64 n)], [] => some (some (0 ≤ n ∧ n ≤ 4096), ⟨.t2 (.ptr (.l 0) 0 4 0) (.c (.int .i64 0)), [], [dkB 1 2 n.toNat (-1) false, scB (List.replicate n.toNat zS), mpB []]⟩)
 | _, _ => none
theorem dNew_ok : FnOk CX 31 dNewS := by
 refine fnOkF hmo GE_ok (fn := Tryz.f31) (c := bodyOf' Tryz.f31) (by kernel_rfl) (by kernel_rfl) (by kernel_rfl) ?_
 intro xs bl p o hF hp
 unfold dNewS at hF
 split at hF
 ·rename_i n
  injection hF with hF; injection hF with e1 e2; subst e1; subst e2
  have hp : 0 ≤ n ∧ n ≤ 4096 := hp
  refine ⟨Nat.le_of_ble_eq_true (by kernel_rfl), fun X hX hfa => ⟨[], 999, ?_⟩⟩
  refine ⟨bif decide (n < 0) then some (Out.mk ((AV.c (CV.raw (Value.pointer none))).t2 (AV.c (CV.int IntKind.i64 1))) [] []) = some (Out.mk ((AV.ptr (Base.l 0) 0 4 0).t2 (AV.c (CV.int IntKind.i64 0))) [] [dkB 1 2 n.toNat (-1) false, scB (List.replicate n.toNat zS), mpB []]) else bif decide (n > 4096) then some (Out.mk ((AV.c (CV.raw (Value.pointer none))).t2 (AV.c (CV.int IntKind.i64 1))) [] []) = some (Out.mk ((AV.ptr (Base.l 0) 0 4 0).t2 (AV.c (CV.int IntKind.i64 0))) [] [dkB 1 2 n.toNat (-1) false, scB (List.replicate n.toNat zS), mpB []]) else bif decide (0 ≤ n) && decide (n ≤ n) && (decide ((Nat.cast (R := Int) 64) * n ≤ 281474976710656) && decide (n ≤ 9223372036854775807)) then some (Out.mk ((AV.ptr (Base.l 0) 0 4 0).t2 (AV.c (CV.int IntKind.i64 0))) [] [Blk'.cells 194 4 (Body.els [(AV.own 1 64 n.toNat).pr ((AV.hd Hk.mp 2).pr (AV.c ((CV.int IntKind.i64 (-1)).pr ((CV.bool false).pr CV.nl))))]), Blk'.cells 204 64 (Body.rows (Tag.arr IntKind.u8 64) (List.replicate n.toNat (List.replicate 64 0))), Blk'.map (Tag.arr IntKind.u8 64) []]) = some (Out.mk ((AV.ptr (Base.l 0) 0 4 0).t2 (AV.c (CV.int IntKind.i64 0))) [] [dkB 1 2 n.toNat (-1) false, scB (List.replicate n.toNat zS), mpB []]) else False, by kernel_rfl, ?_⟩
  exact cond_no (by simp; omega) <| cond_no (by simp; omega) <| cond_at (by simp; omega) rfl
 ·cases hF
noncomputable def dDownS : FSpec := fun xs bl => match xs, bl with
 | [.ptr (.l 0) 0 4 0], [.cells 194 4 (.els [.pr (.own 1 64 n) (.pr (.hd .mp 2) (.c (.pr (.int .i64 f) (.pr (.bool d) .nl))))]), .cells 204 64 (.rows (.arr .u8 64) xs), .map (.arr .u8 64) m] => some (none, ⟨.c (.bool d), [some (dkB 1 2 n f d), some (scB xs), some (mpB m)], []⟩)
 | _, _ => none
theorem dDown_ok : FnOk CX 131 dDownS := by
 refine fnOkF hmo GE_ok (fn := Tryz.f131) (c := bodyOf' Tryz.f131) (by kernel_rfl) (by kernel_rfl) (by kernel_rfl) ?_
 intro xs bl p o hF hp
 unfold dDownS at hF
 split at hF
 ·rename_i n f d xs m
  injection hF with hF; injection hF with e1 e2; subst e1; subst e2
  refine ⟨Nat.le_of_ble_eq_true (by kernel_rfl), fun X hX hfa => ⟨[], 999, ?_⟩⟩
  refine ⟨some (Out.mk (AV.c (CV.bool d)) [some (Blk'.cells 194 4 (Body.els [(AV.own 1 64 n).pr ((AV.hd Hk.mp 2).pr (AV.c ((CV.int IntKind.i64 f).pr ((CV.bool d).pr CV.nl))))])), some (Blk'.cells 204 64 (Body.rows (Tag.arr IntKind.u8 64) xs)), some (Blk'.map (Tag.arr IntKind.u8 64) m)] []) = some (Out.mk (AV.c (CV.bool d)) [some (dkB 1 2 n f d), some (scB xs), some (mpB m)] []), by kernel_rfl, ?_⟩
  rfl
 ·cases hF
def rdE (n : Nat) (d : Bool) (i : Int) : Int := bif d then 6 else bif decide (i < 0) || decide (i ≥ (n : Nat)) then 3 else 0
def rdL (xs : List (List Int)) (m : List (Int × List Int)) (n : Nat) (d : Bool) (i : Int) : List Int := bif d then [] else bif decide (i < 0) || decide (i ≥ (n : Nat)) then [] else bif mHas (.arr .u8 64) m i then mGet (.arr .u8 64) m i zS else xs.getD i.toNat []
noncomputable def GK1 : Tab := (131, lift [false] dDownS) :: (114, flatO 5 .u8 cloneS) :: GE
theorem GK1_ok : TabOk CX GK1 := .cons (lift_ok dDown_ok _) <| .cons (flatO_ok clone_c) GE_ok
def rdO (n : Nat) (f : Int) (d : Bool) (xs : List (List Int)) (m : List (Int × List Int)) (l : List Int) (e : Int) : Option Out := some ⟨.t2 (.own 3 1 l.length) (.c (.int .i64 e)), [some (dkB 1 2 n f d), some (scB xs), some (mpB m)], [byB l]⟩
theorem row_len {k : Nat} {xs : List (List Int)} (h : rowsFact (arrFact .u8 k) xs) (i : Nat) : (xs.getD i []).length ≤ k := by
 rw [List.getD_eq_getElem?_getD]
 cases e : xs[i]? with
 | none => exact Nat.zero_le _
 | some y => exact Nat.le_of_eq (h i y e).1
theorem zS_fact : arrFact .u8 64 zS := ⟨rfl, fun x hx => by rw [List.eq_of_mem_replicate hx]; exact okI_u8.2 (by omega)⟩
def rdQ (n : Nat) (f : Int) (d : Bool) (xs : List (List Int)) (m : List (Int × List Int)) (i : Int) : Prop :=
 let A := fun l e => rdO n f d xs m l e = rdO n f d xs m (rdL xs m n d i) (rdE n d i)
 cond d (A [] 6) <| cond (decide (i < 0)) (A [] 3) <| cond (decide (i ≥ (n : Nat))) (A [] 3) <| cond (!mHas (.arr .u8 64) m i) (cond (decide (0 ≤ i) && decide (i < (n : Nat))) ((xs.getD i.toNat []).length ≤ 1000000000 ∧ A (xs.getD i.toNat []) 0) False) (List.length (α := Int) (mGet (.arr .u8 64) m i zS) ≤ 1000000000 ∧ A (mGet (.arr .u8 64) m i zS) 0)
noncomputable def dReadS : FSpec := fun xs bl => match xs, bl with
 | [.ptr (.l 0) 0 4 0, .c (.int .i64 i)], [.cells 194 4 (.els [.pr (.own 1 64 n) (.pr (.hd .mp 2) (.c (.pr (.int .i64 f) (.pr (.bool d) .nl))))]), .cells 204 64 (.rows (.arr .u8 64) xs), .map (.arr .u8 64) m] => some (none, ⟨.t2 (.own 3 1 (rdL xs m n d i).length) (.c (.int .i64 (rdE n d i))), [some (dkB 1 2 n f d), some (scB xs), some (mpB m)], [byB (rdL xs m n d i)]⟩)
 | _, _ => none
theorem dRead_ok : FnOk CX 305 dReadS := by
 refine fnOkR [.slot 4 (some (5, 1, .ints .u8 []))] hmo GK1_ok (fn := Tryz.f305) (c := bodyOf' Tryz.f305) (by kernel_rfl) (by kernel_rfl) (by kernel_rfl) ?_
 intro xs bl p o hF hp
 unfold dReadS at hF
 split at hF
 ·rename_i i n f d xs m
  injection hF with hF; injection hF with e1 e2; subst e1; subst e2
  refine ⟨Nat.le_of_ble_eq_true (by kernel_rfl), fun X hX hfa => ⟨[], 999, ?_⟩⟩
  refine ⟨rdQ n f d xs m i, by kernel_rfl, ?_⟩
  have hx : rowsFact (arrFact .u8 64) xs := hfa.h 1 _ rfl
  have hm : rowsFact (fun p : Int × List Int => arrFact .u8 64 p.2) m := hfa.h 2 _ rfl
  have hg : arrFact .u8 64 (mGet (.arr .u8 64) m i zS) := mGet_fact (t := .arr .u8 64) zS_fact hm
  unfold rdQ rdL rdE
  dsimp only
  refine cond_intro (fun h => by rw [h]; rfl) fun h => cond_intro (fun h1 => by rw [h, h1]; rfl) fun h1 => cond_intro (fun h2 => by rw [h, h1, h2]; rfl) fun h2 => ?_
  rw [h, h1, h2]
  refine cond_intro (fun h3 => cond_at (by simp at h1 h2 ⊢; omega) ⟨Nat.le_trans (row_len hx _) (by omega), ?_⟩) fun h3 => ⟨by rw [hg.1]; omega, ?_⟩
  ·rw [Bool.not_eq_true'] at h3; rw [h3]; rfl
  ·rw [Bool.not_eq_false'] at h3; rw [h3]; rfl
 ·cases hF
def eqI (l m : List Int) (i : Nat) : St := ⟨[(0, .c (.ints .u8 l)), (1, .c (.ints .u8 m)), (12, .c (.int .i64 (l.length : Nat))), (13, .c (.int .i64 (i : Nat)))], [], 0, 26⟩
def eqF : St := ⟨[], [], 0, 26⟩
def eqR : St := ⟨[(4, .c (.bool false))], [], 0, 26⟩
theorem seq_l0 {X : Snap} (hX : ∀ b L, X.ι b = some L → b < 0) (l m : List Int) : LOk CX X 0 (loopAt 0 Tryz.f101) (loopR 0 [] [0, 1, 12, 13] (eqI l m 0) (saP l m) (!sameB l m) eqF eqR) := by
 refine loopR_ok hmo GE_ok (by kernel_rfl) hX [] [] [4] (eqI l m) (fun i => i ≤ l.length ∧ ∀ j, j < i → l.getD j 0 = m.getD j 0) (fun i => l.length - i) 0 (fun _ => rfl) (fun _ => ⟨by omega, fun j h => by omega⟩) ?_
 intro hp i hi hfa
 refine ⟨[], 999, ?_⟩
 refine ⟨bif decide ((Nat.cast (R := Int) i) < (Nat.cast (R := Int) l.length)) then bif decide ((Nat.cast (R := Int) i) < (Nat.cast (R := Int) l.length)) then bif decide ((Nat.cast (R := Int) i) < (Nat.cast (R := Int) m.length)) then bif l.getD (Nat.cast (R := Int) i).toNat 0 != m.getD (Nat.cast (R := Int) i).toNat 0 then (!sameB l m) = true ∧ some (St.mk [(4, AV.c (CV.bool false))] [] 0 26) = some eqR else ∃ (v' : Nat), some (St.mk [(0, AV.c (CV.ints IntKind.u8 l)), (1, AV.c (CV.ints IntKind.u8 m)), (12, AV.c (CV.int IntKind.i64 (Nat.cast (R := Int) l.length))), (13, AV.c (CV.int IntKind.i64 (IntKind.i64.wrap ((Nat.cast (R := Int) i) + 1))))] [] 0 26) = some (eqI l m v') ∧ l.length - v' < l.length - i ∧ v' ≤ l.length ∧ ∀ (j : Nat), j < v' → l.getD j 0 = m.getD j 0 else False else False else (!sameB l m) = false ∧ some (St.mk [] [] 0 26) = some eqF, by kernel_rfl, ?_⟩
 obtain ⟨hlm, hp⟩ : l.length = m.length ∧ l.length ≤ 1000000000 := hp
 obtain ⟨hi, hno⟩ : i ≤ l.length ∧ ∀ j, j < i → l.getD j 0 = m.getD j 0 := hi
 rw [Int.toNat_natCast, sameB_eq]
 refine cond_intro (fun h => cond_at h (cond_at (by simp at h ⊢; omega) ?_)) (fun h => ?_)
 ·have h := of_decide_eq_true h
  refine cond_intro (fun h1 => ⟨?_, rfl⟩) (fun h1 => ⟨i + 1, ?_, by omega, by omega, fun j hj => ?_⟩)
  ·have hne : l ≠ m := fun e => by subst e; simp at h1
   simp [hne]
  ·rw [wi (by omega)]; rfl
  ·by_cases hji : j = i
   ·subst hji; simpa using h1
   ·exact hno j (by omega)
 ·have h := of_decide_eq_false h
  have e : l = m := getD_ext hlm fun k hk => hno k (by omega)
  refine ⟨?_, rfl⟩
  simp [e]
noncomputable def seqS : FSpec := fun xs bl => match xs, bl with
 | [.c (.ints .u8 l), .c (.ints .u8 m)], [] => some (some (l.length ≤ 1000000000 ∧ m.length ≤ 1000000000), ⟨.c (.bool (sameB l m)), [], []⟩)
 | _, _ => none
theorem seq_ok : FnOk CX 101 seqS := by
 refine fnOkF hmo GE_ok (fn := Tryz.f101) (c := bodyOf' Tryz.f101) (by kernel_rfl) (by kernel_rfl) (by kernel_rfl) ?_
 intro xs bl p o hF hp
 unfold seqS at hF
 split at hF
 ·rename_i l m
  injection hF with hF; injection hF with e1 e2; subst e1; subst e2
  have hp : l.length ≤ 1000000000 ∧ m.length ≤ 1000000000 := hp
  refine ⟨Nat.le_of_ble_eq_true (by kernel_rfl), fun X hX hfa => ⟨[(0, loopR 0 [] [0, 1, 12, 13] (eqI l m 0) (saP l m) (!sameB l m) eqF eqR)], 999, ?_⟩⟩
  refine ⟨bif (Nat.cast (R := Int) l.length) != (Nat.cast (R := Int) m.length) then some (Out.mk (AV.c (CV.bool false)) [] []) = some (Out.mk (AV.c (CV.bool (sameB l m))) [] []) else LOk CX X 0 (loopAt 0 Tryz.f101) (loopR 0 [] [0, 1, 12, 13] (eqI l m 0) (saP l m) (!sameB l m) eqF eqR) ∧ some (St.mk [(0, AV.c (CV.ints IntKind.u8 l)), (1, AV.c (CV.ints IntKind.u8 m)), (12, AV.c (CV.int IntKind.i64 (Nat.cast (R := Int) l.length))), (13, AV.c (CV.int IntKind.i64 0))] [] 0 26) = some (eqI l m 0) ∧ saP l m ∧ bif !sameB l m then some (Out.mk (AV.c (CV.bool false)) [] []) = some (Out.mk (AV.c (CV.bool (sameB l m))) [] []) else some (Out.mk (AV.c (CV.bool true)) [] []) = some (Out.mk (AV.c (CV.bool (sameB l m))) [] []), by kernel_rfl, ?_⟩
  refine cond_intro (fun h => ?_) (fun h => ⟨seq_l0 hX l m, rfl, ⟨by simp at h; omega, hp.1⟩, ?_⟩)
  ·have hne : l ≠ m := fun e => by subst e; simp at h
   rw [sameB_eq, decide_eq_false hne]
  ·cases sameB l m <;> rfl
 ·cases hF
end Go.Proofs.YtffdoihhjfjgoaaGreatDoor
/- The layer mark: what is read. -/
namespace Go.Proofs.YtffdoihhjfjgoaaGreatDoor
open Go Go.Ab Go.RowKit Go.Chr
set_option maxRecDepth 100000
noncomputable def GK2 : Tab := (frzAt + 21, noC) :: (305, lift [false, false] dReadS) :: GE
theorem GK2_ok : TabOk CX GK2 := .cons (noC_ok _) <| .cons (lift_ok dRead_ok _) GE_ok
def or0 (a b : Int) : Int := bif a == 0 then b else a
def mkE (n : Nat) (d : Bool) (a : Int) : Int := or0 (rdE n d a) (or0 (rdE n d (a + 1)) (rdE n d (a + 2)))
theorem rdL_none {xs : List (List Int)} {m : List (Int × List Int)} {n : Nat} {d : Bool} {i j : Int} (h : (rdE n d i != 0) = true) (h0 : 0 ≤ i) (hj : i ≤ j) : rdL xs m n d j = [] := by
 cases d with
 | true => rfl
 | false =>
  have e0 : decide (i < 0) = false := by simp; omega
  unfold rdE at h
  rw [e0] at h
  cases e1 : decide (i ≥ (n : Nat)) with
  | false => rw [e1] at h; simp at h
  | true =>
   have := of_decide_eq_true e1
   have e2 : decide (j ≥ (n : Nat)) = true := by simp; omega
   unfold rdL; rw [e2, Bool.or_true]; rfl
def mkO (n : Nat) (f : Int) (d : Bool) (xs : List (List Int)) (m : List (Int × List Int)) (x y z : List Int) (e : Int) : Option Out := some ⟨.t2 (.c (.pr (.ints .u8 (x)) (.pr (.ints .u8 (y)) (.pr (.ints .u8 (z)) .nl)))) (.c (.int .i64 e)), [some (dkB 1 2 n f d), some (scB xs), some (mpB m)], []⟩
def mkQ (n : Nat) (f : Int) (d : Bool) (xs : List (List Int)) (m : List (Int × List Int)) (a i j k : Int) : Prop :=
 let A := fun x y z e => mkO n f d xs m x y z e = mkO n f d xs m (rdL xs m n d a) (rdL xs m n d (a + 1)) (rdL xs m n d (a + 2)) (mkE n d a)
 let L := rdL xs m n d
 cond (rdE n d i != 0) (A [] [] [] (rdE n d i)) <| cond (rdE n d j != 0) (A (L i) [] [] (rdE n d j)) <| cond (rdE n d k != 0) (A (L i) (L j) [] (rdE n d k)) (A (L i) (L j) (L k) 0)
theorem mkQ_ok {n : Nat} {f : Int} {d : Bool} {a : Int} (xs : List (List Int)) (m : List (Int × List Int)) (h0 : 0 ≤ a) : mkQ n f d xs m a a (a + 1) (a + 2) := by
 unfold mkQ mkE or0
 dsimp only
 refine cond_intro (fun h => ?_) fun h => cond_intro (fun h1 => ?_) fun h1 => cond_intro (fun h2 => ?_) fun h2 => ?_
 ·rw [rdL_none (j := a) h h0 (by omega), rdL_none (j := a + 1) h h0 (by omega), rdL_none (j := a + 2) h h0 (by omega)]
  have h : (rdE n d a == 0) = false := by simpa using h
  rw [h]; rfl
 ·rw [rdL_none (j := a + 1) h1 (by omega) (by omega), rdL_none (j := a + 2) h1 (by omega) (by omega)]
  have h : (rdE n d a == 0) = true := by simpa using h
  have h1 : (rdE n d (a + 1) == 0) = false := by simpa using h1
  rw [h, h1]; rfl
 ·rw [rdL_none (j := a + 2) h2 (by omega) (by omega)]
  have h : (rdE n d a == 0) = true := by simpa using h
  have h1 : (rdE n d (a + 1) == 0) = true := by simpa using h1
  have h2 : (rdE n d (a + 2) == 0) = false := by simpa using h2
  rw [h, h1]
  simp only [cond_true]
 ·have h : (rdE n d a == 0) = true := by simpa using h
  have h1 : (rdE n d (a + 1) == 0) = true := by simpa using h1
  have h2 : rdE n d (a + 2) = 0 := by simpa using h2
  rw [h, h1, h2]; rfl
noncomputable def mkReadS : FSpec := fun xs bl => match xs, bl with
 | [.ptr (.l 0) 0 4 0, .c (.int .i64 a)], [.cells 194 4 (.els [.pr (.own 1 64 n) (.pr (.hd .mp 2) (.c (.pr (.int .i64 f) (.pr (.bool d) .nl))))]), .cells 204 64 (.rows (.arr .u8 64) xs), .map (.arr .u8 64) m] => some (some (0 ≤ a ∧ a ≤ 1000000), ⟨.t2 (.c (.pr (.ints .u8 (rdL xs m n d a)) (.pr (.ints .u8 (rdL xs m n d (a + 1))) (.pr (.ints .u8 (rdL xs m n d (a + 2))) .nl)))) (.c (.int .i64 (mkE n d a))), [some (dkB 1 2 n f d), some (scB xs), some (mpB m)], []⟩)
 | _, _ => none
theorem mkRead_ok : FnOk CX 214 mkReadS := by
 refine fnOkR [.zblk 3 0 (.ints .u8 []), .zblk 3 1 (.ints .u8 []), .zblk 3 2 (.ints .u8 [])] hmo GK2_ok (fn := Tryz.f214) (c := bodyOf' Tryz.f214) (by kernel_rfl) (by kernel_rfl) (by kernel_rfl) ?_
 intro xs bl p o hF hp
 unfold mkReadS at hF
 split at hF
 ·rename_i a n f d xs m
  injection hF with hF; injection hF with e1 e2; subst e1; subst e2
  have hp : 0 ≤ a ∧ a ≤ 1000000 := hp
  refine ⟨Nat.le_of_ble_eq_true (by kernel_rfl), fun X hX hfa => ⟨[], 999, ?_⟩⟩
  refine ⟨mkQ n f d xs m a (IntKind.i64.wrap (a + 0)) (IntKind.i64.wrap (a + 1)) (IntKind.i64.wrap (a + 2)), by kernel_rfl, ?_⟩
  rw [wi (by omega), wi (by omega), wi (by omega), Int.add_zero]
  exact mkQ_ok xs m hp.1
 ·cases hF
noncomputable def mkV (a b c : List Int) : List Int := bif sameB b c then c else a
noncomputable def GK3 : Tab := (101, lift [true, true] seqS) :: GE
theorem GK3_ok : TabOk CX GK3 := .cons (lift_ok seq_ok _) GE_ok
noncomputable def mkValueS : FSpec := fun xs bl => match xs, bl with
 | [.c (.pr (.ints .u8 a) (.pr (.ints .u8 b) (.pr (.ints .u8 c) .nl)))], [] => some (some (b.length ≤ 1000000000 ∧ c.length ≤ 1000000000), ⟨.c (.ints .u8 (mkV a b c)), [], []⟩)
 | _, _ => none
theorem mkValue_ok : FnOk CX 215 mkValueS := by
 refine fnOkF hmo GK3_ok (fn := Tryz.f215) (c := bodyOf' Tryz.f215) (by kernel_rfl) (by kernel_rfl) (by kernel_rfl) ?_
 intro xs bl p o hF hp
 unfold mkValueS at hF
 split at hF
 ·rename_i a b c
  injection hF with hF; injection hF with e1 e2; subst e1; subst e2
  have hp : b.length ≤ 1000000000 ∧ c.length ≤ 1000000000 := hp
  refine ⟨Nat.le_of_ble_eq_true (by kernel_rfl), fun X hX hfa => ⟨[], 999, ?_⟩⟩
  refine ⟨(b.length ≤ 1000000000 ∧ c.length ≤ 1000000000) ∧ bif sameB b c then some (Out.mk (AV.c (CV.ints IntKind.u8 c)) [] []) = some (Out.mk (AV.c (CV.ints IntKind.u8 (mkV a b c))) [] []) else some (Out.mk (AV.c (CV.ints IntKind.u8 a)) [] []) = some (Out.mk (AV.c (CV.ints IntKind.u8 (mkV a b c))) [] []), by kernel_rfl, ?_⟩
  refine ⟨hp, ?_⟩
  unfold mkV
  exact cond_intro (fun h => by rw [h]; rfl) (fun h => by rw [h]; rfl)
 ·cases hF
theorem rdL_len {xs : List (List Int)} {m : List (Int × List Int)} (hx : rowsFact (arrFact .u8 64) xs) (hm : rowsFact (fun p : Int × List Int => arrFact .u8 64 p.2) m) (n : Nat) (d : Bool) (i : Int) : (rdL xs m n d i).length ≤ 64 := by
 unfold rdL
 cases d with
 | true => exact Nat.zero_le _
 | false =>
  cases decide (i < 0) || decide (i ≥ (n : Nat)) with
  | true => exact Nat.zero_le _
  | false =>
   cases mHas (.arr .u8 64) m i with
   | true => exact Nat.le_of_eq (mGet_fact (t := .arr .u8 64) zS_fact hm).1
   | false => exact row_len hx _
noncomputable def mkL (xs : List (List Int)) (m : List (Int × List Int)) (n : Nat) (d : Bool) (a : Int) : List Int := mkV (rdL xs m n d a) (rdL xs m n d (a + 1)) (rdL xs m n d (a + 2))
noncomputable def GK4 : Tab := (214, lift [false, false] mkReadS) :: (215, lift [false] mkValueS) :: GK3
theorem GK4_ok : TabOk CX GK4 := .cons (lift_ok mkRead_ok _) <| .cons (lift_ok mkValue_ok _) GK3_ok
noncomputable def mkLoadS : FSpec := fun xs bl => match xs, bl with
 | [.ptr (.l 0) 0 4 0, .c (.int .i64 a)], [.cells 194 4 (.els [.pr (.own 1 64 n) (.pr (.hd .mp 2) (.c (.pr (.int .i64 f) (.pr (.bool d) .nl))))]), .cells 204 64 (.rows (.arr .u8 64) xs), .map (.arr .u8 64) m] => some (some (0 ≤ a ∧ a ≤ 1000000), ⟨.t2 (.c (.ints .u8 (bif mkE n d a == 0 then mkL xs m n d a else []))) (.c (.int .i64 (mkE n d a))), [some (dkB 1 2 n f d), some (scB xs), some (mpB m)], []⟩)
 | _, _ => none
theorem mkLoad_ok : FnOk CX 112 mkLoadS := by
 refine fnOkR [.zero 4 (.ints .u8 [])] hmo GK4_ok (fn := Tryz.f112) (c := bodyOf' Tryz.f112) (by kernel_rfl) (by kernel_rfl) (by kernel_rfl) ?_
 intro xs bl p o hF hp
 unfold mkLoadS at hF
 split at hF
 ·rename_i a n f d xs m
  injection hF with hF; injection hF with e1 e2; subst e1; subst e2
  have hp : 0 ≤ a ∧ a ≤ 1000000 := hp
  refine ⟨Nat.le_of_ble_eq_true (by kernel_rfl), fun X hX hfa => ⟨[], 999, ?_⟩⟩
  refine ⟨(0 ≤ a ∧ a ≤ 1000000) ∧ bif mkE n d a != 0 then some (Out.mk ((AV.c (CV.ints IntKind.u8 [])).t2 (AV.c (CV.int IntKind.i64 (mkE n d a)))) [some (Blk'.cells 194 4 (Body.els [(AV.own 1 64 n).pr ((AV.hd Hk.mp 2).pr (AV.c ((CV.int IntKind.i64 f).pr ((CV.bool d).pr CV.nl))))])), some (Blk'.cells 204 64 (Body.rows (Tag.arr IntKind.u8 64) xs)), some (Blk'.map (Tag.arr IntKind.u8 64) m)] []) = some (Out.mk ((AV.c (CV.ints IntKind.u8 (bif mkE n d a == 0 then mkL xs m n d a else []))).t2 (AV.c (CV.int IntKind.i64 (mkE n d a)))) [some (dkB 1 2 n f d), some (scB xs), some (mpB m)] []) else ((rdL xs m n d (a + 1)).length ≤ 1000000000 ∧ (rdL xs m n d (a + 2)).length ≤ 1000000000) ∧ some (Out.mk ((AV.c (CV.ints IntKind.u8 (mkV (rdL xs m n d a) (rdL xs m n d (a + 1)) (rdL xs m n d (a + 2))))).t2 (AV.c (CV.int IntKind.i64 0))) [some (Blk'.cells 194 4 (Body.els [(AV.own 1 64 n).pr ((AV.hd Hk.mp 2).pr (AV.c ((CV.int IntKind.i64 f).pr ((CV.bool d).pr CV.nl))))])), some (Blk'.cells 204 64 (Body.rows (Tag.arr IntKind.u8 64) xs)), some (Blk'.map (Tag.arr IntKind.u8 64) m)] []) = some (Out.mk ((AV.c (CV.ints IntKind.u8 (bif mkE n d a == 0 then mkL xs m n d a else []))).t2 (AV.c (CV.int IntKind.i64 (mkE n d a)))) [some (dkB 1 2 n f d), some (scB xs), some (mpB m)] []), by kernel_rfl, ?_⟩
  have hx : rowsFact (arrFact .u8 64) xs := hfa.h 1 _ rfl
  have hm : rowsFact (fun p : Int × List Int => arrFact .u8 64 p.2) m := hfa.h 2 _ rfl
  have hl := rdL_len hx hm n d
  refine ⟨hp, cond_intro (fun h => ?_) (fun h => ⟨⟨Nat.le_trans (hl _) (by omega), Nat.le_trans (hl _) (by omega)⟩, ?_⟩)⟩
  ·have h : (mkE n d a == 0) = false := by simpa using h
   rw [h]; rfl
  ·have h : mkE n d a = 0 := by simpa using h
   rw [h]; rfl
 ·cases hF
def steady (xs : List (List Int)) (m : List (Int × List Int)) (n : Nat) (d : Bool) (a : Int) : Prop := rdL xs m n d a = rdL xs m n d (a + 1) ∧ rdL xs m n d (a + 1) = rdL xs m n d (a + 2)
noncomputable def mkMend0S : FSpec := fun xs bl => match xs, bl with
 | [.ptr (.l 0) 0 4 0, .c (.int .i64 a)], [.cells 194 4 (.els [.pr (.own 1 64 n) (.pr (.hd .mp 2) (.c (.pr (.int .i64 f) (.pr (.bool d) .nl))))]), .cells 204 64 (.rows (.arr .u8 64) xs), .map (.arr .u8 64) m] => some (some ((0 ≤ a ∧ a ≤ 1000000) ∧ steady xs m n d a ∧ mkE n d a = 0), ⟨.c (.int .i64 0), [some (dkB 1 2 n f d), some (scB xs), some (mpB m)], []⟩)
 | _, _ => none
theorem mkMend0_ok : FnOk CX 111 mkMend0S := by
 refine fnOkF hmo GK4_ok (fn := Tryz.f111) (c := bodyOf' Tryz.f111) (by kernel_rfl) (by kernel_rfl) (by kernel_rfl) ?_
 intro xs bl p o hF hp
 unfold mkMend0S at hF
 split at hF
 ·rename_i a n f d xs m
  injection hF with hF; injection hF with e1 e2; subst e1; subst e2
  obtain ⟨hp, ⟨s1, s2⟩, h0⟩ : (0 ≤ a ∧ a ≤ 1000000) ∧ steady xs m n d a ∧ mkE n d a = 0 := hp
  refine ⟨Nat.le_of_ble_eq_true (by kernel_rfl), fun X hX hfa => ⟨[], 999, ?_⟩⟩
  refine ⟨(0 ≤ a ∧ a ≤ 1000000) ∧ bif mkE n d a != 0 then some (Out.mk (AV.c (CV.int IntKind.i64 (mkE n d a))) [some (Blk'.cells 194 4 (Body.els [(AV.own 1 64 n).pr ((AV.hd Hk.mp 2).pr (AV.c ((CV.int IntKind.i64 f).pr ((CV.bool d).pr CV.nl))))])), some (Blk'.cells 204 64 (Body.rows (Tag.arr IntKind.u8 64) xs)), some (Blk'.map (Tag.arr IntKind.u8 64) m)] []) = some (Out.mk (AV.c (CV.int IntKind.i64 0)) [some (dkB 1 2 n f d), some (scB xs), some (mpB m)] []) else ((rdL xs m n d (a + 1)).length ≤ 1000000000 ∧ (rdL xs m n d (a + 2)).length ≤ 1000000000) ∧ ((rdL xs m n d a).length ≤ 1000000000 ∧ (mkV (rdL xs m n d a) (rdL xs m n d (a + 1)) (rdL xs m n d (a + 2))).length ≤ 1000000000) ∧ bif sameB (rdL xs m n d a) (mkV (rdL xs m n d a) (rdL xs m n d (a + 1)) (rdL xs m n d (a + 2))) then ((rdL xs m n d (a + 1)).length ≤ 1000000000 ∧ (mkV (rdL xs m n d a) (rdL xs m n d (a + 1)) (rdL xs m n d (a + 2))).length ≤ 1000000000) ∧ bif sameB (rdL xs m n d (a + 1)) (mkV (rdL xs m n d a) (rdL xs m n d (a + 1)) (rdL xs m n d (a + 2))) then ((rdL xs m n d (a + 2)).length ≤ 1000000000 ∧ (mkV (rdL xs m n d a) (rdL xs m n d (a + 1)) (rdL xs m n d (a + 2))).length ≤ 1000000000) ∧ bif sameB (rdL xs m n d (a + 2)) (mkV (rdL xs m n d a) (rdL xs m n d (a + 1)) (rdL xs m n d (a + 2))) then some (Out.mk (AV.c (CV.int IntKind.i64 0)) [some (Blk'.cells 194 4 (Body.els [(AV.own 1 64 n).pr ((AV.hd Hk.mp 2).pr (AV.c ((CV.int IntKind.i64 f).pr ((CV.bool d).pr CV.nl))))])), some (Blk'.cells 204 64 (Body.rows (Tag.arr IntKind.u8 64) xs)), some (Blk'.map (Tag.arr IntKind.u8 64) m)] []) = some (Out.mk (AV.c (CV.int IntKind.i64 0)) [some (dkB 1 2 n f d), some (scB xs), some (mpB m)] []) else False else False else False, by kernel_rfl, ?_⟩
  have hx : rowsFact (arrFact .u8 64) xs := hfa.h 1 _ rfl
  have hm : rowsFact (fun p : Int × List Int => arrFact .u8 64 p.2) m := hfa.h 2 _ rfl
  have hl := rdL_len hx hm n d
  have hv : ∀ x : List Int, mkV x x x = x := fun x => by unfold mkV; cases sameB x x <;> rfl
  rw [s1, s2, hv, h0]
  have h1 := Nat.le_trans (hl (a + 2)) (show 64 ≤ 1000000000 by omega)
  have e : sameB (rdL xs m n d (a + 2)) (rdL xs m n d (a + 2)) = true := by rw [sameB_eq]; simp
  rw [e]
  exact ⟨hp, ⟨h1, h1⟩, ⟨h1, h1⟩, ⟨h1, h1⟩, ⟨h1, h1⟩, rfl⟩
 ·cases hF
end Go.Proofs.YtffdoihhjfjgoaaGreatDoor
/- The references ref13, ref14: what is read. -/
namespace Go.Proofs.YtffdoihhjfjgoaaGreatDoor
open Go Go.Ab Go.RowKit Go.Chr
set_option maxRecDepth 100000
def rkB (a b : Nat) (f : Int) (d : Bool) : Blk' := .cells 113 4 (.els [.pr (.own 1 1 a) (.pr (.own 2 1 b) (.c (.pr (.int .i64 f) (.pr (.bool d) .nl))))])
def rwB (x : List (List Int)) : Blk' := .cells 27 1 (.rows (.ints .u8) x)
def rwZ : Option (TypeId × Nat × Body) := some (27, 1, .rows (.ints .u8) [])
noncomputable def GR3 : Tab := (frzAt + 17, noC) :: GE
theorem GR3_ok : TabOk CX GR3 := .cons (noC_ok _) GE_ok
def nwI (n : Int) (i : Nat) : St := ⟨[(0, .c (.int .i64 n)), (3, .ptr (.l 0) 0 4 0), (4, .c (.int .i64 (i : Nat)))], [(0, rkB i i (-1) false), (1, rwB (List.replicate i zS)), (2, rwB (List.replicate i []))], 3, 32⟩
def nwF (n : Nat) : St := ⟨[(3, .ptr (.l 0) 0 4 0)], [(0, rkB n n (-1) false), (1, rwB (List.replicate n zS)), (2, rwB (List.replicate n []))], 3, 32⟩
def nwS (n w : Int) (x y : List (List Int)) : Option St := some ⟨[(0, .c (.int .i64 n)), (3, .ptr (.l 0) 0 4 0), (4, .c (.int .i64 w))], [(0, rkB x.length y.length (-1) false), (1, rwB x), (2, rwB y)], 3, 32⟩
theorem nw_step (n : Int) (i : Nat) (h : i < 4096) : nwS n (IntKind.i64.wrap ((i : Int) + 1)) (List.replicate i zS ++ [zS]) (List.replicate i [] ++ [[]]) = some (nwI n (i + 1)) := by
 rw [wi (by omega), ← List.replicate_succ', ← List.replicate_succ']
 unfold nwS nwI
 rw [List.length_replicate, List.length_replicate]; rfl
theorem fits24 {x : List (List Int)} (h : x.length ≤ 1000000) : (Nat.ble ((x.length + 1) * 24) 140737488355328 && Nat.ble (x.length + 1) 4611686018427387904) = true := by
 simp; omega
theorem r13new_l0 {X : Snap} (hX : ∀ b L, X.ι b = some L → b < 0) (n : Int) : LOk CX X 0 (loopAt 0 Tryz.f32) (loopW 0 [.blk 0 0 rwZ, .blk 0 1 rwZ] [0, 3, 4] (nwI n 0) (0 ≤ n ∧ n ≤ 4096) false (nwF n.toNat)) := by
 refine loopW_ok hmo GR3_ok (by kernel_rfl) hX [3] [] (nwI n) (fun i => i ≤ n.toNat) (fun i => n.toNat - i) 0 (fun _ => rfl) (fun _ => by omega) ?_
 intro hp i hi hfa
 refine ⟨[], 999, ?_⟩
 refine ⟨bif decide ((Nat.cast (R := Int) i) < n) then bif (((Body.rows (Tag.ints IntKind.u8) (List.replicate i zS)).len + 1) * 24).ble 140737488355328 && ((Body.rows (Tag.ints IntKind.u8) (List.replicate i zS)).len + 1).ble 4611686018427387904 then bif (((Body.rows (Tag.ints IntKind.u8) (List.replicate i [])).len + 1) * 24).ble 140737488355328 && ((Body.rows (Tag.ints IntKind.u8) (List.replicate i [])).len + 1).ble 4611686018427387904 then ∃ (v' : Nat), some (St.mk [(0, AV.c (CV.int IntKind.i64 n)), (3, AV.ptr (Base.l 0) 0 4 0), (4, AV.c (CV.int IntKind.i64 (IntKind.i64.wrap ((Nat.cast (R := Int) i) + 1))))] [(0, Blk'.cells 113 4 (Body.els [(AV.own 1 1 (Body.rows (Tag.ints IntKind.u8) (List.replicate i zS ++ [(List.replicate 64 0)])).len).pr ((AV.own 2 1 (Body.rows (Tag.ints IntKind.u8) (List.replicate i [] ++ [[]])).len).pr (AV.c ((CV.int IntKind.i64 (-1)).pr ((CV.bool false).pr CV.nl))))])), (1, Blk'.cells 27 1 (Body.rows (Tag.ints IntKind.u8) (List.replicate i zS ++ [(List.replicate 64 0)]))), (2, Blk'.cells 27 1 (Body.rows (Tag.ints IntKind.u8) (List.replicate i [] ++ [[]])))] 3 32) = some (nwI n v') ∧ n.toNat - v' < n.toNat - i ∧ v' ≤ n.toNat else False else False else false = false ∧ some (St.mk [(3, AV.ptr (Base.l 0) 0 4 0)] [(0, Blk'.cells 113 4 (Body.els [(AV.own 1 1 i).pr ((AV.own 2 1 i).pr (AV.c ((CV.int IntKind.i64 (-1)).pr ((CV.bool false).pr CV.nl))))])), (1, Blk'.cells 27 1 (Body.rows (Tag.ints IntKind.u8) (List.replicate i zS))), (2, Blk'.cells 27 1 (Body.rows (Tag.ints IntKind.u8) (List.replicate i [])))] 3 32) = some (nwF n.toNat), by kernel_rfl, ?_⟩
 have hp : 0 ≤ n ∧ n ≤ 4096 := hp
 have hi : i ≤ n.toNat := hi
 refine cond_intro (fun h => ?_) (fun h => ?_)
 ·simp at h
  exact cond_at (fits24 (x := List.replicate i zS) (by rw [List.length_replicate]; omega)) <| cond_at (fits24 (x := List.replicate i []) (by rw [List.length_replicate]; omega)) ⟨i + 1, nw_step n i (by omega), by omega, by omega⟩
 ·simp at h
  have e : i = n.toNat := by omega
  subst e; exact ⟨rfl, rfl⟩
noncomputable def r13NewS : FSpec := fun xs bl => match xs, bl with
 | [.c (.int .i64 n)], [] => some (some (0 ≤ n ∧ n ≤ 4096), ⟨.ptr (.l 0) 0 4 0, [], [rkB n.toNat n.toNat (-1) false, rwB (List.replicate n.toNat zS), rwB (List.replicate n.toNat [])]⟩)
 | _, _ => none
theorem r13New_ok : FnOk CX 32 r13NewS := by
 refine fnOkF hmo GR3_ok (fn := Tryz.f32) (c := bodyOf' Tryz.f32) (by kernel_rfl) (by kernel_rfl) (by kernel_rfl) ?_
 intro xs bl p o hF hp
 unfold r13NewS at hF
 split at hF
 ·rename_i n
  injection hF with hF; injection hF with e1 e2; subst e1; subst e2
  have hp : 0 ≤ n ∧ n ≤ 4096 := hp
  refine ⟨Nat.le_of_ble_eq_true (by kernel_rfl), fun X hX hfa => ⟨[(0, loopW 0 [.blk 0 0 rwZ, .blk 0 1 rwZ] [0, 3, 4] (nwI n 0) (0 ≤ n ∧ n ≤ 4096) false (nwF n.toNat))], 999, ?_⟩⟩
  refine ⟨LOk CX X 0 (loopAt 0 Tryz.f32) (loopW 0 [Path.blk 0 0 rwZ, Path.blk 0 1 rwZ] [0, 3, 4] (nwI n 0) (0 ≤ n ∧ n ≤ 4096) false (nwF n.toNat)) ∧ some (St.mk [(0, AV.c (CV.int IntKind.i64 n)), (3, AV.ptr (Base.l 0) 0 4 0), (4, AV.c (CV.int IntKind.i64 0))] [(0, Blk'.cells 113 4 (Body.els [(AV.own 1 1 0).pr ((AV.own 2 1 0).pr (AV.c ((CV.int IntKind.i64 (-1)).pr ((CV.bool false).pr CV.nl))))])), (1, Blk'.cells 27 1 (Body.rows (Tag.ints IntKind.u8) [])), (2, Blk'.cells 27 1 (Body.rows (Tag.ints IntKind.u8) []))] 3 32) = some (nwI n 0) ∧ (0 ≤ n ∧ n ≤ 4096) ∧ some (Out.mk (AV.ptr (Base.l 0) 0 4 0) [] [Blk'.cells 113 4 (Body.els [(AV.own 1 1 n.toNat).pr ((AV.own 2 1 n.toNat).pr (AV.c ((CV.int IntKind.i64 (-1)).pr ((CV.bool false).pr CV.nl))))]), Blk'.cells 27 1 (Body.rows (Tag.ints IntKind.u8) (List.replicate n.toNat zS)), Blk'.cells 27 1 (Body.rows (Tag.ints IntKind.u8) (List.replicate n.toNat []))]) = some (Out.mk (AV.ptr (Base.l 0) 0 4 0) [] [rkB n.toNat n.toNat (-1) false, rwB (List.replicate n.toNat zS), rwB (List.replicate n.toNat [])]), by kernel_rfl, ?_⟩
  exact ⟨r13new_l0 hX n, rfl, hp, rfl⟩
 ·cases hF
def rrL (L W : List (List Int)) (a : Nat) (d : Bool) (i : Int) : List Int := bif d then [] else bif decide (i < 0) || decide (i ≥ (a : Nat)) then [] else bif decide (((W.getD i.toNat []).length : Int) > 0) then W.getD i.toNat [] else L.getD i.toNat []
def rrO (a b : Nat) (f : Int) (d : Bool) (L W : List (List Int)) (l : List Int) (e : Int) : Option Out := some ⟨.t2 (.c (.ints .u8 l)) (.c (.int .i64 e)), [some (rkB a b f d), some (rwB L), some (rwB W)], []⟩
def rrQ (a b : Nat) (f : Int) (d : Bool) (L W : List (List Int)) (i : Int) : Prop :=
 let A := fun l e => rrO a b f d L W l e = rrO a b f d L W (rrL L W a d i) (rdE a d i)
 cond d (A [] 6) <| cond (decide (i < 0)) (A [] 3) <| cond (decide (i ≥ (a : Nat))) (A [] 3) <| cond (decide (0 ≤ i) && decide (i < (b : Nat))) (cond (decide (((W.getD i.toNat []).length : Int) > 0)) (cond (decide (0 ≤ i) && decide (i < (b : Nat))) (A (W.getD i.toNat []) 0) False) (cond (decide (0 ≤ i) && decide (i < (a : Nat))) (A (L.getD i.toNat []) 0) False)) False
theorem rrQ_ok {a : Nat} {f : Int} {d : Bool} (L W : List (List Int)) (i : Int) : rrQ a a f d L W i := by
 unfold rrQ rrL rdE
 dsimp only
 refine cond_intro (fun h => by rw [h]; rfl) fun h => cond_intro (fun h1 => by rw [h, h1]; rfl) fun h1 => cond_intro (fun h2 => by rw [h, h1, h2]; rfl) fun h2 => ?_
 have hc : (decide (0 ≤ i) && decide (i < (a : Nat))) = true := by simp at h1 h2 ⊢; omega
 rw [h, h1, h2]
 exact cond_at hc (cond_intro (fun h3 => cond_at hc (by rw [h3]; rfl)) (fun h3 => cond_at hc (by rw [h3]; rfl)))
noncomputable def r13ReadS : FSpec := fun xs bl => match xs, bl with
 | [.ptr (.l 0) 0 4 0, .c (.int .i64 i)], [.cells 113 4 (.els [.pr (.own 1 1 a) (.pr (.own 2 1 b) (.c (.pr (.int .i64 f) (.pr (.bool d) .nl))))]), .cells 27 1 (.rows (.ints .u8) L), .cells 27 1 (.rows (.ints .u8) W)] => some (some (a = b), ⟨.t2 (.c (.ints .u8 (rrL L W a d i))) (.c (.int .i64 (rdE a d i))), [some (rkB a b f d), some (rwB L), some (rwB W)], []⟩)
 | _, _ => none
theorem r13Read_ok : FnOk CX 120 r13ReadS := by
 refine fnOkR [.zero 4 (.ints .u8 [])] hmo GE_ok (fn := Tryz.f120) (c := bodyOf' Tryz.f120) (by kernel_rfl) (by kernel_rfl) (by kernel_rfl) ?_
 intro xs bl p o hF hp
 unfold r13ReadS at hF
 split at hF
 ·rename_i i a b f d L W
  injection hF with hF; injection hF with e1 e2; subst e1; subst e2
  have hp : a = b := hp
  subst hp
  refine ⟨Nat.le_of_ble_eq_true (by kernel_rfl), fun X hX hfa => ⟨[], 999, ?_⟩⟩
  exact ⟨rrQ a a f d L W i, by kernel_rfl, rrQ_ok L W i⟩
 ·cases hF
def few (L W : List (List Int)) : Prop := ∀ i, (L.getD i []).length ≤ 1000000 ∧ (W.getD i []).length ≤ 1000000
theorem rrL_len {L W : List (List Int)} (h : few L W) (a : Nat) (d : Bool) (i : Int) : (rrL L W a d i).length ≤ 1000000 := by
 unfold rrL
 cases d with
 | true => exact Nat.zero_le _
 | false =>
  cases decide (i < 0) || decide (i ≥ (a : Nat)) with
  | true => exact Nat.zero_le _
  | false =>
   cases decide (((W.getD i.toNat []).length : Int) > 0) with
   | true => exact (h _).2
   | false => exact (h _).1
noncomputable def r14L (L W : List (List Int)) (a : Nat) (d : Bool) (i : Int) : List Int := mkV (rrL L W a d i) (rrL L W a d (i + 1)) (rrL L W a d (i + 2))
noncomputable def GR4 : Tab := (120, lift [false, false] r13ReadS) :: (117, lift [true, true] rSameS) :: GE
theorem GR4_ok : TabOk CX GR4 := .cons (lift_ok r13Read_ok _) <| .cons (lift_ok rSame_ok _) GE_ok
def r14O (a b : Nat) (f : Int) (d : Bool) (L W : List (List Int)) (l : List Int) (e : Int) : Option Out := some ⟨.t2 (.c (.ints .u8 l)) (.c (.int .i64 e)), [some (rkB a b f d), some (rwB L), some (rwB W)], []⟩
def r14Q (a : Nat) (f : Int) (d : Bool) (L W : List (List Int)) (i j k : Int) : Prop :=
 let A := fun l e => r14O a a f d L W l e = r14O a a f d L W (bif mkE a d i == 0 then r14L L W a d i else []) (mkE a d i)
 let R := rrL L W a d
 a = a ∧ cond (rdE a d i != 0) (A [] (rdE a d i)) (a = a ∧ cond (rdE a d j != 0) (A [] (rdE a d j)) (a = a ∧ cond (rdE a d k != 0) (A [] (rdE a d k)) (((R j).length ≤ 1000000000 ∧ (R k).length ≤ 1000000000) ∧ cond (sameB (R j) (R k)) (A (R k) 0) (A (R i) 0))))
theorem r14Q_ok {a : Nat} {f : Int} {d : Bool} {i : Int} (L W : List (List Int)) (h0 : 0 ≤ i) (hl : few L W) : r14Q a f d L W i (i + 1) (i + 2) := by
 unfold r14Q mkE or0
 dsimp only
 have hr := rrL_len hl a d
 refine ⟨rfl, cond_intro (fun h => ?_) fun h => ⟨rfl, cond_intro (fun h1 => ?_) fun h1 => ⟨rfl, cond_intro (fun h2 => ?_) fun h2 => ⟨⟨Nat.le_trans (hr _) (by omega), Nat.le_trans (hr _) (by omega)⟩, ?_⟩⟩⟩⟩
 ·have h' : (rdE a d i == 0) = false := by simpa using h
  rw [h', cond_false, h', cond_false]
 ·have h' : (rdE a d i == 0) = true := by simpa using h
  have h1' : (rdE a d (i + 1) == 0) = false := by simpa using h1
  rw [h', h1', cond_true, cond_false, h1', cond_false]
 ·have h' : (rdE a d i == 0) = true := by simpa using h
  have h1' : (rdE a d (i + 1) == 0) = true := by simpa using h1
  have h2' : (rdE a d (i + 2) == 0) = false := by simpa using h2
  rw [h', h1', cond_true, cond_true, h2', cond_false]
 ·have h' : (rdE a d i == 0) = true := by simpa using h
  have h1' : (rdE a d (i + 1) == 0) = true := by simpa using h1
  have h2' : rdE a d (i + 2) = 0 := by simpa using h2
  rw [h', h1', cond_true, cond_true, h2']
  show cond _ (r14O a a f d L W _ 0 = r14O a a f d L W (r14L L W a d i) 0) (r14O a a f d L W _ 0 = r14O a a f d L W (r14L L W a d i) 0)
  unfold r14L mkV
  exact cond_intro (fun h3 => by rw [h3]; rfl) (fun h3 => by rw [h3]; rfl)
noncomputable def r14LoadS : FSpec := fun xs bl => match xs, bl with
 | [.ptr (.l 0) 0 4 0, .c (.int .i64 i)], [.cells 113 4 (.els [.pr (.own 1 1 a) (.pr (.own 2 1 b) (.c (.pr (.int .i64 f) (.pr (.bool d) .nl))))]), .cells 27 1 (.rows (.ints .u8) L), .cells 27 1 (.rows (.ints .u8) W)] => some (some (a = b ∧ (0 ≤ i ∧ i ≤ 1000000) ∧ few L W), ⟨.t2 (.c (.ints .u8 (bif mkE a d i == 0 then r14L L W a d i else []))) (.c (.int .i64 (mkE a d i))), [some (rkB a b f d), some (rwB L), some (rwB W)], []⟩)
 | _, _ => none
theorem r14Load_ok : FnOk CX 34 r14LoadS := by
 refine fnOkR [.zero 4 (.ints .u8 [])] hmo GR4_ok (fn := Tryz.f34) (c := bodyOf' Tryz.f34) (by kernel_rfl) (by kernel_rfl) (by kernel_rfl) ?_
 intro xs bl p o hF hp
 unfold r14LoadS at hF
 split at hF
 ·rename_i i a b f d L W
  injection hF with hF; injection hF with e1 e2; subst e1; subst e2
  obtain ⟨rfl, hi, hl⟩ : a = b ∧ (0 ≤ i ∧ i ≤ 1000000) ∧ few L W := hp
  refine ⟨Nat.le_of_ble_eq_true (by kernel_rfl), fun X hX hfa => ⟨[], 999, ?_⟩⟩
  refine ⟨r14Q a f d L W i (IntKind.i64.wrap (i + 1)) (IntKind.i64.wrap (i + 2)), by kernel_rfl, ?_⟩
  rw [wi (by omega), wi (by omega)]
  exact r14Q_ok L W hi.1 hl
 ·cases hF
noncomputable def GR5 : Tab := (34, lift [false, false] r14LoadS) :: GR4
theorem GR5_ok : TabOk CX GR5 := .cons (lift_ok r14Load_ok _) GR4_ok
def steadyR (L W : List (List Int)) (a : Nat) (d : Bool) (i : Int) : Prop := rrL L W a d i = rrL L W a d (i + 1) ∧ rrL L W a d (i + 1) = rrL L W a d (i + 2)
theorem mkE_zero {n : Nat} {d : Bool} {i : Int} (h : mkE n d i = 0) : rdE n d i = 0 ∧ rdE n d (i + 1) = 0 ∧ rdE n d (i + 2) = 0 := by
 have key : ∀ a b : Int, or0 a b = 0 → a = 0 ∧ b = 0 := fun a b h => by
  unfold or0 at h
  cases e : a == 0 with
  | true => rw [e] at h; exact ⟨by simpa using e, h⟩
  | false => rw [e] at h; rw [show a = 0 from h] at e; cases e
 obtain ⟨h1, h2⟩ := key _ _ h
 exact ⟨h1, key _ _ h2⟩
noncomputable def r14Mend0S : FSpec := fun xs bl => match xs, bl with
 | [.ptr (.l 0) 0 4 0, .c (.int .i64 i)], [.cells 113 4 (.els [.pr (.own 1 1 a) (.pr (.own 2 1 b) (.c (.pr (.int .i64 f) (.pr (.bool d) .nl))))]), .cells 27 1 (.rows (.ints .u8) L), .cells 27 1 (.rows (.ints .u8) W)] => some (some (a = b ∧ (0 ≤ i ∧ i ≤ 1000000) ∧ few L W ∧ steadyR L W a d i ∧ mkE a d i = 0), ⟨.c (.int .i64 0), [some (rkB a b f d), some (rwB L), some (rwB W)], []⟩)
 | _, _ => none
theorem r14Mend0_ok : FnOk CX 116 r14Mend0S := by
 refine fnOkF hmo GR5_ok (fn := Tryz.f116) (c := bodyOf' Tryz.f116) (by kernel_rfl) (by kernel_rfl) (by kernel_rfl) ?_
 intro xs bl p o hF hp
 unfold r14Mend0S at hF
 split at hF
 ·rename_i i a b f d L W
  injection hF with hF; injection hF with e1 e2; subst e1; subst e2
  obtain ⟨rfl, hi, hl, hs, h0⟩ : a = b ∧ (0 ≤ i ∧ i ≤ 1000000) ∧ few L W ∧ steadyR L W a d i ∧ mkE a d i = 0 := hp
  refine ⟨Nat.le_of_ble_eq_true (by kernel_rfl), fun X hX hfa => ⟨[], 999, ?_⟩⟩
  refine ⟨(a = a ∧ (0 ≤ i ∧ i ≤ 1000000) ∧ few L W) ∧ bif mkE a d i != 0 then some (Out.mk (AV.c (CV.int IntKind.i64 (mkE a d i))) [some (Blk'.cells 113 4 (Body.els [(AV.own 1 1 a).pr ((AV.own 2 1 a).pr (AV.c ((CV.int IntKind.i64 f).pr ((CV.bool d).pr CV.nl))))])), some (Blk'.cells 27 1 (Body.rows (Tag.ints IntKind.u8) L)), some (Blk'.cells 27 1 (Body.rows (Tag.ints IntKind.u8) W))] []) = some (Out.mk (AV.c (CV.int IntKind.i64 0)) [some (rkB a a f d), some (rwB L), some (rwB W)] []) else a = a ∧ bif rdE a d (IntKind.i64.wrap (i + 0)) != 0 then some (Out.mk (AV.c (CV.int IntKind.i64 (rdE a d (IntKind.i64.wrap (i + 0))))) [some (Blk'.cells 113 4 (Body.els [(AV.own 1 1 a).pr ((AV.own 2 1 a).pr (AV.c ((CV.int IntKind.i64 f).pr ((CV.bool d).pr CV.nl))))])), some (Blk'.cells 27 1 (Body.rows (Tag.ints IntKind.u8) L)), some (Blk'.cells 27 1 (Body.rows (Tag.ints IntKind.u8) W))] []) = some (Out.mk (AV.c (CV.int IntKind.i64 0)) [some (rkB a a f d), some (rwB L), some (rwB W)] []) else ((rrL L W a d (IntKind.i64.wrap (i + 0))).length ≤ 1000000000 ∧ (bif mkE a d i == 0 then r14L L W a d i else []).length ≤ 1000000000) ∧ bif sameB (rrL L W a d (IntKind.i64.wrap (i + 0))) (bif mkE a d i == 0 then r14L L W a d i else []) then a = a ∧ bif rdE a d (IntKind.i64.wrap (i + 1)) != 0 then some (Out.mk (AV.c (CV.int IntKind.i64 (rdE a d (IntKind.i64.wrap (i + 1))))) [some (Blk'.cells 113 4 (Body.els [(AV.own 1 1 a).pr ((AV.own 2 1 a).pr (AV.c ((CV.int IntKind.i64 f).pr ((CV.bool d).pr CV.nl))))])), some (Blk'.cells 27 1 (Body.rows (Tag.ints IntKind.u8) L)), some (Blk'.cells 27 1 (Body.rows (Tag.ints IntKind.u8) W))] []) = some (Out.mk (AV.c (CV.int IntKind.i64 0)) [some (rkB a a f d), some (rwB L), some (rwB W)] []) else ((rrL L W a d (IntKind.i64.wrap (i + 1))).length ≤ 1000000000 ∧ (bif mkE a d i == 0 then r14L L W a d i else []).length ≤ 1000000000) ∧ bif sameB (rrL L W a d (IntKind.i64.wrap (i + 1))) (bif mkE a d i == 0 then r14L L W a d i else []) then a = a ∧ bif rdE a d (IntKind.i64.wrap (i + 2)) != 0 then some (Out.mk (AV.c (CV.int IntKind.i64 (rdE a d (IntKind.i64.wrap (i + 2))))) [some (Blk'.cells 113 4 (Body.els [(AV.own 1 1 a).pr ((AV.own 2 1 a).pr (AV.c ((CV.int IntKind.i64 f).pr ((CV.bool d).pr CV.nl))))])), some (Blk'.cells 27 1 (Body.rows (Tag.ints IntKind.u8) L)), some (Blk'.cells 27 1 (Body.rows (Tag.ints IntKind.u8) W))] []) = some (Out.mk (AV.c (CV.int IntKind.i64 0)) [some (rkB a a f d), some (rwB L), some (rwB W)] []) else ((rrL L W a d (IntKind.i64.wrap (i + 2))).length ≤ 1000000000 ∧ (bif mkE a d i == 0 then r14L L W a d i else []).length ≤ 1000000000) ∧ bif sameB (rrL L W a d (IntKind.i64.wrap (i + 2))) (bif mkE a d i == 0 then r14L L W a d i else []) then some (Out.mk (AV.c (CV.int IntKind.i64 0)) [some (Blk'.cells 113 4 (Body.els [(AV.own 1 1 a).pr ((AV.own 2 1 a).pr (AV.c ((CV.int IntKind.i64 f).pr ((CV.bool d).pr CV.nl))))])), some (Blk'.cells 27 1 (Body.rows (Tag.ints IntKind.u8) L)), some (Blk'.cells 27 1 (Body.rows (Tag.ints IntKind.u8) W))] []) = some (Out.mk (AV.c (CV.int IntKind.i64 0)) [some (rkB a a f d), some (rwB L), some (rwB W)] []) else False else False else False, by kernel_rfl, ?_⟩
  obtain ⟨z0, z1, z2⟩ := mkE_zero h0
  have hr := rrL_len hl a d
  have hv : r14L L W a d i = rrL L W a d (i + 2) := by unfold r14L; rw [hs.1, hs.2]; unfold mkV; cases sameB (rrL L W a d (i + 2)) (rrL L W a d (i + 2)) <;> rfl
  have e : sameB (rrL L W a d (i + 2)) (rrL L W a d (i + 2)) = true := by rw [sameB_eq]; simp
  have hb : (rrL L W a d (i + 2)).length ≤ 1000000000 := Nat.le_trans (hr _) (by omega)
  rw [wi (x := i + 0) (by omega), wi (x := i + 1) (by omega), wi (x := i + 2) (by omega), Int.add_zero, h0, z0, z1, z2, hv, hs.1, hs.2]
  exact ⟨⟨rfl, hi, hl⟩, cond_no rfl ⟨rfl, cond_no rfl ⟨⟨hb, hb⟩, cond_at e ⟨rfl, cond_no rfl ⟨⟨hb, hb⟩, cond_at e ⟨rfl, cond_no rfl ⟨⟨hb, hb⟩, cond_at e rfl⟩⟩⟩⟩⟩⟩⟩
 ·cases hF
end Go.Proofs.YtffdoihhjfjgoaaGreatDoor
/- The layer text: names. -/
namespace Go.Proofs.YtffdoihhjfjgoaaGreatDoor
open Go Go.Ab Go.RowKit Go.Chr
set_option maxRecDepth 100000
def nameC (c : Int) : Bool := (decide (c ≥ 65) && decide (c ≤ 90)) || ((decide (c ≥ 97) && decide (c ≤ 122)) || ((decide (c ≥ 48) && decide (c ≤ 57)) || ((c == 46) || ((c == 45) || (c == 47)))))
def nameB (l : List Int) : Bool := l.all nameC && (decide ((l.length : Int) ≥ 1) && decide ((l.length : Int) ≤ 40))
def orQ (a b : Bool) (Y R : Prop) : Prop := cond a (cond b Y R) R
theorem orQ_of {a b : Bool} {Y R : Prop} (hy : (a && b) = true → Y) (hr : (a && b) = false → R) : orQ a b Y R := by
 cases a <;> cases b <;> first | exact hy rfl | exact hr rfl
def nmQ (c : Int) (Y N : Prop) : Prop := orQ (decide (c ≥ 65)) (decide (c ≤ 90)) Y <| orQ (decide (c ≥ 97)) (decide (c ≤ 122)) Y <| orQ (decide (c ≥ 48)) (decide (c ≤ 57)) Y <| cond (c == 46) Y <| cond (c == 45) Y <| cond (!(c == 47)) N Y
theorem nmQ_of {c : Int} {Y N : Prop} (hy : nameC c = true → Y) (hn : nameC c = false → N) : nmQ c Y N := by
 unfold nmQ
 unfold nameC at hy hn
 refine orQ_of (fun h => hy (by rw [h]; rfl)) fun h1 => orQ_of (fun h => hy (by rw [h1, h]; rfl)) fun h2 => orQ_of (fun h => hy (by rw [h1, h2, h]; rfl)) fun h3 => ?_
 rw [h1, h2, h3] at hy hn
 cases h4 : c == 46 with
 | true => exact hy (by rw [h4]; rfl)
 | false =>
  cases h5 : c == 45 with
  | true => exact hy (by rw [h4, h5]; rfl)
  | false =>
   cases h6 : c == 47 with
   | true => exact hy (by rw [h4, h5, h6]; rfl)
   | false => exact hn (by rw [h4, h5, h6]; rfl)
def nmT (l : List Int) (i : Int) : St := ⟨[(0, .c (.str l)), (6, .c (.int .i64 (l.length : Nat))), (7, .c (.int .i64 i))], [], 0, 57⟩
def nmI (l : List Int) (i : Nat) : St := nmT l (i : Nat)
def nmF (l : List Int) : St := ⟨[(0, .c (.str l))], [], 0, 57⟩
def nmR : St := ⟨[(2, .c (.bool false))], [], 0, 57⟩
def nmY (l : List Int) (i : Nat) : Prop := ∃ k, some (nmT l (IntKind.i64.wrap ((i : Int) + 1))) = some (nmI l k) ∧ l.length - k < l.length - i ∧ k ≤ l.length ∧ ∀ j, j < k → nameC (l.getD j 0) = true
def nmN (l : List Int) : Prop := (!l.all nameC) = true ∧ some nmR = some nmR
theorem name_l0 {X : Snap} (hX : ∀ b L, X.ι b = some L → b < 0) (l : List Int) : LOk CX X 0 (loopAt 0 Tryz.f77) (loopR 0 [] [0, 6, 7] (nmI l 0) (l.length ≤ 1000000000) (!l.all nameC) (nmF l) nmR) := by
 refine loopR_ok hmo GE_ok (by kernel_rfl) hX [] [0] [2] (nmI l) (fun i => i ≤ l.length ∧ ∀ j, j < i → nameC (l.getD j 0) = true) (fun i => l.length - i) 0 (fun _ => rfl) (fun _ => ⟨by omega, fun j h => by omega⟩) ?_
 intro hp i hi hfa
 refine ⟨[], 999, ?_⟩
 refine ⟨cond (decide ((i : Int) < (l.length : Nat))) (cond (decide ((i : Int) < (l.length : Nat))) (nmQ (l.getD i 0) (nmY l i) (nmN l)) False) ((!l.all nameC) = false ∧ some (nmF l) = some (nmF l)), by kernel_rfl, ?_⟩
 have hp : l.length ≤ 1000000000 := hp
 obtain ⟨hi, hno⟩ : i ≤ l.length ∧ ∀ j, j < i → nameC (l.getD j 0) = true := hi
 refine cond_intro (fun h => cond_at h (nmQ_of (fun hc => ?_) (fun hc => ?_))) (fun h => ?_)
 ·have h := of_decide_eq_true h
  refine ⟨i + 1, by rw [wi (by omega)]; rfl, by omega, by omega, fun j hj => ?_⟩
  by_cases hji : j = i
  ·subst hji; exact hc
  ·exact hno j (by omega)
 ·have h := of_decide_eq_true h
  refine ⟨?_, rfl⟩
  have hlt : i < l.length := by omega
  cases ha : l.all nameC with
  | false => rfl
  | true =>
   have := List.all_eq_true.1 ha (l.getD i 0) (by rw [List.getD_eq_getElem?_getD, List.getElem?_eq_getElem hlt]; exact List.getElem_mem hlt)
   rw [hc] at this; cases this
 ·have h := of_decide_eq_false h
  refine ⟨?_, rfl⟩
  have ha : l.all nameC = true := List.all_eq_true.2 fun x hx => by
   obtain ⟨j, hj, rfl⟩ := List.getElem_of_mem hx
   have := hno j (by omega)
   rwa [List.getD_eq_getElem?_getD, List.getElem?_eq_getElem hj] at this
  rw [ha]; rfl
noncomputable def tNameS : FSpec := fun xs bl => match xs, bl with
 | [.c (.str l)], [] => some (some (l.length ≤ 1000000000), ⟨.c (.bool (nameB l)), [], []⟩)
 | _, _ => none
theorem tName_ok : FnOk CX 77 tNameS := by
 refine fnOkF hmo GE_ok (fn := Tryz.f77) (c := bodyOf' Tryz.f77) (by kernel_rfl) (by kernel_rfl) (by kernel_rfl) ?_
 intro xs bl p o hF hp
 unfold tNameS at hF
 split at hF
 ·rename_i l
  injection hF with hF; injection hF with e1 e2; subst e1; subst e2
  have hp : l.length ≤ 1000000000 := hp
  refine ⟨Nat.le_of_ble_eq_true (by kernel_rfl), fun X hX hfa => ⟨[(0, loopR 0 [] [0, 6, 7] (nmI l 0) (l.length ≤ 1000000000) (!l.all nameC) (nmF l) nmR)], 999, ?_⟩⟩
  refine ⟨LOk CX X 0 (loopAt 0 Tryz.f77) (loopR 0 [] [0, 6, 7] (nmI l 0) (l.length ≤ 1000000000) (!l.all nameC) (nmF l) nmR) ∧ some (St.mk [(0, AV.c (CV.str l)), (6, AV.c (CV.int IntKind.i64 (Nat.cast (R := Int) l.length))), (7, AV.c (CV.int IntKind.i64 0))] [] 0 57) = some (nmI l 0) ∧ l.length ≤ 1000000000 ∧ bif !l.all nameC then some (Out.mk (AV.c (CV.bool false)) [] []) = some (Out.mk (AV.c (CV.bool (nameB l))) [] []) else bif decide ((Nat.cast (R := Int) l.length) ≥ 1) then some (Out.mk (AV.c (CV.bool (decide ((Nat.cast (R := Int) l.length) ≤ 40)))) [] []) = some (Out.mk (AV.c (CV.bool (nameB l))) [] []) else some (Out.mk (AV.c (CV.bool false)) [] []) = some (Out.mk (AV.c (CV.bool (nameB l))) [] []), by kernel_rfl, ?_⟩
  refine ⟨name_l0 hX l, rfl, hp, ?_⟩
  unfold nameB
  cases l.all nameC <;> cases decide ((l.length : Int) ≥ 1) <;> rfl
 ·cases hF
end Go.Proofs.YtffdoihhjfjgoaaGreatDoor
/- The reference ref04: names. -/
namespace Go.Proofs.YtffdoihhjfjgoaaGreatDoor
open Go Go.Ab Go.RowKit Go.Chr
set_option maxRecDepth 100000
theorem nameC_iff (c : Int) : nameC c = true ↔ (65 ≤ c ∧ c ≤ 90) ∨ (97 ≤ c ∧ c ≤ 122) ∨ (45 ≤ c ∧ c ≤ 57) := by
 unfold nameC
 simp only [Bool.or_eq_true, Bool.and_eq_true, decide_eq_true_eq, beq_iff_eq]
 omega
def rnQ (c : Int) (Y N : Prop) : Prop :=
 let E := cond (decide (c ≥ 45)) (cond (!decide (c ≤ 57)) N Y) N
 cond (decide (c ≥ 97)) (cond (decide (c ≥ 65)) (cond (!decide (c ≤ 122)) (cond (!decide (c ≤ 90)) E Y) Y) (cond (!decide (c ≤ 122)) E Y)) (cond (decide (c ≥ 65)) (cond (!decide (c ≤ 90)) E Y) E)
theorem rnQ_of {c : Int} {Y N : Prop} (hy : nameC c = true → Y) (hn : nameC c = false → N) : rnQ c Y N := by
 have hy' : (65 ≤ c ∧ c ≤ 90) ∨ (97 ≤ c ∧ c ≤ 122) ∨ (45 ≤ c ∧ c ≤ 57) → Y := fun h => hy ((nameC_iff c).2 h)
 have hn' : ¬ ((65 ≤ c ∧ c ≤ 90) ∨ (97 ≤ c ∧ c ≤ 122) ∨ (45 ≤ c ∧ c ≤ 57)) → N := fun h => hn (by
  cases e : nameC c with
  | false => rfl
  | true => exact absurd ((nameC_iff c).1 e) h)
 have hE : (decide (c ≥ 65) && decide (c ≤ 90)) = false → (decide (c ≥ 97) && decide (c ≤ 122)) = false → cond (decide (c ≥ 45)) (cond (!decide (c ≤ 57)) N Y) N := fun h1 h2 => by
  simp only [Bool.and_eq_false_iff, decide_eq_false_iff_not] at h1 h2
  refine cond_intro (fun h => cond_intro (fun h3 => hn' ?_) (fun h3 => hy' ?_)) (fun h => hn' ?_) <;> simp at * <;> omega
 unfold rnQ
 refine cond_intro (fun a => cond_intro (fun b => cond_intro (fun d => cond_intro (fun e => hE ?_ ?_) (fun e => hy' ?_)) (fun d => hy' ?_)) (fun b => cond_intro (fun d => hE ?_ ?_) (fun d => hy' ?_))) (fun a => cond_intro (fun b => cond_intro (fun d => hE ?_ ?_) (fun d => hy' ?_)) (fun b => hE ?_ ?_)) <;> simp at * <;> omega
def rnT (l : List Int) (i : Int) : St := ⟨[(0, .c (.str l)), (3, .c (.int .i64 i))], [], 0, 51⟩
def rnI (l : List Int) (i : Nat) : St := rnT l (i : Nat)
def rnF (l : List Int) : St := ⟨[(0, .c (.str l))], [], 0, 51⟩
def rnR : St := ⟨[(2, .c (.bool false))], [], 0, 51⟩
def rnY (l : List Int) (i : Nat) : Prop := ∃ k, some (rnT l (IntKind.i64.wrap ((i : Int) + 1))) = some (rnI l k) ∧ l.length - k < l.length - i ∧ k ≤ l.length ∧ ∀ j, j < k → nameC (l.getD j 0) = true
theorem rname_l0 {X : Snap} (hX : ∀ b L, X.ι b = some L → b < 0) (l : List Int) : LOk CX X 0 (loopAt 0 Tryz.f63) (loopR 0 [] [0, 3] (rnI l 0) (l.length ≤ 1000000000) (!l.all nameC) (rnF l) rnR) := by
 refine loopR_ok hmo GE_ok (by kernel_rfl) hX [] [0] [2] (rnI l) (fun i => i ≤ l.length ∧ ∀ j, j < i → nameC (l.getD j 0) = true) (fun i => l.length - i) 0 (fun _ => rfl) (fun _ => ⟨by omega, fun j h => by omega⟩) ?_
 intro hp i hi hfa
 refine ⟨[], 999, ?_⟩
 refine ⟨cond (decide ((i : Int) < (l.length : Nat))) (cond (decide ((i : Int) < (l.length : Nat))) (rnQ (l.getD i 0) (rnY l i) ((!l.all nameC) = true ∧ some rnR = some rnR)) False) ((!l.all nameC) = false ∧ some (rnF l) = some (rnF l)), by kernel_rfl, ?_⟩
 have hp : l.length ≤ 1000000000 := hp
 obtain ⟨hi, hno⟩ : i ≤ l.length ∧ ∀ j, j < i → nameC (l.getD j 0) = true := hi
 refine cond_intro (fun h => cond_at h (rnQ_of (fun hc => ?_) (fun hc => ?_))) (fun h => ?_)
 ·have h := of_decide_eq_true h
  refine ⟨i + 1, by rw [wi (by omega)]; rfl, by omega, by omega, fun j hj => ?_⟩
  by_cases hji : j = i
  ·subst hji; exact hc
  ·exact hno j (by omega)
 ·have h := of_decide_eq_true h
  refine ⟨?_, rfl⟩
  have hlt : i < l.length := by omega
  cases ha : l.all nameC with
  | false => rfl
  | true =>
   have := List.all_eq_true.1 ha (l.getD i 0) (by rw [List.getD_eq_getElem?_getD, List.getElem?_eq_getElem hlt]; exact List.getElem_mem hlt)
   rw [hc] at this; cases this
 ·have h := of_decide_eq_false h
  refine ⟨?_, rfl⟩
  have ha : l.all nameC = true := List.all_eq_true.2 fun x hx => by
   obtain ⟨j, hj, rfl⟩ := List.getElem_of_mem hx
   have := hno j (by omega)
   rwa [List.getD_eq_getElem?_getD, List.getElem?_eq_getElem hj] at this
  rw [ha]; rfl
noncomputable def rNameS : FSpec := fun xs bl => match xs, bl with
 | [.c (.str l)], [] => some (some (l.length ≤ 1000000000), ⟨.c (.bool (nameB l)), [], []⟩)
 | _, _ => none
theorem rName_ok : FnOk CX 63 rNameS := by
 refine fnOkF hmo GE_ok (fn := Tryz.f63) (c := bodyOf' Tryz.f63) (by kernel_rfl) (by kernel_rfl) (by kernel_rfl) ?_
 intro xs bl p o hF hp
 unfold rNameS at hF
 split at hF
 ·rename_i l
  injection hF with hF; injection hF with e1 e2; subst e1; subst e2
  have hp : l.length ≤ 1000000000 := hp
  refine ⟨Nat.le_of_ble_eq_true (by kernel_rfl), fun X hX hfa => ⟨[(0, loopR 0 [] [0, 3] (rnI l 0) (l.length ≤ 1000000000) (!l.all nameC) (rnF l) rnR)], 999, ?_⟩⟩
  refine ⟨LOk CX X 0 (loopAt 0 Tryz.f63) (loopR 0 [] [0, 3] (rnI l 0) (l.length ≤ 1000000000) (!l.all nameC) (rnF l) rnR) ∧ some (St.mk [(0, AV.c (CV.str l)), (3, AV.c (CV.int IntKind.i64 0))] [] 0 51) = some (rnI l 0) ∧ l.length ≤ 1000000000 ∧ bif !l.all nameC then some (Out.mk (AV.c (CV.bool false)) [] []) = some (Out.mk (AV.c (CV.bool (nameB l))) [] []) else bif decide ((Nat.cast (R := Int) l.length) > 0) then some (Out.mk (AV.c (CV.bool (decide ((Nat.cast (R := Int) l.length) ≤ 40)))) [] []) = some (Out.mk (AV.c (CV.bool (nameB l))) [] []) else some (Out.mk (AV.c (CV.bool false)) [] []) = some (Out.mk (AV.c (CV.bool (nameB l))) [] []), by kernel_rfl, ?_⟩
  refine ⟨rname_l0 hX l, rfl, hp, ?_⟩
  unfold nameB
  have e : decide ((l.length : Int) > 0) = decide ((l.length : Int) ≥ 1) := by congr 1
  cases l.all nameC <;> rw [e] <;> cases decide ((l.length : Int) ≥ 1) <;> rfl
 ·cases hF
end Go.Proofs.YtffdoihhjfjgoaaGreatDoor
/- The layer sha512: a block. -/
namespace Go.Proofs.YtffdoihhjfjgoaaGreatDoor
open Go Go.Ab Go.RowKit Go.Chr
set_option maxRecDepth 100000
noncomputable def rot64S : FSpec := fun xs bl => match xs, bl with
 | [.c (.int .u64 x), .c (.int .i64 n)], [] => some (none, ⟨.c (.int .u64 (rotl64 x n)), [], []⟩)
 | _, _ => none
theorem rot64_ok : FnOk CX 353 rot64S := by
 refine fnOkF hmo GE_ok (fn := Tryz.f353) (c := bodyOf' Tryz.f353) (by kernel_rfl) (by kernel_rfl) (by kernel_rfl) ?_
 intro xs bl p o hF hp
 unfold rot64S at hF
 split at hF
 ·rename_i x n
  injection hF with hF; injection hF with e1 e2; subst e1; subst e2
  refine ⟨Nat.le_of_ble_eq_true (by kernel_rfl), fun X hX hfa => ⟨[], 999, ?_⟩⟩
  refine ⟨some (Out.mk (AV.c (CV.int IntKind.u64 (ior IntKind.u64 (ishl IntKind.u64 x (iand IntKind.u64 (IntKind.u64.wrap n) 63)) (ishr IntKind.u64 x (IntKind.u64.wrap (64 - iand IntKind.u64 (IntKind.u64.wrap n) 63)))))) [] []) = some (Out.mk (AV.c (CV.int IntKind.u64 (rotl64 x n))) [] []), by kernel_rfl, ?_⟩
  rfl
 ·cases hF
noncomputable def GS0 : Tab := [(353, lift [true, true] rot64S)]
theorem GS0_ok : TabOk CX GS0 := .cons (lift_ok rot64_ok _) .nil
noncomputable def right5S : FSpec := fun xs bl => match xs, bl with
 | [.c (.int .u64 x), .c (.int .i64 n)], [] => some (none, ⟨.c (.int .u64 (rotr64 x n)), [], []⟩)
 | _, _ => none
theorem right5_ok : FnOk CX 326 right5S := by
 refine fnOkF hmo GS0_ok (fn := Tryz.f326) (c := bodyOf' Tryz.f326) (by kernel_rfl) (by kernel_rfl) (by kernel_rfl) ?_
 intro xs bl p o hF hp
 unfold right5S at hF
 split at hF
 ·rename_i x n
  injection hF with hF; injection hF with e1 e2; subst e1; subst e2
  refine ⟨Nat.le_of_ble_eq_true (by kernel_rfl), fun X hX hfa => ⟨[], 999, ?_⟩⟩
  refine ⟨some (Out.mk (AV.c (CV.int IntKind.u64 (rotl64 x (IntKind.i64.wrap (0 - n))))) [] []) = some (Out.mk (AV.c (CV.int IntKind.u64 (rotr64 x n))) [] []), by kernel_rfl, ?_⟩
  rfl
 ·cases hF
noncomputable def GS1 : Tab := [(326, lift [true, true] right5S)]
theorem GS1_ok : TabOk CX GS1 := .cons (lift_ok right5_ok _) .nil
def t5I (s : List Int) (ls : List (Nat × AV)) (ws : List Int) : St :=
 ⟨(2, .ptr (.l 0) 0 8 0) :: (4, .ptr (.l 1) 0 8 0) :: (5, .ptr (.l 2) 0 80 0) :: ls, [(0, .cells 335 8 (.els [.c (.arr .u64 8 s)])), (1, .cells 335 8 (.els [.c (.arr .u64 8 (List.replicate 8 0))])), (2, .cells 353 80 (.els [.c (.arr .u64 80 ws)]))], 3, 202⟩
def inI (s l m ws : List Int) (t i : Nat) : St := t5I s [(1, .c (.ints .u8 l)), (6, .c (.int .i64 (t : Nat))), (23, .c (.int .i64 (t : Nat))), (32, .c (.ints .u8 m)), (33, .c (.int .i64 (m.length : Nat))), (34, .c (.int .i64 (i : Nat)))] (ws.set t (wd m i))
def inP (m ws : List Int) (t : Nat) : Prop := m.length = 8 ∧ t < 16 ∧ ws.length = 80
theorem in5_l2 {X : Snap} (hX : ∀ b L, X.ι b = some L → b < 0) (s l m ws : List Int) (t : Nat) : LOk CX X 2 (loopAt 2 Tryz.f295) (loopW 0 [] [2, 4, 5, 1, 6, 23, 32, 33, 34] (inI s l m ws t 0) (inP m ws t) false (t5I s [(1, .c (.ints .u8 l)), (23, .c (.int .i64 (t : Nat)))] (ws.set t (wd m 8)))) := by
 refine loopW_ok hmo GS1_ok (by kernel_rfl) hX [2, 4, 5, 1, 23] [] (inI s l m ws t) (fun i => i ≤ 8) (fun i => 8 - i) 0 (fun _ => rfl) (fun _ => by omega) ?_
 intro hp i hi hfa
 refine ⟨[], 999, ?_⟩
 refine ⟨bif decide ((Nat.cast (R := Int) i) < (Nat.cast (R := Int) m.length)) then bif decide ((Nat.cast (R := Int) i) < (Nat.cast (R := Int) m.length)) then bif decide ((Nat.cast (R := Int) t) < (Nat.cast (R := Int) 80)) then bif decide ((Nat.cast (R := Int) t) < (Nat.cast (R := Int) 80)) then ∃ (v' : Nat), some (St.mk [(2, AV.ptr (Base.l 0) 0 8 0), (4, AV.ptr (Base.l 1) 0 8 0), (5, AV.ptr (Base.l 2) 0 80 0), (1, AV.c (CV.ints IntKind.u8 l)), (6, AV.c (CV.int IntKind.i64 (Nat.cast (R := Int) t))), (23, AV.c (CV.int IntKind.i64 (Nat.cast (R := Int) t))), (32, AV.c (CV.ints IntKind.u8 m)), (33, AV.c (CV.int IntKind.i64 (Nat.cast (R := Int) m.length))), (34, AV.c (CV.int IntKind.i64 (IntKind.i64.wrap ((Nat.cast (R := Int) i) + 1))))] [(0, Blk'.cells 335 8 (Body.els [AV.c (CV.arr IntKind.u64 8 s)])), (1, Blk'.cells 335 8 (Body.els [AV.c (CV.arr IntKind.u64 8 (List.replicate 8 0))])), (2, Blk'.cells 353 80 (Body.els [AV.c (CV.arr IntKind.u64 80 ((ws.set t (wd m i)).set (0 + (Nat.cast (R := Int) t).toNat * 1) (ior IntKind.u64 (ishl IntKind.u64 ((ws.set t (wd m i)).getD (0 + (Nat.cast (R := Int) t).toNat * 1) 0) 8) (IntKind.u64.wrap (m.getD (Nat.cast (R := Int) i).toNat 0)))))]))] 3 202) = some (inI s l m ws t v') ∧ 8 - v' < 8 - i ∧ v' ≤ 8 else False else False else False else false = false ∧ some (St.mk [(2, AV.ptr (Base.l 0) 0 8 0), (4, AV.ptr (Base.l 1) 0 8 0), (5, AV.ptr (Base.l 2) 0 80 0), (1, AV.c (CV.ints IntKind.u8 l)), (23, AV.c (CV.int IntKind.i64 (Nat.cast (R := Int) t)))] [(0, Blk'.cells 335 8 (Body.els [AV.c (CV.arr IntKind.u64 8 s)])), (1, Blk'.cells 335 8 (Body.els [AV.c (CV.arr IntKind.u64 8 (List.replicate 8 0))])), (2, Blk'.cells 353 80 (Body.els [AV.c (CV.arr IntKind.u64 80 (ws.set t (wd m i)))]))] 3 202) = some (t5I s [(1, AV.c (CV.ints IntKind.u8 l)), (23, AV.c (CV.int IntKind.i64 (Nat.cast (R := Int) t)))] (ws.set t (wd m 8))), by kernel_rfl, ?_⟩
 obtain ⟨hm, ht, hw⟩ : m.length = 8 ∧ t < 16 ∧ ws.length = 80 := hp
 have hi : i ≤ 8 := hi
 simp only [Int.toNat_natCast, Nat.zero_add, Nat.mul_one]
 refine cond_intro (fun h => cond_at h (cond_at (by simp; omega) (cond_at (by simp; omega) ⟨i + 1, ?_, by simp at h; omega, by simp at h; omega⟩))) (fun h => ?_)
 ·simp at h
  have eg : (ws.set t (wd m i)).getD t 0 = wd m i := by rw [getD_set _ _ (by omega), if_pos rfl]
  rw [eg, List.set_set, wi (by omega)]
  show _ = _
  kernel_rfl
 ·simp at h
  obtain rfl : i = 8 := by omega
  exact ⟨trivial, by kernel_rfl⟩
theorem t5_l0 {X : Snap} (hX : ∀ b L, X.ι b = some L → b < 0) (s l : List Int) : LOk CX X 0 (loopAt 0 Tryz.f295) (loopW 0 [] [2, 4, 5, 1, 23] (t5I s [(1, .c (.ints .u8 l)), (23, .c (.int .i64 0))] (ws5 l 0)) (l.length = 128) false (t5I s [] (ws5 l 16))) := by
 refine loopW_ok hmo GS1_ok (by kernel_rfl) hX [2, 4, 5] [] (fun t : Nat => t5I s [(1, .c (.ints .u8 l)), (23, .c (.int .i64 t))] (ws5 l t)) (fun t => t ≤ 16) (fun t => 16 - t) 0 (fun _ => rfl) (fun _ => by omega) ?_
 intro hp t ht hfa
 refine ⟨[(2, loopW 0 [] [2, 4, 5, 1, 6, 23, 32, 33, 34] (inI s l ((l.drop (8 * t)).take 8) (ws5 l t) t 0) (inP ((l.drop (8 * t)).take 8) (ws5 l t) t) false (t5I s [(1, .c (.ints .u8 l)), (23, .c (.int .i64 (t : Nat)))] ((ws5 l t).set t (wd ((l.drop (8 * t)).take 8) 8))))], 999, ?_⟩
 refine ⟨bif decide ((Nat.cast (R := Int) t) < 16) then bif bndB l.length (some (IntKind.i64.wrap (8 * (Nat.cast (R := Int) t)))) (some (IntKind.i64.wrap (IntKind.i64.wrap (8 * (Nat.cast (R := Int) t)) + 8))) then LOk CX X 2 (loopAt 2 Tryz.f295) (loopW 0 [] [2, 4, 5, 1, 6, 23, 32, 33, 34] (inI s l (List.take 8 (List.drop (8 * t) l)) (ws5 l t) t 0) (inP (List.take 8 (List.drop (8 * t) l)) (ws5 l t) t) false (t5I s [(1, AV.c (CV.ints IntKind.u8 l)), (23, AV.c (CV.int IntKind.i64 (Nat.cast (R := Int) t)))] ((ws5 l t).set t (wd (List.take 8 (List.drop (8 * t) l)) 8)))) ∧ some (St.mk [(2, AV.ptr (Base.l 0) 0 8 0), (4, AV.ptr (Base.l 1) 0 8 0), (5, AV.ptr (Base.l 2) 0 80 0), (1, AV.c (CV.ints IntKind.u8 l)), (6, AV.c (CV.int IntKind.i64 (Nat.cast (R := Int) t))), (23, AV.c (CV.int IntKind.i64 (Nat.cast (R := Int) t))), (32, AV.c (CV.ints IntKind.u8 (List.take (natSub (hiB l.length (some (IntKind.i64.wrap (IntKind.i64.wrap (8 * (Nat.cast (R := Int) t)) + 8)))) (loB (some (IntKind.i64.wrap (8 * (Nat.cast (R := Int) t)))))) (List.drop (loB (some (IntKind.i64.wrap (8 * (Nat.cast (R := Int) t))))) l)))), (33, AV.c (CV.int IntKind.i64 (Nat.cast (R := Int) (List.take (natSub (hiB l.length (some (IntKind.i64.wrap (IntKind.i64.wrap (8 * (Nat.cast (R := Int) t)) + 8)))) (loB (some (IntKind.i64.wrap (8 * (Nat.cast (R := Int) t)))))) (List.drop (loB (some (IntKind.i64.wrap (8 * (Nat.cast (R := Int) t))))) l)).length))), (34, AV.c (CV.int IntKind.i64 0))] [(0, Blk'.cells 335 8 (Body.els [AV.c (CV.arr IntKind.u64 8 s)])), (1, Blk'.cells 335 8 (Body.els [AV.c (CV.arr IntKind.u64 8 (List.replicate 8 0))])), (2, Blk'.cells 353 80 (Body.els [AV.c (CV.arr IntKind.u64 80 (ws5 l t))]))] 3 202) = some (inI s l (List.take 8 (List.drop (8 * t) l)) (ws5 l t) t 0) ∧ inP (List.take 8 (List.drop (8 * t) l)) (ws5 l t) t ∧ ∃ (v' : Nat), some (St.mk [(2, AV.ptr (Base.l 0) 0 8 0), (4, AV.ptr (Base.l 1) 0 8 0), (5, AV.ptr (Base.l 2) 0 80 0), (1, AV.c (CV.ints IntKind.u8 l)), (23, AV.c (CV.int IntKind.i64 (IntKind.i64.wrap ((Nat.cast (R := Int) t) + 1))))] [(0, Blk'.cells 335 8 (Body.els [AV.c (CV.arr IntKind.u64 8 s)])), (1, Blk'.cells 335 8 (Body.els [AV.c (CV.arr IntKind.u64 8 (List.replicate 8 0))])), (2, Blk'.cells 353 80 (Body.els [AV.c (CV.arr IntKind.u64 80 ((ws5 l t).set t (wd (List.take 8 (List.drop (8 * t) l)) 8)))]))] 3 202) = some (t5I s [(1, AV.c (CV.ints IntKind.u8 l)), (23, AV.c (CV.int IntKind.i64 (Nat.cast (R := Int) v')))] (ws5 l v')) ∧ 16 - v' < 16 - t ∧ v' ≤ 16 else False else false = false ∧ some (St.mk [(2, AV.ptr (Base.l 0) 0 8 0), (4, AV.ptr (Base.l 1) 0 8 0), (5, AV.ptr (Base.l 2) 0 80 0)] [(0, Blk'.cells 335 8 (Body.els [AV.c (CV.arr IntKind.u64 8 s)])), (1, Blk'.cells 335 8 (Body.els [AV.c (CV.arr IntKind.u64 8 (List.replicate 8 0))])), (2, Blk'.cells 353 80 (Body.els [AV.c (CV.arr IntKind.u64 80 (ws5 l t))]))] 3 202) = some (t5I s [] (ws5 l 16)), by kernel_rfl, ?_⟩
 have ht : t ≤ 16 := ht
 have hp : l.length = 128 := hp
 simp (disch := omega) only [wi, bndB, loB, hiB, natSub, Nat.mul_one, Nat.zero_add, Int.toNat_natCast]
 refine cond_intro (fun h => ?_) (fun h => ?_)
 ·simp at h
  have e1 : (8 * (t : Int)).toNat = 8 * t := by omega
  have e2 : (8 * (t : Int) + 8).toNat - 8 * t = 8 := by omega
  rw [e1, e2]
  refine cond_at (by simp; omega) ⟨in5_l2 hX s l _ _ t, ?_, ⟨by simp; omega, by omega, ws5_len l t⟩, t + 1, by kernel_rfl, by omega, by omega⟩
  unfold inI
  rw [ws5_zero (by omega)]
  show _ = _
  kernel_rfl
 ·simp at h
  obtain rfl : t = 16 := by omega
  exact ⟨by simp, by kernel_rfl⟩
theorem t5_l4 {X : Snap} (hX : ∀ b L, X.ι b = some L → b < 0) (s l : List Int) : LOk CX X 4 (loopAt 4 Tryz.f295) (loopW 0 [] [2, 4, 5, 9] (t5I s [(9, .c (.int .i64 16))] (wsM l 0)) True false (t5I s [] (wsM l 64))) := by
 refine loopW_ok hmo GS1_ok (by kernel_rfl) hX [2, 4, 5] [] (fun t : Nat => t5I s [(9, .c (.int .i64 ((16 + t : Nat) : Int)))] (wsM l t)) (fun t => t ≤ 64) (fun t => 64 - t) 0 (fun _ => rfl) (fun _ => by omega) ?_
 intro hp t ht hfa
 refine ⟨[], 999, ?_⟩
 refine ⟨bif decide ((Nat.cast (R := Int) (16 + t)) < 80) then bif decide (0 ≤ IntKind.i64.wrap ((Nat.cast (R := Int) (16 + t)) - 15)) && decide (IntKind.i64.wrap ((Nat.cast (R := Int) (16 + t)) - 15) < (Nat.cast (R := Int) 80)) then bif decide (0 ≤ IntKind.i64.wrap ((Nat.cast (R := Int) (16 + t)) - 2)) && decide (IntKind.i64.wrap ((Nat.cast (R := Int) (16 + t)) - 2) < (Nat.cast (R := Int) 80)) then bif decide (0 ≤ IntKind.i64.wrap ((Nat.cast (R := Int) (16 + t)) - 7)) && decide (IntKind.i64.wrap ((Nat.cast (R := Int) (16 + t)) - 7) < (Nat.cast (R := Int) 80)) then bif decide (0 ≤ IntKind.i64.wrap ((Nat.cast (R := Int) (16 + t)) - 16)) && decide (IntKind.i64.wrap ((Nat.cast (R := Int) (16 + t)) - 16) < (Nat.cast (R := Int) 80)) then bif decide ((Nat.cast (R := Int) (16 + t)) < (Nat.cast (R := Int) 80)) then ∃ (v' : Nat), some (St.mk [(2, AV.ptr (Base.l 0) 0 8 0), (4, AV.ptr (Base.l 1) 0 8 0), (5, AV.ptr (Base.l 2) 0 80 0), (9, AV.c (CV.int IntKind.i64 (IntKind.i64.wrap ((Nat.cast (R := Int) (16 + t)) + 1))))] [(0, Blk'.cells 335 8 (Body.els [AV.c (CV.arr IntKind.u64 8 s)])), (1, Blk'.cells 335 8 (Body.els [AV.c (CV.arr IntKind.u64 8 (List.replicate 8 0))])), (2, Blk'.cells 353 80 (Body.els [AV.c (CV.arr IntKind.u64 80 ((wsM l t).set (0 + (Nat.cast (R := Int) (16 + t)).toNat * 1) (IntKind.u64.wrap (IntKind.u64.wrap (IntKind.u64.wrap (ixor IntKind.u64 (ixor IntKind.u64 (rotr64 ((wsM l t).getD (0 + (IntKind.i64.wrap ((Nat.cast (R := Int) (16 + t)) - 2)).toNat * 1) 0) 19) (rotr64 ((wsM l t).getD (0 + (IntKind.i64.wrap ((Nat.cast (R := Int) (16 + t)) - 2)).toNat * 1) 0) 61)) (ishr IntKind.u64 ((wsM l t).getD (0 + (IntKind.i64.wrap ((Nat.cast (R := Int) (16 + t)) - 2)).toNat * 1) 0) 6) + (wsM l t).getD (0 + (IntKind.i64.wrap ((Nat.cast (R := Int) (16 + t)) - 7)).toNat * 1) 0) + ixor IntKind.u64 (ixor IntKind.u64 (rotr64 ((wsM l t).getD (0 + (IntKind.i64.wrap ((Nat.cast (R := Int) (16 + t)) - 15)).toNat * 1) 0) 1) (rotr64 ((wsM l t).getD (0 + (IntKind.i64.wrap ((Nat.cast (R := Int) (16 + t)) - 15)).toNat * 1) 0) 8)) (ishr IntKind.u64 ((wsM l t).getD (0 + (IntKind.i64.wrap ((Nat.cast (R := Int) (16 + t)) - 15)).toNat * 1) 0) 7)) + (wsM l t).getD (0 + (IntKind.i64.wrap ((Nat.cast (R := Int) (16 + t)) - 16)).toNat * 1) 0))))]))] 3 202) = some (t5I s [(9, AV.c (CV.int IntKind.i64 (Nat.cast (R := Int) (16 + v'))))] (wsM l v')) ∧ 64 - v' < 64 - t ∧ v' ≤ 64 else False else False else False else False else False else false = false ∧ some (St.mk [(2, AV.ptr (Base.l 0) 0 8 0), (4, AV.ptr (Base.l 1) 0 8 0), (5, AV.ptr (Base.l 2) 0 80 0)] [(0, Blk'.cells 335 8 (Body.els [AV.c (CV.arr IntKind.u64 8 s)])), (1, Blk'.cells 335 8 (Body.els [AV.c (CV.arr IntKind.u64 8 (List.replicate 8 0))])), (2, Blk'.cells 353 80 (Body.els [AV.c (CV.arr IntKind.u64 80 (wsM l t))]))] 3 202) = some (t5I s [] (wsM l 64)), by kernel_rfl, ?_⟩
 simp (disch := omega) only [wi, bndB, loB, hiB, natSub, Nat.mul_one, Nat.zero_add, Int.toNat_natCast]
 refine cond_intro (fun h => ?_) (fun h => ?_)
 ·simp at h
  refine cond_at (by simp; omega) <| cond_at (by simp; omega) <| cond_at (by simp; omega) <| cond_at (by simp; omega) <| cond_at (by simp; omega) ⟨t + 1, ?_, by omega, by omega⟩
  have e1 : (((16 + t : Nat) : Int) - 15).toNat = 16 + t - 15 := by omega
  have e2 : (((16 + t : Nat) : Int) - 2).toNat = 16 + t - 2 := by omega
  have e3 : (((16 + t : Nat) : Int) - 7).toNat = 16 + t - 7 := by omega
  have e4 : (((16 + t : Nat) : Int) - 16).toNat = 16 + t - 16 := by omega
  rw [e1, e2, e3, e4]
  show _ = _
  kernel_rfl
 ·simp at h
  have e : t = 64 := by omega
  subst e; exact ⟨by simp, by kernel_rfl⟩
def t5V (v : List Int) : List (Nat × AV) := [(12, .c (.int .u64 (v.getD 0 0))), (13, .c (.int .u64 (v.getD 1 0))), (14, .c (.int .u64 (v.getD 2 0))), (15, .c (.int .u64 (v.getD 3 0))), (16, .c (.int .u64 (v.getD 4 0))), (17, .c (.int .u64 (v.getD 5 0))), (18, .c (.int .u64 (v.getD 6 0))), (19, .c (.int .u64 (v.getD 7 0)))]
theorem t5_l6 {X : Snap} (hX : ∀ b L, X.ι b = some L → b < 0) (s l : List Int) : LOk CX X 6 (loopAt 6 Tryz.f295) (loopW 0 [] [2, 4, 5, 106, 12, 13, 14, 15, 16, 17, 18, 19] (t5I s ((106, .c (.int .i64 0)) :: t5V s) (wsM l 64)) True false (t5I s (t5V (rN64 sha5K (wsM l 64) s 80)) (wsM l 64))) := by
 refine loopW_ok hmo GS1_ok (by kernel_rfl) hX [2, 4, 5, 12, 13, 14, 15, 16, 17, 18, 19] [] (fun t : Nat => t5I s ((106, .c (.int .i64 t)) :: t5V (rN64 sha5K (wsM l 64) s t)) (wsM l 64)) (fun t => t ≤ 80) (fun t => 80 - t) 0 (fun _ => rfl) (fun _ => by omega) ?_
 intro hp t ht hfa
 refine ⟨[], 999, ?_⟩
 refine ⟨bif decide ((Nat.cast (R := Int) t) < 80) then bif decide ((Nat.cast (R := Int) t) < (Nat.cast (R := Int) 80)) then bif decide ((Nat.cast (R := Int) t) < (Nat.cast (R := Int) 80)) then ∃ (v' : Nat), some (St.mk [(2, AV.ptr (Base.l 0) 0 8 0), (4, AV.ptr (Base.l 1) 0 8 0), (5, AV.ptr (Base.l 2) 0 80 0), (106, AV.c (CV.int IntKind.i64 (IntKind.i64.wrap ((Nat.cast (R := Int) t) + 1)))), (12, AV.c (CV.int IntKind.u64 (IntKind.u64.wrap (IntKind.u64.wrap (IntKind.u64.wrap (IntKind.u64.wrap (IntKind.u64.wrap ((rN64 sha5K (wsM l 64) s t).getD 7 0 + ixor IntKind.u64 (ixor IntKind.u64 (rotr64 ((rN64 sha5K (wsM l 64) s t).getD 4 0) 14) (rotr64 ((rN64 sha5K (wsM l 64) s t).getD 4 0) 18)) (rotr64 ((rN64 sha5K (wsM l 64) s t).getD 4 0) 41)) + ixor IntKind.u64 (iand IntKind.u64 ((rN64 sha5K (wsM l 64) s t).getD 4 0) ((rN64 sha5K (wsM l 64) s t).getD 5 0)) (iand IntKind.u64 (inot IntKind.u64 ((rN64 sha5K (wsM l 64) s t).getD 4 0)) ((rN64 sha5K (wsM l 64) s t).getD 6 0))) + sha5K.getD (0 + (Nat.cast (R := Int) t).toNat * 1) 0) + (wsM l 64).getD (0 + (Nat.cast (R := Int) t).toNat * 1) 0) + IntKind.u64.wrap (ixor IntKind.u64 (ixor IntKind.u64 (rotr64 ((rN64 sha5K (wsM l 64) s t).getD 0 0) 28) (rotr64 ((rN64 sha5K (wsM l 64) s t).getD 0 0) 34)) (rotr64 ((rN64 sha5K (wsM l 64) s t).getD 0 0) 39) + ixor IntKind.u64 (ixor IntKind.u64 (iand IntKind.u64 ((rN64 sha5K (wsM l 64) s t).getD 0 0) ((rN64 sha5K (wsM l 64) s t).getD 1 0)) (iand IntKind.u64 ((rN64 sha5K (wsM l 64) s t).getD 0 0) ((rN64 sha5K (wsM l 64) s t).getD 2 0))) (iand IntKind.u64 ((rN64 sha5K (wsM l 64) s t).getD 1 0) ((rN64 sha5K (wsM l 64) s t).getD 2 0))))))), (13, AV.c (CV.int IntKind.u64 ((rN64 sha5K (wsM l 64) s t).getD 0 0))), (14, AV.c (CV.int IntKind.u64 ((rN64 sha5K (wsM l 64) s t).getD 1 0))), (15, AV.c (CV.int IntKind.u64 ((rN64 sha5K (wsM l 64) s t).getD 2 0))), (16, AV.c (CV.int IntKind.u64 (IntKind.u64.wrap ((rN64 sha5K (wsM l 64) s t).getD 3 0 + IntKind.u64.wrap (IntKind.u64.wrap (IntKind.u64.wrap (IntKind.u64.wrap ((rN64 sha5K (wsM l 64) s t).getD 7 0 + ixor IntKind.u64 (ixor IntKind.u64 (rotr64 ((rN64 sha5K (wsM l 64) s t).getD 4 0) 14) (rotr64 ((rN64 sha5K (wsM l 64) s t).getD 4 0) 18)) (rotr64 ((rN64 sha5K (wsM l 64) s t).getD 4 0) 41)) + ixor IntKind.u64 (iand IntKind.u64 ((rN64 sha5K (wsM l 64) s t).getD 4 0) ((rN64 sha5K (wsM l 64) s t).getD 5 0)) (iand IntKind.u64 (inot IntKind.u64 ((rN64 sha5K (wsM l 64) s t).getD 4 0)) ((rN64 sha5K (wsM l 64) s t).getD 6 0))) + sha5K.getD (0 + (Nat.cast (R := Int) t).toNat * 1) 0) + (wsM l 64).getD (0 + (Nat.cast (R := Int) t).toNat * 1) 0))))), (17, AV.c (CV.int IntKind.u64 ((rN64 sha5K (wsM l 64) s t).getD 4 0))), (18, AV.c (CV.int IntKind.u64 ((rN64 sha5K (wsM l 64) s t).getD 5 0))), (19, AV.c (CV.int IntKind.u64 ((rN64 sha5K (wsM l 64) s t).getD 6 0)))] [(0, Blk'.cells 335 8 (Body.els [AV.c (CV.arr IntKind.u64 8 s)])), (1, Blk'.cells 335 8 (Body.els [AV.c (CV.arr IntKind.u64 8 (List.replicate 8 0))])), (2, Blk'.cells 353 80 (Body.els [AV.c (CV.arr IntKind.u64 80 (wsM l 64))]))] 3 202) = some (t5I s ((106, AV.c (CV.int IntKind.i64 (Nat.cast (R := Int) v'))) :: t5V (rN64 sha5K (wsM l 64) s v')) (wsM l 64)) ∧ 80 - v' < 80 - t ∧ v' ≤ 80 else False else False else false = false ∧ some (St.mk [(2, AV.ptr (Base.l 0) 0 8 0), (4, AV.ptr (Base.l 1) 0 8 0), (5, AV.ptr (Base.l 2) 0 80 0), (12, AV.c (CV.int IntKind.u64 ((rN64 sha5K (wsM l 64) s t).getD 0 0))), (13, AV.c (CV.int IntKind.u64 ((rN64 sha5K (wsM l 64) s t).getD 1 0))), (14, AV.c (CV.int IntKind.u64 ((rN64 sha5K (wsM l 64) s t).getD 2 0))), (15, AV.c (CV.int IntKind.u64 ((rN64 sha5K (wsM l 64) s t).getD 3 0))), (16, AV.c (CV.int IntKind.u64 ((rN64 sha5K (wsM l 64) s t).getD 4 0))), (17, AV.c (CV.int IntKind.u64 ((rN64 sha5K (wsM l 64) s t).getD 5 0))), (18, AV.c (CV.int IntKind.u64 ((rN64 sha5K (wsM l 64) s t).getD 6 0))), (19, AV.c (CV.int IntKind.u64 ((rN64 sha5K (wsM l 64) s t).getD 7 0)))] [(0, Blk'.cells 335 8 (Body.els [AV.c (CV.arr IntKind.u64 8 s)])), (1, Blk'.cells 335 8 (Body.els [AV.c (CV.arr IntKind.u64 8 (List.replicate 8 0))])), (2, Blk'.cells 353 80 (Body.els [AV.c (CV.arr IntKind.u64 80 (wsM l 64))]))] 3 202) = some (t5I s (t5V (rN64 sha5K (wsM l 64) s 80)) (wsM l 64)), by kernel_rfl, ?_⟩
 simp (disch := omega) only [wi, bndB, loB, hiB, natSub, Nat.mul_one, Nat.zero_add, Int.toNat_natCast]
 refine cond_intro (fun h => ?_) (fun h => ?_)
 ·simp at h
  exact cond_at (by simp; omega) <| cond_at (by simp; omega) ⟨t + 1, by kernel_rfl, by omega, by omega⟩
 ·simp at h
  have e : t = 80 := by omega
  subst e; exact ⟨by simp, by kernel_rfl⟩
noncomputable def takes5S : FSpec := fun xs bl => match xs, bl with
 | [.c (.arr .u64 8 s), .c (.ints .u8 l)], [] => some (some (l.length = 128), ⟨.c (.arr .u64 8 (take5 sha5K s l)), [], []⟩)
 | _, _ => none
theorem takes5_ok : FnOk CX 295 takes5S := by
 refine fnOkF hmo GS1_ok (fn := Tryz.f295) (c := bodyOf' Tryz.f295) (by kernel_rfl) (by kernel_rfl) (by kernel_rfl) ?_
 intro xs bl p o hF hp
 unfold takes5S at hF
 split at hF
 ·rename_i s l
  injection hF with hF; injection hF with e1 e2; subst e1; subst e2
  refine ⟨Nat.le_of_ble_eq_true (by kernel_rfl), fun X hX hfa => ⟨[(0, loopW 0 [] [2, 4, 5, 1, 23] (t5I s [(1, .c (.ints .u8 l)), (23, .c (.int .i64 0))] (ws5 l 0)) (l.length = 128) false (t5I s [] (ws5 l 16))), (4, loopW 0 [] [2, 4, 5, 9] (t5I s [(9, .c (.int .i64 16))] (wsM l 0)) True false (t5I s [] (wsM l 64))), (6, loopW 0 [] [2, 4, 5, 106, 12, 13, 14, 15, 16, 17, 18, 19] (t5I s ((106, .c (.int .i64 0)) :: t5V s) (wsM l 64)) True false (t5I s (t5V (rN64 sha5K (wsM l 64) s 80)) (wsM l 64)))], 999, ?_⟩⟩
  refine ⟨LOk CX X 0 (loopAt 0 Tryz.f295) (loopW 0 [] [2, 4, 5, 1, 23] (t5I s [(1, AV.c (CV.ints IntKind.u8 l)), (23, AV.c (CV.int IntKind.i64 0))] (ws5 l 0)) (l.length = 128) false (t5I s [] (ws5 l 16))) ∧ some (St.mk [(2, AV.ptr (Base.l 0) 0 8 0), (4, AV.ptr (Base.l 1) 0 8 0), (5, AV.ptr (Base.l 2) 0 80 0), (1, AV.c (CV.ints IntKind.u8 l)), (23, AV.c (CV.int IntKind.i64 0))] [(0, Blk'.cells 335 8 (Body.els [AV.c (CV.arr IntKind.u64 8 s)])), (1, Blk'.cells 335 8 (Body.els [AV.c (CV.arr IntKind.u64 8 (List.replicate 8 0))])), (2, Blk'.cells 353 80 (Body.els [AV.c (CV.arr IntKind.u64 80 (List.replicate 80 0))]))] 3 202) = some (t5I s [(1, AV.c (CV.ints IntKind.u8 l)), (23, AV.c (CV.int IntKind.i64 0))] (ws5 l 0)) ∧ l.length = 128 ∧ LOk CX X 4 (loopAt 4 Tryz.f295) (loopW 0 [] [2, 4, 5, 9] (t5I s [(9, AV.c (CV.int IntKind.i64 16))] (wsM l 0)) True false (t5I s [] (wsM l 64))) ∧ some (St.mk [(2, AV.ptr (Base.l 0) 0 8 0), (4, AV.ptr (Base.l 1) 0 8 0), (5, AV.ptr (Base.l 2) 0 80 0), (9, AV.c (CV.int IntKind.i64 16))] [(0, Blk'.cells 335 8 (Body.els [AV.c (CV.arr IntKind.u64 8 s)])), (1, Blk'.cells 335 8 (Body.els [AV.c (CV.arr IntKind.u64 8 (List.replicate 8 0))])), (2, Blk'.cells 353 80 (Body.els [AV.c (CV.arr IntKind.u64 80 (ws5 l 16))]))] 3 202) = some (t5I s [(9, AV.c (CV.int IntKind.i64 16))] (wsM l 0)) ∧ True ∧ LOk CX X 6 (loopAt 6 Tryz.f295) (loopW 0 [] [2, 4, 5, 106, 12, 13, 14, 15, 16, 17, 18, 19] (t5I s ((106, AV.c (CV.int IntKind.i64 0)) :: t5V s) (wsM l 64)) True false (t5I s (t5V (rN64 sha5K (wsM l 64) s 80)) (wsM l 64))) ∧ some (St.mk [(2, AV.ptr (Base.l 0) 0 8 0), (4, AV.ptr (Base.l 1) 0 8 0), (5, AV.ptr (Base.l 2) 0 80 0), (106, AV.c (CV.int IntKind.i64 0)), (12, AV.c (CV.int IntKind.u64 (s.getD 0 0))), (13, AV.c (CV.int IntKind.u64 (s.getD 1 0))), (14, AV.c (CV.int IntKind.u64 (s.getD 2 0))), (15, AV.c (CV.int IntKind.u64 (s.getD 3 0))), (16, AV.c (CV.int IntKind.u64 (s.getD 4 0))), (17, AV.c (CV.int IntKind.u64 (s.getD 5 0))), (18, AV.c (CV.int IntKind.u64 (s.getD 6 0))), (19, AV.c (CV.int IntKind.u64 (s.getD 7 0)))] [(0, Blk'.cells 335 8 (Body.els [AV.c (CV.arr IntKind.u64 8 s)])), (1, Blk'.cells 335 8 (Body.els [AV.c (CV.arr IntKind.u64 8 (List.replicate 8 0))])), (2, Blk'.cells 353 80 (Body.els [AV.c (CV.arr IntKind.u64 80 (wsM l 64))]))] 3 202) = some (t5I s ((106, AV.c (CV.int IntKind.i64 0)) :: t5V s) (wsM l 64)) ∧ True ∧ some (Out.mk (AV.c (CV.arr IntKind.u64 8 (((((((((List.replicate 8 0).set 0 (IntKind.u64.wrap (s.getD 0 0 + (rN64 sha5K (wsM l 64) s 80).getD 0 0))).set 1 (IntKind.u64.wrap (s.getD 1 0 + (rN64 sha5K (wsM l 64) s 80).getD 1 0))).set 2 (IntKind.u64.wrap (s.getD 2 0 + (rN64 sha5K (wsM l 64) s 80).getD 2 0))).set 3 (IntKind.u64.wrap (s.getD 3 0 + (rN64 sha5K (wsM l 64) s 80).getD 3 0))).set 4 (IntKind.u64.wrap (s.getD 4 0 + (rN64 sha5K (wsM l 64) s 80).getD 4 0))).set 5 (IntKind.u64.wrap (s.getD 5 0 + (rN64 sha5K (wsM l 64) s 80).getD 5 0))).set 6 (IntKind.u64.wrap (s.getD 6 0 + (rN64 sha5K (wsM l 64) s 80).getD 6 0))).set 7 (IntKind.u64.wrap (s.getD 7 0 + (rN64 sha5K (wsM l 64) s 80).getD 7 0))))) [] []) = some (Out.mk (AV.c (CV.arr IntKind.u64 8 (take5 sha5K s l))) [] []), by kernel_rfl, ?_⟩
  exact ⟨t5_l0 hX s l, by kernel_rfl, hp, t5_l4 hX s l, by kernel_rfl, trivial, t5_l6 hX s l, by kernel_rfl, trivial, by kernel_rfl⟩
 ·cases hF
end Go.Proofs.YtffdoihhjfjgoaaGreatDoor
