import Derived.Test.YtdcganigfihkjaaDoorM8
import Derived.Test.YtdcganigfihkjaaDoorM6
import Derived.Test.YtdcganigfihkjaaDoorM12
import Derived.Lib.LaidTab
import Derived.Deep.Strs
import Derived.Deep.DeepHandedRow
import Derived.Test.YtdcganigfihkjaaDoorCards
import Derived.Test.YtdcganigfihkjaaDoorTie
import Derived.SevenTiedAt
/- What a row lists of the variables is what the walks ask. -/
namespace Go.Proofs.YtdcganigfihkjaaDoor
open Go Go.Ab Go.RowKit Go.Chr
set_option maxRecDepth 100000

def laidL : List (String × DataW Unit) := [("chronicle/field.moduli", Rows.laid_chronicle_field_moduli), ("chronicle/sha256.first", Rows.laid_chronicle_sha256_first), ("chronicle/sha256.constants", Rows.laid_chronicle_sha256_constants), ("chronicle/p256.b", Rows.laid_chronicle_p256_b), ("chronicle/p256.one", Rows.laid_chronicle_p256_one)]
theorem cellsMod : Tryd.prog.cellsOf 67 = 9 := by kernel_rfl
theorem mod_part {w : World} {fuel : Nat} {cs : List Value} {p : List MemPlace} {A B : List Int} {v : Int}
    (h : DataW.trod (fun _ => ()) Tryd.prog w 0 (fun _ => true) false fuel 67 cs = some (.agg [Lib.tabData .u64 A, Lib.tabData .u64 B, .lit (.int .u64 v)], p)) : cs = (A ++ (B ++ [v])).map (Value.int .u64) := by
  obtain ⟨y0, y1, y2, n, e, hl, h0, h1, h2⟩ := Deep.trod_struct3 Tryd.underlying67 h
  injection e with e1 e2
  injection e1 with e1
  injection e1 with e3 e1
  injection e1 with e4 e1
  injection e1 with e5 e1
  obtain ⟨d0, p0⟩ := y0
  obtain ⟨d1, p1⟩ := y1
  obtain ⟨d2, p2⟩ := y2
  dsimp only at e3 e4 e5
  subst e3; subst e4; subst e5
  rw [cellsMod] at hl
  dsimp only at h0 h1 h2
  rw [cellsNat] at h0 h1
  rw [cells64] at h2
  have c0 := Lib.cells_of_tab Tryd.underlying24 Tryd.underlying22 cells64 cellsNat h0
  have c1 := Lib.cells_of_tab Tryd.underlying24 Tryd.underlying22 cells64 cellsNat h1
  obtain ⟨z, c2, e, _⟩ := DataW.trod_int Tryd.underlying22 h2
  injection e with e e'
  injection e with e
  injection e with _ e
  subst e
  have e1 : cs = (cs.drop 0).take 4 ++ ((cs.drop 4).take 4 ++ (cs.drop 8).take 1) := by
    match cs, hl with
    | [_, _, _, _, _, _, _, _, _], _ => rfl
  rw [e1, c0, c1, c2]
  simp
theorem nat_cells {w : World} {fuel : Nat} {cs : List Value} {p : List MemPlace} {A : List Int} (h : DataW.trod (fun _ => ()) Tryd.prog w 0 (fun _ => true) false fuel 24 cs = some (Lib.tabData .u64 A, p)) : cs = A.map (Value.int .u64) :=
  Lib.cells_of_tab Tryd.underlying24 Tryd.underlying22 cells64 cellsNat h
theorem env_blk {W : World} {g t n : Nat} {v : CV} {cs : Array Value} (hh : W.heap[g]? = some (.cells cs t (0, 0))) (hl : cs.size = n) (hv : v.rel (fun k => k < W.heap.size) W cs.toList) :
    g < W.heap.size ∧ ∃ ty esz body xs post, gBlk t n v = .cells ty esz body ∧ Lies (fun _ => none) (fun k => k < W.heap.size) W ⟨g, 0, 0, 1, false⟩ ty esz body [] xs post := by
  refine ⟨?_, t, n, _, cs.toList, [], rfl, by simpa using hh, rfl, ⟨cs.toList, [], by simp, by simpa using hl, hv, rfl⟩, rfl⟩
  rcases Nat.lt_or_ge g W.heap.size with h | h
  · exact h
  · rw [Array.getElem?_eq_none h] at hh; cases hh
theorem mem_of_lookup {g : Nat} {b : Blk'} : ∀ {l : List (Nat × Blk')}, l.lookup g = some b → (g, b) ∈ l
  | [], h => by cases h
  | (k, x) :: l, h => by
    rw [List.lookup_cons] at h
    cases hk : g == k with
    | true => rw [hk] at h; injection h with h; subst h; rw [eq_of_beq hk]; exact List.mem_cons_self ..
    | false => rw [hk] at h; exact List.mem_cons_of_mem _ (mem_of_lookup h)
theorem laid_cells {W : World} {n : String} {d : DataW Unit} {g t : Nat} (h : laidMetH Tryd.prog laidL W) (hsh : W.ShapedOpen Tryd.prog) (hm : (n, d) ∈ laidL) (hg : Tryd.prog.globalNamed n = some g)
    (ht : (Tryd.prog.globals[g]?).map (·.type) = some t) (hlt : Nat.ble (g + 1) Tryd.prog.globals.size = true) (h0 : (((begin Tryd.prog (fun _ _ => 0) default).world.heap[g]?).bind Obj.row?).map Prod.snd = some t) :
    ∃ cs fuel p, W.heap[g]? = some (.cells cs t (0, 0)) ∧ DataW.trod (fun _ => ()) Tryd.prog W 0 (fun _ => true) false fuel t cs.toList = some (d, p) := by
  have h : laidMet Tryd.prog laidL W := h
  obtain ⟨ps, hl, _⟩ := h
  obtain ⟨g', t', cs, fuel, p, h1, h2, h3, h4⟩ := laid_at hl hm
  rw [hg] at h1
  injection h1 with h1
  subst h1
  rw [ht] at h2
  injection h2 with h2
  subst h2
  exact ⟨cs, fuel, p, laid_blk hg h3 hsh (Nat.le_of_ble_eq_true hlt) h0, h4⟩
theorem parts4 {l : List Value} (h : l.length = 36) : l = (l.drop 0).take 9 ++ ((l.drop 9).take 9 ++ ((l.drop 18).take 9 ++ (l.drop 27).take 9)) := by
  rw [List.take_of_length_le (l := l.drop 27) (by simp; omega)]
  have e1 : l.drop 27 = (l.drop 18).drop 9 := by rw [List.drop_drop]
  have e2 : l.drop 18 = (l.drop 9).drop 9 := by rw [List.drop_drop]
  rw [e1, List.take_append_drop, e2, List.take_append_drop, List.drop_zero, List.take_append_drop]
theorem cells4Mod : Tryd.prog.cellsOf 102 = 36 := by kernel_rfl
theorem mod_cells {w : World} {fuel : Nat} {cs : List Value} {p : List MemPlace} (h : DataW.trod (fun _ => ()) Tryd.prog w 0 (fun _ => true) false fuel 102 cs = some (Rows.laid_chronicle_field_moduli, p)) : cs = modL.map (Value.int .u64) := by
  obtain ⟨xs, m, -, e, hl, hx, hi⟩ := DataW.trod_array Tryd.underlying102 h
  injection e with e _
  rw [cells4Mod] at hl
  rw [cellsMod] at hi
  match xs, hx with
  | [(d0, q0), (d1, q1), (d2, q2), (d3, q3)], _ =>
    injection e with e
    injection e with e0 e
    injection e with e1 e
    injection e with e2 e
    injection e with e3 e
    dsimp only at e0 e1 e2 e3
    subst e0; subst e1; subst e2; subst e3
    have h0 := mod_part (A := [18446744073709551615, 4294967295, 0, 18446744069414584321]) (B := [3, 18446744056529682431, 18446744073709551614, 21474836477]) (v := 1) (hi 0 (by omega))
    have h1 := mod_part (A := [17562291160714782033, 13611842547513532036, 18446744073709551615, 18446744069414584320]) (B := [9449762124159643298, 5087230966250696614, 2901921493521525849, 7413256579398063648]) (v := 14758798090332847183) (hi 1 (by omega))
    have h2 := mod_part (A := [18446744073709551597, 18446744073709551615, 18446744073709551615, 9223372036854775807]) (B := [1444, 0, 0, 0]) (v := 9708812670373448219) (hi 2 (by omega))
    have h3 := mod_part (A := [6346243789798364141, 1503914060200516822, 0, 1152921504606846976]) (B := [11819153939886771969, 14991950615390032711, 14910419812499177061, 259310039853996605]) (v := 15183074304973897243) (hi 3 (by omega))
    rw [parts4 hl]
    rw [show (0 : Nat) * 9 = 0 from rfl] at h0
    rw [show (1 : Nat) * 9 = 9 from rfl] at h1
    rw [show (2 : Nat) * 9 = 18 from rfl] at h2
    rw [show (3 : Nat) * 9 = 27 from rfl] at h3
    rw [h0, h1, h2, h3]
    rfl
theorem ok64 {l : List Int} (h : (l.all fun x => decide (0 ≤ x) && decide (x < 18446744073709551616)) = true) : ∀ x ∈ l, okI .u64 x := fun x hx => by
  have := List.all_eq_true.1 h x hx
  simp only [Bool.and_eq_true, decide_eq_true_eq] at this
  exact okI_u64.2 this
theorem ok32 {l : List Int} (h : (l.all fun x => decide (0 ≤ x) && decide (x < 4294967296)) = true) : ∀ x ∈ l, okI .u32 x := fun x hx => by
  have := List.all_eq_true.1 h x hx
  simp only [Bool.and_eq_true, decide_eq_true_eq] at this
  exact okI_u32.2 this
theorem size_map {cs : Array Value} {k : IntKind} {l : List Int} {n : Nat} (h : cs.toList = l.map (Value.int k)) (hn : l.length = n) : cs.size = n := by
  rw [← Array.length_toList, h, List.length_map, hn]
theorem env_of_laid {W : World} (h : laidMetH Tryd.prog laidL W) (hsh : W.ShapedOpen Tryd.prog) : Env CX (fun k => k < W.heap.size) W := by
  refine ⟨fun k hk => hk, fun g blk hg => ?_⟩
  have hm := mem_of_lookup hg
  unfold CX at hm
  simp only [List.mem_cons, List.not_mem_nil, or_false] at hm
  rcases hm with e | e | e | e | e <;> injection e with e1 e2 <;> subst e1 <;> subst e2
  · obtain ⟨cs, fuel, p, h1, h2⟩ := laid_cells (d := Rows.laid_chronicle_field_moduli) (n := "chronicle/field.moduli") (g := 1) (t := 102) h hsh (.head _) (by kernel_rfl) (by kernel_rfl) (by kernel_rfl) (by kernel_rfl)
    have hc := mod_cells h2
    exact env_blk h1 (size_map hc rfl) ⟨hc, rfl, ok64 (by kernel_rfl)⟩
  · obtain ⟨cs, fuel, p, h1, h2⟩ := laid_cells (d := Rows.laid_chronicle_p256_one) (n := "chronicle/p256.one") (g := 0) (t := 24) h hsh (.tail _ (.tail _ (.tail _ (.tail _ (.head _))))) (by kernel_rfl) (by kernel_rfl) (by kernel_rfl) (by kernel_rfl)
    have hc := nat_cells (A := [1, 0, 0, 0]) h2
    exact env_blk h1 (size_map hc rfl) ⟨hc, Nat.le_of_ble_eq_true (by kernel_rfl), Nat.le_refl _⟩
  · obtain ⟨cs, fuel, p, h1, h2⟩ := laid_cells (d := Rows.laid_chronicle_p256_b) (n := "chronicle/p256.b") (g := 2) (t := 24) h hsh (.tail _ (.tail _ (.tail _ (.head _)))) (by kernel_rfl) (by kernel_rfl) (by kernel_rfl) (by kernel_rfl)
    have hc := nat_cells (A := natL cvB) h2
    exact env_blk h1 (size_map hc rfl) ⟨hc, Nat.le_of_ble_eq_true (by kernel_rfl), Nat.le_refl _⟩
  · obtain ⟨cs, fuel, p, h1, h2⟩ := laid_cells (d := Rows.laid_chronicle_sha256_first) (n := "chronicle/sha256.first") (g := 3) (t := 93) h hsh (.tail _ (.head _)) (by kernel_rfl) (by kernel_rfl) (by kernel_rfl) (by kernel_rfl)
    have hc := Lib.cells_of_tab (k := .u32) (zs := shaH) Tryd.underlying93 Tryd.underlying91 (by kernel_rfl) (by kernel_rfl) h2
    exact env_blk h1 (size_map hc rfl) ⟨hc, rfl, ok32 (by kernel_rfl)⟩
  · obtain ⟨cs, fuel, p, h1, h2⟩ := laid_cells (d := Rows.laid_chronicle_sha256_constants) (n := "chronicle/sha256.constants") (g := 4) (t := 116) h hsh (.tail _ (.tail _ (.head _))) (by kernel_rfl) (by kernel_rfl) (by kernel_rfl) (by kernel_rfl)
    have hc := Lib.cells_of_tab (k := .u32) (zs := shaK) Tryd.underlying116 Tryd.underlying91 (by kernel_rfl) (by kernel_rfl) h2
    exact env_blk h1 (size_map hc rfl) ⟨hc, rfl, ok32 (by kernel_rfl)⟩
/-- a slice of bytes that comes in -/
theorem bytes_val {ι : Nat → Option Ab.Loc} {W : World} {v : Value} {l : List Int} (h : RI W .u8 v l) (hb : ∀ x ∈ l, 0 ≤ x ∧ x < 256) : (AV.c (.ints .u8 l)).val ι (fun k => k < W.heap.size) W v := by
  obtain ⟨A, c, rfl, hc, _, hr⟩ := h
  exact ⟨⟨A, c, rfl, hc, fun h0 => by obtain ⟨ad, e, h1, h2⟩ := hr h0; exact ⟨ad, e, h1, h2⟩⟩, fun x hx => okI_u8.2 (hb x hx)⟩
theorem limbs_val' {ι : Nat → Option Ab.Loc} {N : Nat → Prop} {w : World} {L : List Int} {x : Nat} (h : x < two256 ∧ natL x = L) : (AV.c (.nat two256 x)).val ι N w (.agg (L.map (Value.int .u64)).toArray) :=
  ⟨_, rfl, by rw [← h.2], h.1, Nat.le_refl _⟩
/-- a world that holds what the variables' initialisers lay -/
def cellsB (o : Obj) (cs : Array Value) : Obj := match o with
  | .cells _ t fr => .cells cs t fr
  | o => o
noncomputable def laidHeap (h : Array Obj) : Array Obj :=
  let h := h.modify 1 fun o => cellsB o (modL.map (Value.int .u64)).toArray
  let h := h.modify 0 fun o => cellsB o #[.int .u64 1, .int .u64 0, .int .u64 0, .int .u64 0]
  let h := h.modify 2 fun o => cellsB o #[.int .u64 4309448131093880907, .int .u64 7285987128567378166, .int .u64 12964664127075681980, .int .u64 6540974713487397863]
  let h := h.modify 3 fun o => cellsB o (shaH.map (Value.int .u32)).toArray
  h.modify 4 fun o => cellsB o (shaK.map (Value.int .u32)).toArray
noncomputable def laidWorld (os : Os) : World := { World.holding Tryd.prog os ⟨#[], #[], []⟩ with heap := laidHeap (World.holding Tryd.prog os ⟨#[], #[], []⟩).heap }
end Go.Proofs.YtdcganigfihkjaaDoor
/- EcdsaNone: the row, and its tied card. -/
namespace Go.Proofs.YtdcganigfihkjaaDoor
open Go Go.Ab Go.ChangeShapes Go.WideShapes Go.ChangeAt Go.RowKit Go.Chr Go.Joins
set_option maxRecDepth 100000

theorem ecdsaNone_contract (H : Type) (enc : TypeId × Value → H) (W : World) (base : Nat) (args : Array Value) (ds gs : List (DataW H)) (before : List MemPlace)
    (hval0 : ∀ (j : Nat) t v, Tryd.f4.params[j]? = some t → args[j]? = some v → Value.okWide Tryd.prog W .any base t v)
    (hW : DataW.Whole enc Tryd.prog Tryd.f4.params.toList Rows.ecdsaNoneSpec.vars false W args.toList ds gs before) (hL : laidMetH Tryd.prog laidL W) (hsh : W.ShapedOpen Tryd.prog) :
    Calls Tryd.prog 4 args W fun e W' => ∃ v, e = .returned v ∧ Rows.ecdsaNoneSpec.post enc Tryd.prog Tryd.f4 false true false false W args v W' := by
  have hval : ∀ (j : Nat) t v, Tryd.f4.params[j]? = some t → args[j]? = some v → Value.okWide Tryd.prog W .any base t v := hval0
  have hW' := hW
  obtain ⟨p, q, hA0, hV, rfl, hfz, hnd⟩ := hW
  have hA : DataW.TrodAll enc Tryd.prog W 0 (fun _ => true) true Tryd.f4.params.toList args.toList ds p := hA0
  rw [Tryd.params4] at hA hval
  obtain ⟨v0, vs0, d0, ds0, p0, q0, hargs, rfl, rfl, h0, r0⟩ := trodAll_cons hA
  obtain ⟨v1, vs1, d1, ds1, p1, q1, rfl, rfl, rfl, h1, r1⟩ := trodAll_cons r0
  obtain ⟨v2, vs2, d2, ds2, p2, q2, rfl, rfl, rfl, h2, r2⟩ := trodAll_cons r1
  obtain ⟨rfl, rfl, rfl⟩ := trodAll_nil r2
  obtain rfl : args = #[v0, v1, v2] := by cases args; simp_all
  obtain ⟨rfl, rfl⟩ := trodVars_none hV
  have lt0 : ∀ x ∈ p0, x.block < W.heap.size := by obtain ⟨m, hm⟩ := h0; exact DataW.trod_lt m _ _ _ hm
  have k0 := h0
  have lt1 : ∀ x ∈ p1, x.block < W.heap.size := by obtain ⟨m, hm⟩ := h1; exact DataW.trod_lt m _ _ _ hm
  have k1 := h1
  have lt2 : ∀ x ∈ p2, x.block < W.heap.size := by obtain ⟨m, hm⟩ := h2; exact DataW.trod_lt m _ _ _ hm
  have k2 := h2
  obtain ⟨a0, b0, c0, e0, rfl, hb0⟩ := open_nat (hval 0 24 v0 rfl rfl) h0
  have g0 := natOf_rel (l := [a0, b0, c0, e0]) rfl fun x hx => okI_u64.2 (by have := hb0 x hx; omega)
  obtain ⟨a1, len1, cap1, rfl⟩ := okWide_slice Tryd.underlying25 (hval 1 25 v1 rfl rfl)
  obtain ⟨fuel1, hf1⟩ := h1
  obtain ⟨l1, hl1, -, -, hr1, hy1⟩ := open_bytes hf1
  obtain ⟨a2, len2, cap2, rfl⟩ := okWide_slice Tryd.underlying25 (hval 2 25 v2 rfl rfl)
  obtain ⟨fuel2, hf2⟩ := h2
  obtain ⟨l2, hl2, -, -, hr2, hy2⟩ := open_bytes hf2
  clear hA0 hval0
  have hc := top_calls (modes := [true, true, true]) (v := .c (.bool true)) (args := [.c (.nat two256 (natOf [a0, b0, c0, e0])), .c (.ints .u8 l1), .c (.ints .u8 l2)]) none11_ok (by kernel_rfl) (env_of_laid hL hsh) ⟨_, _, rfl, limbs_val g0, ⟨_, _, rfl, bytes_val hr1 hy1, ⟨_, _, rfl, bytes_val hr2 hy2, rfl⟩⟩⟩ (fun k => by kernel_rfl)
  rw [CX_P] at hc
  refine Calls.mono hc fun e W' ⟨u, he, ⟨ι', N', hu⟩, bel⟩ => ?_
  have hu : [u] = [Value.bool true] := hu
  injection hu with hu
  subst hu
  subst he
  exact ⟨_, rfl, _, _, _, [], _, [], hW', trodAll_mk1 (shut_bool Tryd.underlying4 _), (trodAll_cons_mk (Below.trod laidOut (by kernel_rfl) (of_decide_eq_true (by kernel_rfl)) k0 bel lt0) (trodAll_cons_mk (Below.trod laidOut (by kernel_rfl) (of_decide_eq_true (by kernel_rfl)) k1 bel lt1) (trodAll_cons_mk (Below.trod laidOut (by kernel_rfl) (of_decide_eq_true (by kernel_rfl)) k2 bel lt2) trodAll_mk0))), rfl, bel.frame _, fun h => by cases h⟩

theorem ecdsaNone_laid (os : Os) : laidMet Tryd.prog laidL ((laidWorld os).forCall (fun _ _ => 0) ⟨#[], #[.agg #[.int .u64 0, .int .u64 0, .int .u64 0, .int .u64 0], .slice none 0 0, .slice none 0 0], []⟩).memory :=
  laidMet_of_run' 8 (by kernel_rfl) (by kernel_rfl)
theorem ecdsaNone_reads (os : Os) {H : Type} (enc : TypeId × Value → H) : ∃ places, DataW.whole enc Tryd.prog ((laidWorld os).forCall (fun _ _ => 0) ⟨#[], #[.agg #[.int .u64 0, .int .u64 0, .int .u64 0, .int .u64 0], .slice none 0 0, .slice none 0 0], []⟩).memory Tryd.f4.params.toList Rows.ecdsaNoneSpec.vars false (#[.agg #[.int .u64 0, .int .u64 0, .int .u64 0, .int .u64 0], .slice none 0 0, .slice none 0 0] : Array Value).toList 8 = some ([.agg [.lit (.int .u64 0), .lit (.int .u64 0), .lit (.int .u64 0), .lit (.int .u64 0)], .nil, .nil], [], places) :=
  ⟨[], by kernel_rfl⟩
theorem ecdsaNone_lifted (os : Os) (started : os.Started) (H : Type) (enc : TypeId × Value → H) (F : Stop.Interp) :
    ReturnsInHanded {} Tryd.checked os 4 .any ((OpenSpec.ofChange Rows.ecdsaNoneSpec).preRow enc Tryd.prog Tryd.f4 Rows.ecdsaNoneRow.domain false Rows.ecdsaNoneRow.laid) (((OpenSpec.ofChange Rows.ecdsaNoneSpec).at F).post enc Tryd.prog Tryd.f4 false true false false) := by
  obtain ⟨places, hx⟩ := ecdsaNone_reads os enc
  refine returnsInHanded_of_row (C := Tryd.checked) (s := OpenSpec.ofChange Rows.ecdsaNoneSpec) own started (by kernel_rfl) Tryd.func4
    (witness_row_at (enc := enc) (C := Tryd.checked) false (laidWorld os) #[.agg #[.int .u64 0, .int .u64 0, .int .u64 0, .int .u64 0], .slice none 0 0, .slice none 0 0] rfl (by kernel_rfl) (by kernel_rfl) (by kernel_rfl)
      (OpenSpec.preRow_of_cond 8 hx (by kernel_rfl) (fun k hk => by cases hk) (by kernel_rfl) (ecdsaNone_laid os))) ?_
  intro W base args ds gs before hval hW _ _ _ hL hsh _
  exact ecdsaNone_contract H enc W base args ds gs before hval hW hL hsh
theorem ecdsaNone_said : Rows.EcdsaNoneSaid :=
  OpenClaim.holds_of_cond 4 Tryd.f4 rfl rfl rfl rfl rfl rfl rfl ⟨rfl, rfl, rfl, rfl, rfl⟩ rfl rfl rfl rfl rfl (by kernel_rfl) Tryd.func4 (by kernel_rfl)
    (of_decide_eq_true (by kernel_rfl)) (by unfold Func.isWrapper; first | (rw [if_pos (by decide +kernel)]; kernel_rfl) | (rw [if_neg (by decide +kernel)]; exact ⟨rfl, rfl⟩))
    (fun os started H enc _ F => by rw [OpenClaim.pre_eq_preRow]; exact ecdsaNone_lifted os started H enc F)
theorem ecdsaNone_plain (f : FuncId) (fn : Func) (hf : Tryd.pinned.checked.prog.funcNamed "chronicle/chroniclelaw11.EcdsaNone" = some f) (hfn : Tryd.pinned.checked.prog.funcs[f]? = some fn) :
    false = Tryd.pinned.checked.prog.looks [] ∧ ∀ (j : Nat) t, fn.params[j]? = some t → Tryd.pinned.checked.prog.wantsStandIn t = false := by
  obtain rfl : f = 4 := Option.some.inj ((show Tryd.prog.funcNamed "chronicle/chroniclelaw11.EcdsaNone" = some 4 by kernel_rfl).symm.trans hf) |>.symm
  obtain rfl : fn = Tryd.f4 := (Option.some.inj (Tryd.func4.symm.trans hfn)).symm
  refine ⟨by kernel_rfl, fun j t ht => ?_⟩
  rw [Tryd.params4] at ht
  have hm := Array.mem_of_getElem? ht
  simp only [List.mem_toArray, List.mem_cons, List.not_mem_nil, or_false] at hm
  rcases hm with rfl | rfl | rfl
  · exact (show Tryd.prog.wantsStandIn 24 = false by kernel_rfl)
  · exact (show Tryd.prog.wantsStandIn 25 = false by kernel_rfl)
  · exact (show Tryd.prog.wantsStandIn 25 = false by kernel_rfl)
theorem ecdsaNone_card : Rows.EcdsaNoneCardSaid :=
  Claim7.holds_tied_plain_at .later [] _ _ _ _ ecdsaNone_said (fun _ h => by cases h) (by kernel_rfl) (fun _ h => by cases h) ecdsaNone_row_tie rfl ⟨rfl, rfl⟩ (by kernel_rfl) rfl ecdsaNone_plain (by kernel_rfl)
end Go.Proofs.YtdcganigfihkjaaDoor
