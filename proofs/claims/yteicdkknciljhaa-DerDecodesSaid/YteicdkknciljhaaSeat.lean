/- What the seat's program says of its types, and the laws of append at it. -/
import Derived.Test.YteicdkknciljhaaRows
import Derived.Test.YteicdkknciljhaaBase
import Derived.WalkKit
import Derived.WalkSpells
import Derived.WalkLawsBesides
import Derived.Lib.Hide
import Derived.Deep.QuietTactic
import Derived.BigQuiet
import Derived.StillTailTactics
import Derived.Deep.RegionHeld3
namespace Go.Proofs.Yteicdkknciljhaa
open Go.RowKit Go.Chr

theorem info_u8 : (Try.prog.info? 5).map (fun i => (i.zero, i.size, i.bytes)) = some (some (.int .u8 0), 1, 1) := by kernel_rfl

/-- append of bytes onto bytes of the call's own -/
theorem app_u8 {w : World} {B : Nat} {ops : Array Oper} {rest : List Oper} {o : Oper} {a : Act} {Q : Exit → Act → World → Prop} (hgd : o.guard = none) (s x : Operand)
    (ho : o.op = .call { callee := .builtin .append, args := #[s, x], argTypes := #[22, 22] })
    (v u : Value) (l m : List Int) (hs : a.eval s = v) (hx : a.eval x = u) (hown : OI w B 5 .u8 v l) (hr : RI w .u8 u m)
    (hlen : l.length + m.length ≤ 140737488355328) (hbase : B ≤ w.heap.size)
    (h : ∀ v' w', OI w' B 5 .u8 v' (l ++ m) → Below B w w' → w.grownBy w' v.ownBlock → (v'.ownBlock = v.ownBlock ∨ v'.ownBlock = some w.heap.size) → wpList Try.prog ops Q rest (a.put o.dst v') w') :
    wpList Try.prog ops Q (o :: rest) a w := by
  obtain ⟨i0, hi0, hz0, hz1, hz2⟩ := info_parts info_u8
  obtain ⟨A, c, rfl, hc, hr⟩ := hr
  refine wpList_append_any w hgd s x 22 ho B 5 i0 _ 1 1 Try.underlying22 hi0 hz0 hz1 hz2 rfl (by omega) v l.length _ hs hown w.heap.size A m.length c _ hx hr
    (fun _ hu => oneCell_ints hu) (by simp only [maxLen]; omega) (by omega) hbase ?_
  intro v' w' h1 h2 h3
  refine h v' w' ?_ ?_ h2 h3
  · unfold OI; rw [List.map_append, List.length_append]; exact h1
  · refine (Below.refl B w).grown h2 hbase fun k hk => ?_
    exact (hown.lt k hk).1
/-- the same, in a region that draws its order -/
theorem step_app_u8 {w : World} {B : Nat} {ops : Array Oper} {o : Oper} {a : Act} {K : Act → World → Prop} {Q : Exit → Act → World → Prop} {E : Prop} (hgd : o.guard = none) (s x : Operand)
    (ho : o.op = .call { callee := .builtin .append, args := #[s, x], argTypes := #[22, 22] })
    (v u : Value) (l m : List Int) (hs : a.eval s = v) (hx : a.eval x = u) (hown : OI w B 5 .u8 v l) (hr : RI w .u8 u m)
    (hlen : l.length + m.length ≤ 140737488355328) (hbase : B ≤ w.heap.size)
    (h : ∀ v' w', OI w' B 5 .u8 v' (l ++ m) → Below B w w' → w.grownBy w' v.ownBlock → (v'.ownBlock = v.ownBlock ∨ v'.ownBlock = some w.heap.size) → K (a.put o.dst v') w') :
    if Region.wanted o (yielded ops a.tmps) = true then Oper.wp Try.prog o a w K Q else E := by
  obtain ⟨i0, hi0, hz0, hz1, hz2⟩ := info_parts info_u8
  obtain ⟨A, c, rfl, hc, hr⟩ := hr
  refine step_append_any w hgd s x 22 ho B 5 i0 _ 1 1 Try.underlying22 hi0 hz0 hz1 hz2 rfl (by omega) v l.length _ hs hown w.heap.size A m.length c _ hx hr
    (fun _ hu => oneCell_ints hu) (by simp only [maxLen]; omega) (by omega) hbase ?_
  intro v' w' h1 h2 h3
  refine h v' w' ?_ ?_ h2 h3
  · unfold OI; rw [List.map_append, List.length_append]; exact h1
  · refine (Below.refl B w).grown h2 hbase fun k hk => ?_
    exact (hown.lt k hk).1
theorem mk_u8 (n : Nat) (hn : n ≤ 1000000000) (w : World) : (Instr.makeSlice 22 (.int .i64 n) (.int .i64 n)).run Try.prog w = .ok (.slice (some ⟨w.heap.size, 0, none⟩) n n) (w.alloc (.cells (Array.replicate n (.int .u8 0)) 5)) := by
  obtain ⟨i0, hi0, hz0, hz1, hz2⟩ := info_parts info_u8
  have h := run_make (P := Try.prog) w 22 5 i0 (.int .u8 0) Try.underlying22 hi0 hz0 .i64 .i64 n n (by omega) (by omega) (by rw [hz2]; omega) (by omega)
  rw [h, hz1]
  simp only [Int.toNat_natCast, Nat.mul_one]
  congr 3
  apply Array.ext
  · simp [madeCells]
  · intro i h1 h2; simp [madeCells, Value.cells, Nat.mod_one]
end Go.Proofs.Yteicdkknciljhaa
