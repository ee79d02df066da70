import Derived.Test.YtdcganigfihkjaaGreatDoorM8
import Derived.Test.YtdcganigfihkjaaGreatDoorM6
/- The four moduli: what they are, and that Montgomery's way serves them. -/
namespace Go.Proofs.YtdcganigfihkjaaGreatDoor
open Go.RowKit Go.Chr
abbrev p0 : Nat := 115792089210356248762697446949407573530086143415290314195533631308867097853951
abbrev q0 : Nat := 134799733323198995502561713907086292154532538166959272814710328655875
abbrev v0 : Int := 1
theorem ok0 : ModOK p0 q0 v0 := ⟨by decide, by decide, by decide +kernel, by decide +kernel, ⟨115792089183396302114378112356516095823261736990586219612555396166510339686400, by decide +kernel⟩⟩
abbrev p1 : Nat := 115792089210356248762697446949407573529996955224135760342422259061068512044369
abbrev q1 : Nat := 46533765739406314298121036767150998762426774378559716911348521029833835802274
abbrev v1 : Int := 14758798090332847183
theorem ok1 : ModOK p1 q1 v1 := ⟨by decide, by decide, by decide +kernel, by decide +kernel, ⟨43790243014242295660885426880012836369732278457577312309071968676491870960761, by decide +kernel⟩⟩
abbrev p2 : Nat := 57896044618658097711785492504343953926634992332820282019728792003956564819949
abbrev q2 : Nat := 1444
abbrev v2 : Int := 9708812670373448219
theorem ok2 : ModOK p2 q2 v2 := ⟨by decide, by decide, by decide +kernel, by decide +kernel, ⟨10665060850805439052171011777115991512801182798151104582581619579676209308938, by decide +kernel⟩⟩
abbrev p3 : Nat := 7237005577332262213973186563042994240857116359379907606001950938285454250989
abbrev q3 : Nat := 1627715501170711445284395025044413883736156588369414752970002579683115011841
abbrev v3 : Int := 15183074304973897243
theorem ok3 : ModOK p3 q3 v3 := ⟨by decide, by decide, by decide +kernel, by decide +kernel, ⟨4458503529701987551646482192314240623644693141688353256590997718326214331684, by decide +kernel⟩⟩
def pK : Nat → Nat
 | 0 => p0
 | 1 => p1
 | 2 => p2
 | _ => p3
def qK : Nat → Nat
 | 0 => q0
 | 1 => q1
 | 2 => q2
 | _ => q3
def vK : Nat → Int
 | 0 => v0
 | 1 => v1
 | 2 => v2
 | _ => v3
theorem okK (k : Nat) : ModOK (pK k) (qK k) (vK k) := by
 rcases k with _ | _ | _ | k
 ·exact ok0
 ·exact ok1
 ·exact ok2
 ·exact ok3
def TabAt (W : World) (g : Nat) (tab : Array Value) : Prop := g < W.heap.size ∧ ∀ i u, tab[i]? = some u → W.cell? ⟨g, i, none⟩ = some u
theorem TabAt.below {W W' : World} {g : Nat} {tab : Array Value} (h : TabAt W g tab) (hb : Below W.heap.size W W') : TabAt W' g tab :=
 ⟨Nat.lt_of_lt_of_le h.1 hb.size, fun i u hu => (hb.cell (p := ⟨g, i, none⟩) h.1).trans (h.2 i u hu)⟩
theorem TabAt.alloc {W : World} {g : Nat} {tab : Array Value} (h : TabAt W g tab) (o : Obj) : TabAt (W.alloc o) g tab := h.below ((Below.refl _ _).alloc (Nat.le_refl _) o)
def modTab : Array Value := #[.int .u64 18446744073709551615, .int .u64 4294967295, .int .u64 0, .int .u64 18446744069414584321, .int .u64 3, .int .u64 18446744056529682431, .int .u64 18446744073709551614, .int .u64 21474836477, .int .u64 1, .int .u64 17562291160714782033, .int .u64 13611842547513532036, .int .u64 18446744073709551615, .int .u64 18446744069414584320, .int .u64 9449762124159643298, .int .u64 5087230966250696614, .int .u64 2901921493521525849, .int .u64 7413256579398063648, .int .u64 14758798090332847183, .int .u64 18446744073709551597, .int .u64 18446744073709551615, .int .u64 18446744073709551615, .int .u64 9223372036854775807, .int .u64 1444, .int .u64 0, .int .u64 0, .int .u64 0, .int .u64 9708812670373448219, .int .u64 6346243789798364141, .int .u64 1503914060200516822, .int .u64 0, .int .u64 1152921504606846976, .int .u64 11819153939886771969, .int .u64 14991950615390032711, .int .u64 14910419812499177061, .int .u64 259310039853996605, .int .u64 15183074304973897243]
def oneTab : Array Value := #[.int .u64 1, .int .u64 0, .int .u64 0, .int .u64 0]
def bTab : Array Value := #[.int .u64 4309448131093880907, .int .u64 7285987128567378166, .int .u64 12964664127075681980, .int .u64 6540974713487397863]
abbrev cvB : Nat := 41058363725152142129326129780047268409114441015993725554835256314039467401291
def GV (W : World) : Prop := TabAt W 2 modTab ∧ TabAt W 0 oneTab ∧ TabAt W 1 bTab
theorem GV.below {W W' : World} (h : GV W) (hb : Below W.heap.size W W') : GV W' := ⟨h.1.below hb, h.2.1.below hb, h.2.2.below hb⟩
theorem GV.alloc {W : World} (h : GV W) (o : Obj) : GV (W.alloc o) := h.below ((Below.refl _ _).alloc (Nat.le_refl _) o)
theorem GV.drew {W : World} (h : GV W) : GV W.drew := h
theorem mod_cells0 {W : World} (h : GV W) : W.cell? ⟨2, 0, none⟩ = some (.int .u64 (lb p0 0)) ∧ W.cell? ⟨2, 1, none⟩ = some (.int .u64 (lb p0 1)) ∧ W.cell? ⟨2, 2, none⟩ = some (.int .u64 (lb p0 2)) ∧ W.cell? ⟨2, 3, none⟩ = some (.int .u64 (lb p0 3)) ∧ W.cell? ⟨2, 4, none⟩ = some (.int .u64 (lb q0 0)) ∧ W.cell? ⟨2, 5, none⟩ = some (.int .u64 (lb q0 1)) ∧ W.cell? ⟨2, 6, none⟩ = some (.int .u64 (lb q0 2)) ∧ W.cell? ⟨2, 7, none⟩ = some (.int .u64 (lb q0 3)) ∧ W.cell? ⟨2, 8, none⟩ = some (.int .u64 v0) := by
 refine ⟨(h.1.2 0 (.int .u64 18446744073709551615) rfl).trans (congrArg (fun n => some (Value.int .u64 n)) (show (18446744073709551615 : Int) = (lb p0 0) by decide +kernel)), (h.1.2 1 (.int .u64 4294967295) rfl).trans (congrArg (fun n => some (Value.int .u64 n)) (show (4294967295 : Int) = (lb p0 1) by decide +kernel)), (h.1.2 2 (.int .u64 0) rfl).trans (congrArg (fun n => some (Value.int .u64 n)) (show (0 : Int) = (lb p0 2) by decide +kernel)), (h.1.2 3 (.int .u64 18446744069414584321) rfl).trans (congrArg (fun n => some (Value.int .u64 n)) (show (18446744069414584321 : Int) = (lb p0 3) by decide +kernel)), (h.1.2 4 (.int .u64 3) rfl).trans (congrArg (fun n => some (Value.int .u64 n)) (show (3 : Int) = (lb q0 0) by decide +kernel)), (h.1.2 5 (.int .u64 18446744056529682431) rfl).trans (congrArg (fun n => some (Value.int .u64 n)) (show (18446744056529682431 : Int) = (lb q0 1) by decide +kernel)), (h.1.2 6 (.int .u64 18446744073709551614) rfl).trans (congrArg (fun n => some (Value.int .u64 n)) (show (18446744073709551614 : Int) = (lb q0 2) by decide +kernel)), (h.1.2 7 (.int .u64 21474836477) rfl).trans (congrArg (fun n => some (Value.int .u64 n)) (show (21474836477 : Int) = (lb q0 3) by decide +kernel)), (h.1.2 8 (.int .u64 1) rfl).trans (congrArg (fun n => some (Value.int .u64 n)) (show (1 : Int) = v0 by decide +kernel))⟩
theorem mod_cells1 {W : World} (h : GV W) : W.cell? ⟨2, 9, none⟩ = some (.int .u64 (lb p1 0)) ∧ W.cell? ⟨2, 10, none⟩ = some (.int .u64 (lb p1 1)) ∧ W.cell? ⟨2, 11, none⟩ = some (.int .u64 (lb p1 2)) ∧ W.cell? ⟨2, 12, none⟩ = some (.int .u64 (lb p1 3)) ∧ W.cell? ⟨2, 13, none⟩ = some (.int .u64 (lb q1 0)) ∧ W.cell? ⟨2, 14, none⟩ = some (.int .u64 (lb q1 1)) ∧ W.cell? ⟨2, 15, none⟩ = some (.int .u64 (lb q1 2)) ∧ W.cell? ⟨2, 16, none⟩ = some (.int .u64 (lb q1 3)) ∧ W.cell? ⟨2, 17, none⟩ = some (.int .u64 v1) := by
 refine ⟨(h.1.2 9 (.int .u64 17562291160714782033) rfl).trans (congrArg (fun n => some (Value.int .u64 n)) (show (17562291160714782033 : Int) = (lb p1 0) by decide +kernel)), (h.1.2 10 (.int .u64 13611842547513532036) rfl).trans (congrArg (fun n => some (Value.int .u64 n)) (show (13611842547513532036 : Int) = (lb p1 1) by decide +kernel)), (h.1.2 11 (.int .u64 18446744073709551615) rfl).trans (congrArg (fun n => some (Value.int .u64 n)) (show (18446744073709551615 : Int) = (lb p1 2) by decide +kernel)), (h.1.2 12 (.int .u64 18446744069414584320) rfl).trans (congrArg (fun n => some (Value.int .u64 n)) (show (18446744069414584320 : Int) = (lb p1 3) by decide +kernel)), (h.1.2 13 (.int .u64 9449762124159643298) rfl).trans (congrArg (fun n => some (Value.int .u64 n)) (show (9449762124159643298 : Int) = (lb q1 0) by decide +kernel)), (h.1.2 14 (.int .u64 5087230966250696614) rfl).trans (congrArg (fun n => some (Value.int .u64 n)) (show (5087230966250696614 : Int) = (lb q1 1) by decide +kernel)), (h.1.2 15 (.int .u64 2901921493521525849) rfl).trans (congrArg (fun n => some (Value.int .u64 n)) (show (2901921493521525849 : Int) = (lb q1 2) by decide +kernel)), (h.1.2 16 (.int .u64 7413256579398063648) rfl).trans (congrArg (fun n => some (Value.int .u64 n)) (show (7413256579398063648 : Int) = (lb q1 3) by decide +kernel)), (h.1.2 17 (.int .u64 14758798090332847183) rfl).trans (congrArg (fun n => some (Value.int .u64 n)) (show (14758798090332847183 : Int) = v1 by decide +kernel))⟩
theorem mod_cells2 {W : World} (h : GV W) : W.cell? ⟨2, 18, none⟩ = some (.int .u64 (lb p2 0)) ∧ W.cell? ⟨2, 19, none⟩ = some (.int .u64 (lb p2 1)) ∧ W.cell? ⟨2, 20, none⟩ = some (.int .u64 (lb p2 2)) ∧ W.cell? ⟨2, 21, none⟩ = some (.int .u64 (lb p2 3)) ∧ W.cell? ⟨2, 22, none⟩ = some (.int .u64 (lb q2 0)) ∧ W.cell? ⟨2, 23, none⟩ = some (.int .u64 (lb q2 1)) ∧ W.cell? ⟨2, 24, none⟩ = some (.int .u64 (lb q2 2)) ∧ W.cell? ⟨2, 25, none⟩ = some (.int .u64 (lb q2 3)) ∧ W.cell? ⟨2, 26, none⟩ = some (.int .u64 v2) := by
 refine ⟨(h.1.2 18 (.int .u64 18446744073709551597) rfl).trans (congrArg (fun n => some (Value.int .u64 n)) (show (18446744073709551597 : Int) = (lb p2 0) by decide +kernel)), (h.1.2 19 (.int .u64 18446744073709551615) rfl).trans (congrArg (fun n => some (Value.int .u64 n)) (show (18446744073709551615 : Int) = (lb p2 1) by decide +kernel)), (h.1.2 20 (.int .u64 18446744073709551615) rfl).trans (congrArg (fun n => some (Value.int .u64 n)) (show (18446744073709551615 : Int) = (lb p2 2) by decide +kernel)), (h.1.2 21 (.int .u64 9223372036854775807) rfl).trans (congrArg (fun n => some (Value.int .u64 n)) (show (9223372036854775807 : Int) = (lb p2 3) by decide +kernel)), (h.1.2 22 (.int .u64 1444) rfl).trans (congrArg (fun n => some (Value.int .u64 n)) (show (1444 : Int) = (lb q2 0) by decide +kernel)), (h.1.2 23 (.int .u64 0) rfl).trans (congrArg (fun n => some (Value.int .u64 n)) (show (0 : Int) = (lb q2 1) by decide +kernel)), (h.1.2 24 (.int .u64 0) rfl).trans (congrArg (fun n => some (Value.int .u64 n)) (show (0 : Int) = (lb q2 2) by decide +kernel)), (h.1.2 25 (.int .u64 0) rfl).trans (congrArg (fun n => some (Value.int .u64 n)) (show (0 : Int) = (lb q2 3) by decide +kernel)), (h.1.2 26 (.int .u64 9708812670373448219) rfl).trans (congrArg (fun n => some (Value.int .u64 n)) (show (9708812670373448219 : Int) = v2 by decide +kernel))⟩
theorem mod_cells3 {W : World} (h : GV W) : W.cell? ⟨2, 27, none⟩ = some (.int .u64 (lb p3 0)) ∧ W.cell? ⟨2, 28, none⟩ = some (.int .u64 (lb p3 1)) ∧ W.cell? ⟨2, 29, none⟩ = some (.int .u64 (lb p3 2)) ∧ W.cell? ⟨2, 30, none⟩ = some (.int .u64 (lb p3 3)) ∧ W.cell? ⟨2, 31, none⟩ = some (.int .u64 (lb q3 0)) ∧ W.cell? ⟨2, 32, none⟩ = some (.int .u64 (lb q3 1)) ∧ W.cell? ⟨2, 33, none⟩ = some (.int .u64 (lb q3 2)) ∧ W.cell? ⟨2, 34, none⟩ = some (.int .u64 (lb q3 3)) ∧ W.cell? ⟨2, 35, none⟩ = some (.int .u64 v3) := by
 refine ⟨(h.1.2 27 (.int .u64 6346243789798364141) rfl).trans (congrArg (fun n => some (Value.int .u64 n)) (show (6346243789798364141 : Int) = (lb p3 0) by decide +kernel)), (h.1.2 28 (.int .u64 1503914060200516822) rfl).trans (congrArg (fun n => some (Value.int .u64 n)) (show (1503914060200516822 : Int) = (lb p3 1) by decide +kernel)), (h.1.2 29 (.int .u64 0) rfl).trans (congrArg (fun n => some (Value.int .u64 n)) (show (0 : Int) = (lb p3 2) by decide +kernel)), (h.1.2 30 (.int .u64 1152921504606846976) rfl).trans (congrArg (fun n => some (Value.int .u64 n)) (show (1152921504606846976 : Int) = (lb p3 3) by decide +kernel)), (h.1.2 31 (.int .u64 11819153939886771969) rfl).trans (congrArg (fun n => some (Value.int .u64 n)) (show (11819153939886771969 : Int) = (lb q3 0) by decide +kernel)), (h.1.2 32 (.int .u64 14991950615390032711) rfl).trans (congrArg (fun n => some (Value.int .u64 n)) (show (14991950615390032711 : Int) = (lb q3 1) by decide +kernel)), (h.1.2 33 (.int .u64 14910419812499177061) rfl).trans (congrArg (fun n => some (Value.int .u64 n)) (show (14910419812499177061 : Int) = (lb q3 2) by decide +kernel)), (h.1.2 34 (.int .u64 259310039853996605) rfl).trans (congrArg (fun n => some (Value.int .u64 n)) (show (259310039853996605 : Int) = (lb q3 3) by decide +kernel)), (h.1.2 35 (.int .u64 15183074304973897243) rfl).trans (congrArg (fun n => some (Value.int .u64 n)) (show (15183074304973897243 : Int) = v3 by decide +kernel))⟩
set_option maxRecDepth 100000 in
set_option maxHeartbeats 1000000 in
theorem of_any (k : Nat) (hk : k < 4) (w : World) (hG : GV w) :
  Calls Tryz.prog 44 #[.int .i64 k] w (RetV w (.tuple #[.agg (modC (pK k) (qK k) (vK k)), .bool true])) := by
 have hb : Blk (w.alloc (.cells #[.int .u64 0, .int .u64 0, .int .u64 0, .int .u64 0, .int .u64 0, .int .u64 0, .int .u64 0, .int .u64 0, .int .u64 0] 68)) w.heap.size 68 #[.int .u64 0, .int .u64 0, .int .u64 0, .int .u64 0, .int .u64 0, .int .u64 0, .int .u64 0, .int .u64 0, .int .u64 0] := Blk.new w _ _
 have hf := hb.frozen
 obtain ⟨⟨z0, z1, z2, z3⟩, ⟨z4, z5, z6, z7⟩, z8⟩ := blk_c9 hb
 have HBk := Lib.hid hb
 have hg := hG.1.1
 rcases k with _ | _ | _ | _ | k
 ·obtain ⟨c0, c1, c2, c3, c4, c5, c6, c7, c8⟩ := mod_cells0 (hG.alloc (.cells #[.int .u64 0, .int .u64 0, .int .u64 0, .int .u64 0, .int .u64 0, .int .u64 0, .int .u64 0, .int .u64 0, .int .u64 0] 68))
  clear hG hb
  go_enter Tryz.func44, Tryz.ntmps44
  go_wp2
  exact bodyPost_ret (results_blk_tmp Tryz.results44 rfl (Blk.new w 68 _) rfl Tryz.underlying68 (by kernel_rfl)) rfl ⟨rfl, (Below.refl _ _).alloc (Nat.le_refl _) _⟩
 ·obtain ⟨c0, c1, c2, c3, c4, c5, c6, c7, c8⟩ := mod_cells1 (hG.alloc (.cells #[.int .u64 0, .int .u64 0, .int .u64 0, .int .u64 0, .int .u64 0, .int .u64 0, .int .u64 0, .int .u64 0, .int .u64 0] 68))
  clear hG hb
  go_enter Tryz.func44, Tryz.ntmps44
  go_wp2
  exact bodyPost_ret (results_blk_tmp Tryz.results44 rfl (Blk.new w 68 _) rfl Tryz.underlying68 (by kernel_rfl)) rfl ⟨rfl, (Below.refl _ _).alloc (Nat.le_refl _) _⟩
 ·obtain ⟨c0, c1, c2, c3, c4, c5, c6, c7, c8⟩ := mod_cells2 (hG.alloc (.cells #[.int .u64 0, .int .u64 0, .int .u64 0, .int .u64 0, .int .u64 0, .int .u64 0, .int .u64 0, .int .u64 0, .int .u64 0] 68))
  clear hG hb
  go_enter Tryz.func44, Tryz.ntmps44
  go_wp2
  exact bodyPost_ret (results_blk_tmp Tryz.results44 rfl (Blk.new w 68 _) rfl Tryz.underlying68 (by kernel_rfl)) rfl ⟨rfl, (Below.refl _ _).alloc (Nat.le_refl _) _⟩
 ·obtain ⟨c0, c1, c2, c3, c4, c5, c6, c7, c8⟩ := mod_cells3 (hG.alloc (.cells #[.int .u64 0, .int .u64 0, .int .u64 0, .int .u64 0, .int .u64 0, .int .u64 0, .int .u64 0, .int .u64 0, .int .u64 0] 68))
  clear hG hb
  go_enter Tryz.func44, Tryz.ntmps44
  go_wp2
  exact bodyPost_ret (results_blk_tmp Tryz.results44 rfl (Blk.new w 68 _) rfl Tryz.underlying68 (by kernel_rfl)) rfl ⟨rfl, (Below.refl _ _).alloc (Nat.le_refl _) _⟩
 ·omega
end Go.Proofs.YtdcganigfihkjaaGreatDoor
/- Contracts of the layer field: Add, Sub, Mul. -/
namespace Go.Proofs.YtdcganigfihkjaaGreatDoor
open Go.RowKit Go.Chr
def subM (m x y : Nat) : Nat := (m + x % m - y % m) % m
set_option maxRecDepth 100000 in
set_option maxHeartbeats 4000000 in
theorem fAdd_any (k x y : Nat) (hk : k < 4) (w : World) (hG : GV w) (hx : x < 115792089237316195423570985008687907853269984665640564039457584007913129639936) (hy : y < 115792089237316195423570985008687907853269984665640564039457584007913129639936) :
  Calls Tryz.prog 28 #[.int .i64 k, nat4 x, nat4 y] w (RetV w (nat4 ((x + y) % pK k))) := by
 have ok := okK k
 have k1 := fun W => fold_any (pK k) (qK k) (vK k) x W ok.pos ok.lt hx
 have k2 := fun W => fold_any (pK k) (qK k) (vK k) y W ok.pos ok.lt hy
 have k3 := fun W => fadd_any (pK k) (qK k) (vK k) (x % pK k) (y % pK k) W (Nat.mod_lt _ ok.pos) (Nat.mod_lt _ ok.pos) ok.lt
 simp only [show (x % pK k + y % pK k) % pK k = (x + y) % pK k from (Nat.add_mod _ _ _).symm] at k3
 have K1 := Lib.hid k1; have K2 := Lib.hid k2; have K3 := Lib.hid k3
 clear k1 k2 k3 ok hx hy
 obtain ⟨W0, hW0⟩ : ∃ W0, W0 = ((w.alloc (.cells (natC x) 27)).alloc (.cells (natC y) 27)).alloc (.cells #[.int .u64 0, .int .u64 0, .int .u64 0, .int .u64 0] 27) := ⟨_, rfl⟩
 have z0 := ((Blk.new w 27 (natC x)).alloc (.cells (natC y) 27)).alloc (.cells #[.int .u64 0, .int .u64 0, .int .u64 0, .int .u64 0] 27)
 have z1 := (Blk.new (w.alloc (.cells (natC x) 27)) 27 (natC y)).alloc (.cells #[.int .u64 0, .int .u64 0, .int .u64 0, .int .u64 0] 27)
 have z2 := Blk.new ((w.alloc (.cells (natC x) 27)).alloc (.cells (natC y) 27)) 27 #[.int .u64 0, .int .u64 0, .int .u64 0, .int .u64 0]
 have z3 : Below w.heap.size w (((w.alloc (.cells (natC x) 27)).alloc (.cells (natC y) 27)).alloc (.cells #[.int .u64 0, .int .u64 0, .int .u64 0, .int .u64 0] 27)) := (((Below.refl _ _).alloc (Nat.le_refl _) _).alloc (by simp) _).alloc (by simp; omega) _
 have z4 := ((hG.alloc (.cells (natC x) 27)).alloc (.cells (natC y) 27)).alloc (.cells #[.int .u64 0, .int .u64 0, .int .u64 0, .int .u64 0] 27)
 rw [World.size_alloc] at z1
 rw [World.size_alloc, World.size_alloc] at z2
 rw [← hW0] at z0 z1 z2 z3 z4
 have Z0 := Lib.hid z0; have Z1 := Lib.hid z1; have Z2 := Lib.hid z2; have Z3 := Lib.hid z3; have Z4 := Lib.hid z4
 clear z0 z1 z2 z3 z4 hG
 go_enter Tryz.func28, Tryz.ntmps28
 go_wp2_with fail
 rw [← hW0]
 clear hW0
 refine (of_any k hk W0 Z4.out).mono ?_
 rintro e w1 ⟨rfl, hb1⟩
 obtain ⟨W1, hW1⟩ : ∃ W1, W1 = w1.alloc (.cells (modC (pK k) (qK k) (vK k)) 68) := ⟨_, rfl⟩
 obtain ⟨g, hg⟩ : ∃ g, g = w1.heap.size := ⟨_, rfl⟩
 have y0 : Blk W1 w.heap.size 27 (natC x) := by rw [hW1]; exact (Z0.out.below hb1 Z0.out.lt).alloc _
 have y1 : Blk W1 (w.heap.size + 1) 27 (natC y) := by rw [hW1]; exact (Z1.out.below hb1 Z1.out.lt).alloc _
 have y2 : Blk W1 (w.heap.size + 2) 27 #[.int .u64 0, .int .u64 0, .int .u64 0, .int .u64 0] := by rw [hW1]; exact (Z2.out.below hb1 Z2.out.lt).alloc _
 have y3 : Blk W1 g 68 (modC (pK k) (qK k) (vK k)) := by rw [hW1, hg]; exact Blk.new w1 _ _
 have y4 : Below w.heap.size w W1 := by
  have h := Z3.out.trans (hb1.mono Z3.out.size)
  rw [hW1]; exact h.alloc h.size _
 have hgl : w.heap.size + 2 < g := by rw [hg]; exact Nat.lt_of_lt_of_le Z2.out.lt hb1.size
 have hgW : g < W1.heap.size := y3.lt
 obtain ⟨⟨m0, m1, m2, m3⟩, ⟨m4, m5, m6, m7⟩, m8⟩ := blk_c9 y3
 obtain ⟨a0, a1, a2, a3⟩ := blk_c4 y0
 obtain ⟨b0, b1, b2, b3⟩ := blk_c4 y1
 have Y2 := Lib.hid y2; have Y4 := Lib.hid y4
 clear y0 y1 y2 y3 y4 hb1 Z0 Z1 Z2 Z3 Z4
 have n1 : w.heap.size ≠ w.heap.size + 1 + 1 := by omega
 have n2 : w.heap.size ≠ w.heap.size + 1 := by omega
 have n3 : g ≠ w.heap.size + 1 + 1 := by omega
 have n1' := n1.symm
 have n2' := n2.symm
 have n3' := n3.symm
 go_wp2_with fail
 rw [← hW1, ← hg]
 clear hW1 hg
 go_region_held3 (fun w' => w'.cell? ⟨g, 0, none⟩ = some (.int .u64 (lb (pK k) 0)) ∧ w'.cell? ⟨g, 1, none⟩ = some (.int .u64 (lb (pK k) 1)) ∧ w'.cell? ⟨g, 2, none⟩ = some (.int .u64 (lb (pK k) 2)) ∧ w'.cell? ⟨g, 3, none⟩ = some (.int .u64 (lb (pK k) 3)) ∧ w'.cell? ⟨g, 4, none⟩ = some (.int .u64 (lb (qK k) 0)) ∧ w'.cell? ⟨g, 5, none⟩ = some (.int .u64 (lb (qK k) 1)) ∧ w'.cell? ⟨g, 6, none⟩ = some (.int .u64 (lb (qK k) 2)) ∧ w'.cell? ⟨g, 7, none⟩ = some (.int .u64 (lb (qK k) 3)) ∧ w'.cell? ⟨g, 8, none⟩ = some (.int .u64 (vK k)) ∧ w'.cell? ⟨w.heap.size, 0, none⟩ = some (.int .u64 (lb x 0)) ∧ w'.cell? ⟨w.heap.size, 1, none⟩ = some (.int .u64 (lb x 1)) ∧ w'.cell? ⟨w.heap.size, 2, none⟩ = some (.int .u64 (lb x 2)) ∧ w'.cell? ⟨w.heap.size, 3, none⟩ = some (.int .u64 (lb x 3)) ∧ w'.cell? ⟨w.heap.size + 1, 0, none⟩ = some (.int .u64 (lb y 0)) ∧ w'.cell? ⟨w.heap.size + 1, 1, none⟩ = some (.int .u64 (lb y 1)) ∧ w'.cell? ⟨w.heap.size + 1, 2, none⟩ = some (.int .u64 (lb y 2)) ∧ w'.cell? ⟨w.heap.size + 1, 3, none⟩ = some (.int .u64 (lb y 3)))
  (go_keep)
  (first
   | (go_at_call 47; (with_reducible refine (K1.out _).mono ?_); rintro e w2 ⟨rfl, hb2⟩; obtain ⟨hc2, -⟩ := bcell hb2; have hc2a := fun o => hc2 w.heap.size o (show w.heap.size < W1.heap.size by omega); have hc2b := fun o => hc2 (w.heap.size + 1) o (show w.heap.size + 1 < W1.heap.size by omega); have hc2c := fun o => hc2 g o (show g < W1.heap.size from hgW); clear hc2; have x2 := Lib.hid (Blk.below (Blk.drew Y2.out) hb2 Y2.out.lt); have x4 := Lib.hid (Below.trans (Below.drew Y4.out) (hb2.mono Y4.out.size)); have hg2 : g < w2.heap.size := Nat.lt_of_lt_of_le hgW hb2.size)
   | (go_at_call 47; (with_reducible refine (K2.out _).mono ?_); rintro e w3 ⟨rfl, hb3⟩; obtain ⟨hc3, -⟩ := bcell hb3; have hc3a := fun o => hc3 w.heap.size o (by omega); have hc3b := fun o => hc3 (w.heap.size + 1) o (by omega); have hc3c := fun o => hc3 g o hg2; clear hc3; have u2 := Lib.hid (x2.out.below hb3 x2.out.lt); have u4 := Lib.hid (x4.out.trans (hb3.mono x4.out.size)); have hg3 : g < w3.heap.size := Nat.lt_of_lt_of_le hg2 hb3.size)
   | (go_at_call 61; (with_reducible refine (K3.out _).mono ?_); rintro e w4 ⟨rfl, hb4⟩; obtain ⟨hc4, -⟩ := bcell hb4; have hc4a := fun o => hc4 w.heap.size o (by omega); have hc4b := fun o => hc4 (w.heap.size + 1) o (by omega); have hc4c := fun o => hc4 g o hg3; clear hc4; have t2 := Lib.hid (u2.out.below hb4 u2.out.lt); have t4 := Lib.hid (u4.out.trans (hb4.mono u4.out.size)); obtain ⟨d0, d1, d2, d3⟩ := blk_c4 t2.out; have df := t2.out.frozen))
 have hfin := Lib.hid (set_nat t2.out rfl ((x + y) % pK k))
 clear hc2a hc2b hc2c hc3a hc3b hc3c hc4a hc4b hc4c d0 d1 d2 d3 df hb2 hb3 hb4 x2 x4 u2 u4
 go_wp2
 exact bodyPost_ret (results_blk (d := .array 4 25) Tryz.results28 rfl hfin.out.1 rfl Tryz.underlying27 (by kernel_rfl)) rfl ⟨rfl, t4.out.trans (gb_to_below hfin.out.2 t4.out.size (fun k e => by injection e; omega))⟩
set_option maxRecDepth 100000 in
set_option maxHeartbeats 4000000 in
theorem fSub_any (k x y : Nat) (hk : k < 4) (w : World) (hG : GV w) (hx : x < 115792089237316195423570985008687907853269984665640564039457584007913129639936) (hy : y < 115792089237316195423570985008687907853269984665640564039457584007913129639936) :
  Calls Tryz.prog 106 #[.int .i64 k, nat4 x, nat4 y] w (RetV w (nat4 (subM (pK k) x y))) := by
 have ok := okK k
 have k1 := fun W => fold_any (pK k) (qK k) (vK k) x W ok.pos ok.lt hx
 have k2 := fun W => fold_any (pK k) (qK k) (vK k) y W ok.pos ok.lt hy
 have k3 := fun W => fsub_any (pK k) (qK k) (vK k) (x % pK k) (y % pK k) W (Nat.mod_lt _ ok.pos) (Nat.mod_lt _ ok.pos) ok.lt
 simp only [show (pK k + x % pK k - y % pK k) % pK k = subM (pK k) x y from rfl] at k3
 have K1 := Lib.hid k1; have K2 := Lib.hid k2; have K3 := Lib.hid k3
 clear k1 k2 k3 ok hx hy
 obtain ⟨W0, hW0⟩ : ∃ W0, W0 = ((w.alloc (.cells (natC x) 27)).alloc (.cells (natC y) 27)).alloc (.cells #[.int .u64 0, .int .u64 0, .int .u64 0, .int .u64 0] 27) := ⟨_, rfl⟩
 have z0 := ((Blk.new w 27 (natC x)).alloc (.cells (natC y) 27)).alloc (.cells #[.int .u64 0, .int .u64 0, .int .u64 0, .int .u64 0] 27)
 have z1 := (Blk.new (w.alloc (.cells (natC x) 27)) 27 (natC y)).alloc (.cells #[.int .u64 0, .int .u64 0, .int .u64 0, .int .u64 0] 27)
 have z2 := Blk.new ((w.alloc (.cells (natC x) 27)).alloc (.cells (natC y) 27)) 27 #[.int .u64 0, .int .u64 0, .int .u64 0, .int .u64 0]
 have z3 : Below w.heap.size w (((w.alloc (.cells (natC x) 27)).alloc (.cells (natC y) 27)).alloc (.cells #[.int .u64 0, .int .u64 0, .int .u64 0, .int .u64 0] 27)) := (((Below.refl _ _).alloc (Nat.le_refl _) _).alloc (by simp) _).alloc (by simp; omega) _
 have z4 := ((hG.alloc (.cells (natC x) 27)).alloc (.cells (natC y) 27)).alloc (.cells #[.int .u64 0, .int .u64 0, .int .u64 0, .int .u64 0] 27)
 rw [World.size_alloc] at z1
 rw [World.size_alloc, World.size_alloc] at z2
 rw [← hW0] at z0 z1 z2 z3 z4
 have Z0 := Lib.hid z0; have Z1 := Lib.hid z1; have Z2 := Lib.hid z2; have Z3 := Lib.hid z3; have Z4 := Lib.hid z4
 clear z0 z1 z2 z3 z4 hG
 go_enter Tryz.func106, Tryz.ntmps106
 go_wp2_with fail
 rw [← hW0]
 clear hW0
 refine (of_any k hk W0 Z4.out).mono ?_
 rintro e w1 ⟨rfl, hb1⟩
 obtain ⟨W1, hW1⟩ : ∃ W1, W1 = w1.alloc (.cells (modC (pK k) (qK k) (vK k)) 68) := ⟨_, rfl⟩
 obtain ⟨g, hg⟩ : ∃ g, g = w1.heap.size := ⟨_, rfl⟩
 have y0 : Blk W1 w.heap.size 27 (natC x) := by rw [hW1]; exact (Z0.out.below hb1 Z0.out.lt).alloc _
 have y1 : Blk W1 (w.heap.size + 1) 27 (natC y) := by rw [hW1]; exact (Z1.out.below hb1 Z1.out.lt).alloc _
 have y2 : Blk W1 (w.heap.size + 2) 27 #[.int .u64 0, .int .u64 0, .int .u64 0, .int .u64 0] := by rw [hW1]; exact (Z2.out.below hb1 Z2.out.lt).alloc _
 have y3 : Blk W1 g 68 (modC (pK k) (qK k) (vK k)) := by rw [hW1, hg]; exact Blk.new w1 _ _
 have y4 : Below w.heap.size w W1 := by
  have h := Z3.out.trans (hb1.mono Z3.out.size)
  rw [hW1]; exact h.alloc h.size _
 have hgl : w.heap.size + 2 < g := by rw [hg]; exact Nat.lt_of_lt_of_le Z2.out.lt hb1.size
 have hgW : g < W1.heap.size := y3.lt
 obtain ⟨⟨m0, m1, m2, m3⟩, ⟨m4, m5, m6, m7⟩, m8⟩ := blk_c9 y3
 obtain ⟨a0, a1, a2, a3⟩ := blk_c4 y0
 obtain ⟨b0, b1, b2, b3⟩ := blk_c4 y1
 have Y2 := Lib.hid y2; have Y4 := Lib.hid y4
 clear y0 y1 y2 y3 y4 hb1 Z0 Z1 Z2 Z3 Z4
 have n1 : w.heap.size ≠ w.heap.size + 1 + 1 := by omega
 have n2 : w.heap.size ≠ w.heap.size + 1 := by omega
 have n3 : g ≠ w.heap.size + 1 + 1 := by omega
 have n1' := n1.symm
 have n2' := n2.symm
 have n3' := n3.symm
 go_wp2_with fail
 rw [← hW1, ← hg]
 clear hW1 hg
 go_region_held3 (fun w' => w'.cell? ⟨g, 0, none⟩ = some (.int .u64 (lb (pK k) 0)) ∧ w'.cell? ⟨g, 1, none⟩ = some (.int .u64 (lb (pK k) 1)) ∧ w'.cell? ⟨g, 2, none⟩ = some (.int .u64 (lb (pK k) 2)) ∧ w'.cell? ⟨g, 3, none⟩ = some (.int .u64 (lb (pK k) 3)) ∧ w'.cell? ⟨g, 4, none⟩ = some (.int .u64 (lb (qK k) 0)) ∧ w'.cell? ⟨g, 5, none⟩ = some (.int .u64 (lb (qK k) 1)) ∧ w'.cell? ⟨g, 6, none⟩ = some (.int .u64 (lb (qK k) 2)) ∧ w'.cell? ⟨g, 7, none⟩ = some (.int .u64 (lb (qK k) 3)) ∧ w'.cell? ⟨g, 8, none⟩ = some (.int .u64 (vK k)) ∧ w'.cell? ⟨w.heap.size, 0, none⟩ = some (.int .u64 (lb x 0)) ∧ w'.cell? ⟨w.heap.size, 1, none⟩ = some (.int .u64 (lb x 1)) ∧ w'.cell? ⟨w.heap.size, 2, none⟩ = some (.int .u64 (lb x 2)) ∧ w'.cell? ⟨w.heap.size, 3, none⟩ = some (.int .u64 (lb x 3)) ∧ w'.cell? ⟨w.heap.size + 1, 0, none⟩ = some (.int .u64 (lb y 0)) ∧ w'.cell? ⟨w.heap.size + 1, 1, none⟩ = some (.int .u64 (lb y 1)) ∧ w'.cell? ⟨w.heap.size + 1, 2, none⟩ = some (.int .u64 (lb y 2)) ∧ w'.cell? ⟨w.heap.size + 1, 3, none⟩ = some (.int .u64 (lb y 3)))
  (go_keep)
  (first
   | (go_at_call 47; (with_reducible refine (K1.out _).mono ?_); rintro e w2 ⟨rfl, hb2⟩; obtain ⟨hc2, -⟩ := bcell hb2; have hc2a := fun o => hc2 w.heap.size o (show w.heap.size < W1.heap.size by omega); have hc2b := fun o => hc2 (w.heap.size + 1) o (show w.heap.size + 1 < W1.heap.size by omega); have hc2c := fun o => hc2 g o (show g < W1.heap.size from hgW); clear hc2; have x2 := Lib.hid (Blk.below (Blk.drew Y2.out) hb2 Y2.out.lt); have x4 := Lib.hid (Below.trans (Below.drew Y4.out) (hb2.mono Y4.out.size)); have hg2 : g < w2.heap.size := Nat.lt_of_lt_of_le hgW hb2.size)
   | (go_at_call 47; (with_reducible refine (K2.out _).mono ?_); rintro e w3 ⟨rfl, hb3⟩; obtain ⟨hc3, -⟩ := bcell hb3; have hc3a := fun o => hc3 w.heap.size o (by omega); have hc3b := fun o => hc3 (w.heap.size + 1) o (by omega); have hc3c := fun o => hc3 g o hg2; clear hc3; have u2 := Lib.hid (x2.out.below hb3 x2.out.lt); have u4 := Lib.hid (x4.out.trans (hb3.mono x4.out.size)); have hg3 : g < w3.heap.size := Nat.lt_of_lt_of_le hg2 hb3.size)
   | (go_at_call 119; (with_reducible refine (K3.out _).mono ?_); rintro e w4 ⟨rfl, hb4⟩; obtain ⟨hc4, -⟩ := bcell hb4; have hc4a := fun o => hc4 w.heap.size o (by omega); have hc4b := fun o => hc4 (w.heap.size + 1) o (by omega); have hc4c := fun o => hc4 g o hg3; clear hc4; have t2 := Lib.hid (u2.out.below hb4 u2.out.lt); have t4 := Lib.hid (u4.out.trans (hb4.mono u4.out.size)); obtain ⟨d0, d1, d2, d3⟩ := blk_c4 t2.out; have df := t2.out.frozen))
 have hfin := Lib.hid (set_nat t2.out rfl (subM (pK k) x y))
 clear hc2a hc2b hc2c hc3a hc3b hc3c hc4a hc4b hc4c d0 d1 d2 d3 df hb2 hb3 hb4 x2 x4 u2 u4
 go_wp2
 exact bodyPost_ret (results_blk (d := .array 4 25) Tryz.results106 rfl hfin.out.1 rfl Tryz.underlying27 (by kernel_rfl)) rfl ⟨rfl, t4.out.trans (gb_to_below hfin.out.2 t4.out.size (fun k e => by injection e; omega))⟩
set_option maxRecDepth 100000 in
set_option maxHeartbeats 4000000 in
theorem fMul_any (k x y : Nat) (hk : k < 4) (w : World) (hG : GV w) (hx : x < 115792089237316195423570985008687907853269984665640564039457584007913129639936) (hy : y < 115792089237316195423570985008687907853269984665640564039457584007913129639936) :
  Calls Tryz.prog 19 #[.int .i64 k, nat4 x, nat4 y] w (RetV w (nat4 (x * y % pK k))) := by
 have ok := okK k
 have k1 := fun W => fold_any (pK k) (qK k) (vK k) x W ok.pos ok.lt hx
 have k2 := fun W => fold_any (pK k) (qK k) (vK k) y W ok.pos ok.lt hy
 have k3 := fun W => fmul_any (pK k) (qK k) (vK k) (x % pK k) (y % pK k) W (Nat.mod_lt _ ok.pos) (Nat.mod_lt _ ok.pos) ok
 simp only [show (x % pK k) * (y % pK k) % pK k = x * y % pK k from (Nat.mul_mod _ _ _).symm] at k3
 have K1 := Lib.hid k1; have K2 := Lib.hid k2; have K3 := Lib.hid k3
 clear k1 k2 k3 ok hx hy
 obtain ⟨W0, hW0⟩ : ∃ W0, W0 = ((w.alloc (.cells (natC x) 27)).alloc (.cells (natC y) 27)).alloc (.cells #[.int .u64 0, .int .u64 0, .int .u64 0, .int .u64 0] 27) := ⟨_, rfl⟩
 have z0 := ((Blk.new w 27 (natC x)).alloc (.cells (natC y) 27)).alloc (.cells #[.int .u64 0, .int .u64 0, .int .u64 0, .int .u64 0] 27)
 have z1 := (Blk.new (w.alloc (.cells (natC x) 27)) 27 (natC y)).alloc (.cells #[.int .u64 0, .int .u64 0, .int .u64 0, .int .u64 0] 27)
 have z2 := Blk.new ((w.alloc (.cells (natC x) 27)).alloc (.cells (natC y) 27)) 27 #[.int .u64 0, .int .u64 0, .int .u64 0, .int .u64 0]
 have z3 : Below w.heap.size w (((w.alloc (.cells (natC x) 27)).alloc (.cells (natC y) 27)).alloc (.cells #[.int .u64 0, .int .u64 0, .int .u64 0, .int .u64 0] 27)) := (((Below.refl _ _).alloc (Nat.le_refl _) _).alloc (by simp) _).alloc (by simp; omega) _
 have z4 := ((hG.alloc (.cells (natC x) 27)).alloc (.cells (natC y) 27)).alloc (.cells #[.int .u64 0, .int .u64 0, .int .u64 0, .int .u64 0] 27)
 rw [World.size_alloc] at z1
 rw [World.size_alloc, World.size_alloc] at z2
 rw [← hW0] at z0 z1 z2 z3 z4
 have Z0 := Lib.hid z0; have Z1 := Lib.hid z1; have Z2 := Lib.hid z2; have Z3 := Lib.hid z3; have Z4 := Lib.hid z4
 clear z0 z1 z2 z3 z4 hG
 go_enter Tryz.func19, Tryz.ntmps19
 go_wp2_with fail
 rw [← hW0]
 clear hW0
 refine (of_any k hk W0 Z4.out).mono ?_
 rintro e w1 ⟨rfl, hb1⟩
 obtain ⟨W1, hW1⟩ : ∃ W1, W1 = w1.alloc (.cells (modC (pK k) (qK k) (vK k)) 68) := ⟨_, rfl⟩
 obtain ⟨g, hg⟩ : ∃ g, g = w1.heap.size := ⟨_, rfl⟩
 have y0 : Blk W1 w.heap.size 27 (natC x) := by rw [hW1]; exact (Z0.out.below hb1 Z0.out.lt).alloc _
 have y1 : Blk W1 (w.heap.size + 1) 27 (natC y) := by rw [hW1]; exact (Z1.out.below hb1 Z1.out.lt).alloc _
 have y2 : Blk W1 (w.heap.size + 2) 27 #[.int .u64 0, .int .u64 0, .int .u64 0, .int .u64 0] := by rw [hW1]; exact (Z2.out.below hb1 Z2.out.lt).alloc _
 have y3 : Blk W1 g 68 (modC (pK k) (qK k) (vK k)) := by rw [hW1, hg]; exact Blk.new w1 _ _
 have y4 : Below w.heap.size w W1 := by
  have h := Z3.out.trans (hb1.mono Z3.out.size)
  rw [hW1]; exact h.alloc h.size _
 have hgl : w.heap.size + 2 < g := by rw [hg]; exact Nat.lt_of_lt_of_le Z2.out.lt hb1.size
 have hgW : g < W1.heap.size := y3.lt
 obtain ⟨⟨m0, m1, m2, m3⟩, ⟨m4, m5, m6, m7⟩, m8⟩ := blk_c9 y3
 obtain ⟨a0, a1, a2, a3⟩ := blk_c4 y0
 obtain ⟨b0, b1, b2, b3⟩ := blk_c4 y1
 have Y2 := Lib.hid y2; have Y4 := Lib.hid y4
 clear y0 y1 y2 y3 y4 hb1 Z0 Z1 Z2 Z3 Z4
 have n1 : w.heap.size ≠ w.heap.size + 1 + 1 := by omega
 have n2 : w.heap.size ≠ w.heap.size + 1 := by omega
 have n3 : g ≠ w.heap.size + 1 + 1 := by omega
 have n1' := n1.symm
 have n2' := n2.symm
 have n3' := n3.symm
 go_wp2_with fail
 rw [← hW1, ← hg]
 clear hW1 hg
 go_region_held3 (fun w' => w'.cell? ⟨g, 0, none⟩ = some (.int .u64 (lb (pK k) 0)) ∧ w'.cell? ⟨g, 1, none⟩ = some (.int .u64 (lb (pK k) 1)) ∧ w'.cell? ⟨g, 2, none⟩ = some (.int .u64 (lb (pK k) 2)) ∧ w'.cell? ⟨g, 3, none⟩ = some (.int .u64 (lb (pK k) 3)) ∧ w'.cell? ⟨g, 4, none⟩ = some (.int .u64 (lb (qK k) 0)) ∧ w'.cell? ⟨g, 5, none⟩ = some (.int .u64 (lb (qK k) 1)) ∧ w'.cell? ⟨g, 6, none⟩ = some (.int .u64 (lb (qK k) 2)) ∧ w'.cell? ⟨g, 7, none⟩ = some (.int .u64 (lb (qK k) 3)) ∧ w'.cell? ⟨g, 8, none⟩ = some (.int .u64 (vK k)) ∧ w'.cell? ⟨w.heap.size, 0, none⟩ = some (.int .u64 (lb x 0)) ∧ w'.cell? ⟨w.heap.size, 1, none⟩ = some (.int .u64 (lb x 1)) ∧ w'.cell? ⟨w.heap.size, 2, none⟩ = some (.int .u64 (lb x 2)) ∧ w'.cell? ⟨w.heap.size, 3, none⟩ = some (.int .u64 (lb x 3)) ∧ w'.cell? ⟨w.heap.size + 1, 0, none⟩ = some (.int .u64 (lb y 0)) ∧ w'.cell? ⟨w.heap.size + 1, 1, none⟩ = some (.int .u64 (lb y 1)) ∧ w'.cell? ⟨w.heap.size + 1, 2, none⟩ = some (.int .u64 (lb y 2)) ∧ w'.cell? ⟨w.heap.size + 1, 3, none⟩ = some (.int .u64 (lb y 3)))
  (go_keep)
  (first
   | (go_at_call 47; (with_reducible refine (K1.out _).mono ?_); rintro e w2 ⟨rfl, hb2⟩; obtain ⟨hc2, -⟩ := bcell hb2; have hc2a := fun o => hc2 w.heap.size o (show w.heap.size < W1.heap.size by omega); have hc2b := fun o => hc2 (w.heap.size + 1) o (show w.heap.size + 1 < W1.heap.size by omega); have hc2c := fun o => hc2 g o (show g < W1.heap.size from hgW); clear hc2; have x2 := Lib.hid (Blk.below (Blk.drew Y2.out) hb2 Y2.out.lt); have x4 := Lib.hid (Below.trans (Below.drew Y4.out) (hb2.mono Y4.out.size)); have hg2 : g < w2.heap.size := Nat.lt_of_lt_of_le hgW hb2.size)
   | (go_at_call 47; (with_reducible refine (K2.out _).mono ?_); rintro e w3 ⟨rfl, hb3⟩; obtain ⟨hc3, -⟩ := bcell hb3; have hc3a := fun o => hc3 w.heap.size o (by omega); have hc3b := fun o => hc3 (w.heap.size + 1) o (by omega); have hc3c := fun o => hc3 g o hg2; clear hc3; have u2 := Lib.hid (x2.out.below hb3 x2.out.lt); have u4 := Lib.hid (x4.out.trans (hb3.mono x4.out.size)); have hg3 : g < w3.heap.size := Nat.lt_of_lt_of_le hg2 hb3.size)
   | (go_at_call 52; (with_reducible refine (K3.out _).mono ?_); rintro e w4 ⟨rfl, hb4⟩; obtain ⟨hc4, -⟩ := bcell hb4; have hc4a := fun o => hc4 w.heap.size o (by omega); have hc4b := fun o => hc4 (w.heap.size + 1) o (by omega); have hc4c := fun o => hc4 g o hg3; clear hc4; have t2 := Lib.hid (u2.out.below hb4 u2.out.lt); have t4 := Lib.hid (u4.out.trans (hb4.mono u4.out.size)); obtain ⟨d0, d1, d2, d3⟩ := blk_c4 t2.out; have df := t2.out.frozen))
 have hfin := Lib.hid (set_nat t2.out rfl (x * y % pK k))
 clear hc2a hc2b hc2c hc3a hc3b hc3c hc4a hc4b hc4c d0 d1 d2 d3 df hb2 hb3 hb4 x2 x4 u2 u4
 go_wp2
 exact bodyPost_ret (results_blk (d := .array 4 25) Tryz.results19 rfl hfin.out.1 rfl Tryz.underlying27 (by kernel_rfl)) rfl ⟨rfl, t4.out.trans (gb_to_below hfin.out.2 t4.out.size (fun k e => by injection e; omega))⟩
end Go.Proofs.YtdcganigfihkjaaGreatDoor
/- Contracts of the layer field: Fold, Modulus, pow. -/
namespace Go.Proofs.YtdcganigfihkjaaGreatDoor
open Go.RowKit Go.Chr
set_option maxRecDepth 100000 in
set_option maxHeartbeats 2000000 in
theorem fFold_any (k x : Nat) (hk : k < 4) (w : World) (hG : GV w) (hx : x < 115792089237316195423570985008687907853269984665640564039457584007913129639936) :
  Calls Tryz.prog 22 #[.int .i64 k, nat4 x] w (RetV w (nat4 (x % pK k))) := by
 have ok := okK k
 have k1 := fun W => fold_any (pK k) (qK k) (vK k) x W ok.pos ok.lt hx
 have K1 := Lib.hid k1
 clear k1 ok hx
 obtain ⟨W0, hW0⟩ : ∃ W0, W0 = (w.alloc (.cells (natC x) 27)).alloc (.cells #[.int .u64 0, .int .u64 0, .int .u64 0, .int .u64 0] 27) := ⟨_, rfl⟩
 have z0 := (Blk.new w 27 (natC x)).alloc (.cells #[.int .u64 0, .int .u64 0, .int .u64 0, .int .u64 0] 27)
 have z2 := Blk.new (w.alloc (.cells (natC x) 27)) 27 #[.int .u64 0, .int .u64 0, .int .u64 0, .int .u64 0]
 have z3 : Below w.heap.size w ((w.alloc (.cells (natC x) 27)).alloc (.cells #[.int .u64 0, .int .u64 0, .int .u64 0, .int .u64 0] 27)) := ((Below.refl _ _).alloc (Nat.le_refl _) _).alloc (by simp) _
 have z4 := (hG.alloc (.cells (natC x) 27)).alloc (.cells #[.int .u64 0, .int .u64 0, .int .u64 0, .int .u64 0] 27)
 rw [World.size_alloc] at z2
 rw [← hW0] at z0 z2 z3 z4
 have Z0 := Lib.hid z0; have Z2 := Lib.hid z2; have Z3 := Lib.hid z3; have Z4 := Lib.hid z4
 clear z0 z2 z3 z4 hG
 go_enter Tryz.func22, Tryz.ntmps22
 go_wp2_with fail
 rw [← hW0]
 clear hW0
 refine (of_any k hk W0 Z4.out).mono ?_
 rintro e w1 ⟨rfl, hb1⟩
 obtain ⟨W1, hW1⟩ : ∃ W1, W1 = w1.alloc (.cells (modC (pK k) (qK k) (vK k)) 68) := ⟨_, rfl⟩
 have x0 := Z0.out.below hb1 Z0.out.lt
 have l0 := x0.lt
 obtain ⟨a0, a1, a2, a3⟩ := blk_c4 x0
 have y2 : Blk W1 (w.heap.size + 1) 27 #[.int .u64 0, .int .u64 0, .int .u64 0, .int .u64 0] := by rw [hW1]; exact (Z2.out.below hb1 Z2.out.lt).alloc _
 have y4 : Below w.heap.size w W1 := by
  have h := Z3.out.trans (hb1.mono Z3.out.size)
  rw [hW1]; exact h.alloc h.size _
 have Y2 := Lib.hid y2; have Y4 := Lib.hid y4
 clear y2 y4 hb1 Z0 Z2 Z3 Z4 x0
 go_wp2_with fail
 rw [← hW1]
 clear hW1 a0 a1 a2 a3 l0
 refine (K1.out W1).mono ?_
 rintro e w2 ⟨rfl, hb2⟩
 have t2 := Lib.hid (Y2.out.below hb2 Y2.out.lt)
 have t4 := Lib.hid (Y4.out.trans (hb2.mono Y4.out.size))
 obtain ⟨d0, d1, d2, d3⟩ := blk_c4 t2.out
 have df := t2.out.frozen
 have hfin := Lib.hid (set_nat t2.out rfl (x % pK k))
 clear hb2 Y2 Y4
 go_wp2
 exact bodyPost_ret (results_blk (d := .array 4 25) Tryz.results22 rfl hfin.out.1 rfl Tryz.underlying27 (by kernel_rfl)) rfl ⟨rfl, t4.out.trans (gb_to_below hfin.out.2 t4.out.size (fun k e => by injection e; omega))⟩
set_option maxRecDepth 100000 in
set_option maxHeartbeats 2000000 in
theorem fModulus_any (k : Nat) (hk : k < 4) (w : World) (hG : GV w) :
  Calls Tryz.prog 84 #[.int .i64 k] w (RetV w (nat4 (pK k))) := by
 obtain ⟨W0, hW0⟩ : ∃ W0, W0 = w.alloc (.cells #[.int .u64 0, .int .u64 0, .int .u64 0, .int .u64 0] 27) := ⟨_, rfl⟩
 have z2 := Blk.new w 27 #[.int .u64 0, .int .u64 0, .int .u64 0, .int .u64 0]
 have z3 : Below w.heap.size w (w.alloc (.cells #[.int .u64 0, .int .u64 0, .int .u64 0, .int .u64 0] 27)) := (Below.refl _ _).alloc (Nat.le_refl _) _
 have z4 := hG.alloc (.cells #[.int .u64 0, .int .u64 0, .int .u64 0, .int .u64 0] 27)
 rw [← hW0] at z2 z3 z4
 have Z2 := Lib.hid z2; have Z3 := Lib.hid z3; have Z4 := Lib.hid z4
 clear z2 z3 z4 hG
 go_enter Tryz.func84, Tryz.ntmps84
 go_wp2_with fail
 rw [← hW0]
 clear hW0
 refine (of_any k hk W0 Z4.out).mono ?_
 rintro e w1 ⟨rfl, hb1⟩
 have t2 := Lib.hid (Z2.out.below hb1 Z2.out.lt)
 have t4 := Lib.hid (Z3.out.trans (hb1.mono Z3.out.size))
 have l2 := t2.out.lt
 obtain ⟨d0, d1, d2, d3⟩ := blk_c4 t2.out
 have df := t2.out.frozen
 have hfin := Lib.hid (set_nat t2.out rfl (pK k))
 have hne : w1.heap.size ≠ w.heap.size := by omega
 have hne' := hne.symm
 clear hb1 Z2 Z3 Z4
 go_wp2
 have hB := t4.out.trans (gb_to_below hfin.out.2 t4.out.size (fun k e => by injection e; omega))
 exact bodyPost_ret (results_blk (d := .array 4 25) Tryz.results84 rfl (hfin.out.1.alloc _) rfl Tryz.underlying27 (by kernel_rfl)) rfl ⟨rfl, hB.alloc hB.size _⟩
theorem pow_step (a e j m : Nat) : (if e / 2 ^ j % 2 = 1 then (a ^ (e / 2 ^ (j + 1)) % m * (a ^ (e / 2 ^ (j + 1)) % m) % m) * a % m else a ^ (e / 2 ^ (j + 1)) % m * (a ^ (e / 2 ^ (j + 1)) % m) % m) = a ^ (e / 2 ^ j) % m := by
 have h1 : e / 2 ^ j = 2 * (e / 2 ^ (j + 1)) + e / 2 ^ j % 2 := by
  rw [Nat.pow_succ, ← Nat.div_div_eq_div_mul]
  omega
 have h2 : a ^ (e / 2 ^ (j + 1)) % m * (a ^ (e / 2 ^ (j + 1)) % m) % m = a ^ (2 * (e / 2 ^ (j + 1))) % m := by
  rw [← Nat.mul_mod, ← Nat.pow_add, Nat.two_mul]
 rw [h2]
 split
 ·rename_i h
  rw [Nat.mod_mul_mod]
  conv => rhs; rw [h1, h, Nat.pow_succ]
 ·rename_i h
  have h0 : e / 2 ^ j % 2 = 0 := by omega
  conv => rhs; rw [h1, h0, Nat.add_zero]
def PowS (a e : Nat) (w W : World) : Prop :=
 Blk W (w.heap.size + 1) 27 (natC a) ∧ Blk W (w.heap.size + 2) 27 (natC e) ∧ Blk W (w.heap.size + 3) 27 #[.int .u64 0, .int .u64 0, .int .u64 0, .int .u64 0] ∧ Below w.heap.size w W
theorem PowS.below {a e : Nat} {w W W' : World} (h : PowS a e w W) (hb : Below W.heap.size W W') : PowS a e w W' :=
 ⟨h.1.below hb h.1.lt, h.2.1.below hb h.2.1.lt, h.2.2.1.below hb h.2.2.1.lt, h.2.2.2.trans (hb.mono h.2.2.2.size)⟩
theorem PowS.grown {a e : Nat} {w W W' : World} (h : PowS a e w W) (hb : W.grownBy W' (some (w.heap.size + 4))) : PowS a e w W' :=
 ⟨h.1.grown hb (by simp), h.2.1.grown hb (by simp), h.2.2.1.grown hb (by simp), h.2.2.2.trans (gb_to_below hb h.2.2.2.size (fun k e => by injection e; omega))⟩
set_option maxRecDepth 100000 in
set_option maxHeartbeats 4000000 in
theorem pow_any (m s : Nat) (v : Int) (a e : Nat) (w : World) (ha : a < m) (he : e < 115792089237316195423570985008687907853269984665640564039457584007913129639936) (ok : ModOK m s v) (h1m : 1 < m) :
  Calls Tryz.prog 46 #[.agg (modC m s v), nat4 a, nat4 e] w (RetV w (nat4 (a ^ e % m))) := by
 have hmf : ∀ (fn : Fn) (first cap : Array Value) (w : World), (Instr.makeFunc fn first cap).run Tryz.prog w = .ok (.func fn first cap) w := fun _ _ _ _ => rfl
 have mulx := fun W x y (hx : x < m) (hy : y < m) => fmul_any m s v x y W hx hy ok
 have Sx := Lib.hid (add_start m s v a e w)
 have MUL := Lib.hid mulx; have HA := Lib.hid ha; have HE := Lib.hid he; have H1 := Lib.hid h1m; have OK := Lib.hid ok
 clear mulx ha he h1m ok
 go_enter Tryz.func46, Tryz.ntmps46
 go_wp2_with fail
 go_loopw [9] (fun i wr => ∃ k : Nat, k ≤ 256 ∧ i = .int .i64 ((k : Int) - 1) ∧ Blk wr (w.heap.size + 4) 27 (natC (a ^ (e / 2 ^ k) % m)) ∧ PowS a e w wr) (fun i _ => (intOf i + 1).toNat)
 case atStart =>
  obtain ⟨z0, z1, z2, z3, z4⟩ := Sx.out
  have zt := Blk.new ((((w.alloc (.cells (modC m s v) 68)).alloc (.cells (natC a) 27)).alloc (.cells (natC e) 27)).alloc (.cells #[.int .u64 0, .int .u64 0, .int .u64 0, .int .u64 0] 27)) 27 #[.int .u64 1, .int .u64 0, .int .u64 0, .int .u64 0]
  rw [World.size_alloc, World.size_alloc, World.size_alloc, World.size_alloc] at zt
  have e1 : a ^ (e / 2 ^ 256) % m = 1 := by
   rw [Nat.div_eq_of_lt HE.out, Nat.pow_zero, Nat.mod_eq_of_lt H1.out]
  refine ⟨256, by omega, rfl, ?_, z1.alloc _, z2.alloc _, z3.alloc _, z4.alloc z4.size _⟩
  rw [e1]
  rw [show natC 1 = #[.int .u64 1, .int .u64 0, .int .u64 0, .int .u64 0] by
   unfold natC
   rw [show lb 1 0 = 1 by decide, show lb 1 1 = 0 by decide, show lb 1 2 = 0 by decide, show lb 1 3 = 0 by decide]]
  exact zt
 case round =>
  obtain ⟨k, hk, rfl, ht, hS⟩ := hrel
  rcases k with _ | j
  ·have e0 : a ^ (e / 2 ^ 0) % m = a ^ e % m := by rw [Nat.pow_zero, Nat.div_one]
   rw [e0] at ht
   obtain ⟨R, hR⟩ : ∃ R, R = a ^ e % m := ⟨_, rfl⟩
   rw [← hR] at ht
   have HR := Lib.hid hR
   obtain ⟨a0, a1, a2, a3⟩ := blk_c4 ht
   obtain ⟨d0, d1, d2, d3⟩ := blk_c4 hS.2.2.1
   have df := hS.2.2.1.frozen
   have hfin := Lib.hid (set_nat hS.2.2.1 rfl R)
   have HB := Lib.hid hS.2.2.2
   clear ht hS hR e0 Sx
   go_wp2
   exact bodyPost_ret (results_blk (d := .array 4 25) Tryz.results46 rfl hfin.out.1 rfl Tryz.underlying27 (by kernel_rfl)) rfl ⟨by rw [← HR.out], HB.out.trans (gb_to_below hfin.out.2 HB.out.size (fun k e => by injection e; omega))⟩
  ·have ek : ((j + 1 : Nat) : Int) - 1 = (j : Int) := by omega
   rw [ek]
   have hstep := pow_step a e j m
   obtain ⟨O, hO⟩ : ∃ O, O = a ^ (e / 2 ^ (j + 1)) % m := ⟨_, rfl⟩
   rw [← hO] at ht hstep
   have hOm : O < m := by rw [hO]; exact Nat.mod_lt _ OK.out.pos
   obtain ⟨O2, hO2⟩ : ∃ O2, O2 = O * O % m := ⟨_, rfl⟩
   rw [← hO2] at hstep
   have hO2m : O2 < m := by rw [hO2]; exact Nat.mod_lt _ OK.out.pos
   have c1 := fun W => MUL.out W O O hOm hOm
   simp only [← hO2] at c1
   have c2 := fun W => MUL.out W O2 a hO2m HA.out
   have c3 := fun W => limbBit_any e j W (by omega)
   have C1 := Lib.hid c1; have C2 := Lib.hid c2; have C3 := Lib.hid c3; have HS := Lib.hid hstep
   obtain ⟨a0, a1, a2, a3⟩ := blk_c4 ht
   have HT := Lib.hid ht; have HP := Lib.hid hS
   have d0 : decide ((0 : Int) ≤ j) = true := by simp
   clear ht hS hO hOm hO2 hO2m c1 c2 c3 hstep ek Sx
   go_wp2_with fail
   refine (C1.out wr).mono ?_
   rintro e' w1 ⟨rfl, hb1⟩
   have HT1 := Lib.hid (HT.out.below hb1 HT.out.lt)
   have HP1 := Lib.hid (HP.out.below hb1)
   obtain ⟨a0, a1, a2, a3⟩ := blk_c4 HT1.out
   have af := HT1.out.frozen
   obtain ⟨e0, e1, e2, e3⟩ := blk_c4 HP1.out.2.1
   obtain ⟨k1, k2⟩ := set_nat HT1.out rfl O2
   have HT2 := Lib.hid k1
   have HP2 := Lib.hid (HP1.out.grown k2)
   obtain ⟨f0, f1, f2, f3⟩ := blk_c4 HP2.out.2.1
   have n1 : w.heap.size + 2 ≠ w.heap.size + 4 := by omega
   clear hb1 HT HP k1 k2 C1
   obtain ⟨bt, hbt⟩ : ∃ bt, bt = e / 2 ^ j % 2 := ⟨_, rfl⟩
   have c3 := C3.out
   have hs := HS.out
   rw [← hbt] at hs
   simp only [← hbt] at c3
   have C4 := Lib.hid c3
   clear c3 C3 HS hbt
   go_wp2_with fail
   refine (C4.out _).mono ?_
   rintro e' w3 ⟨rfl, hb3⟩
   have HT3 := Lib.hid (HT2.out.below hb3 HT2.out.lt)
   have HP3 := Lib.hid (HP2.out.below hb3)
   clear hb3 HT2 HP2 HT1 HP1 a0 a1 a2 a3 af e0 e1 e2 e3 f0 f1 f2 f3 C4
   by_cases hb : bt = 1
   ·have hd : ((bt : Int) == 1) = true := by rw [hb]; rfl
    rw [if_pos hb] at hs
    have HS := Lib.hid hs
    clear hs hb
    obtain ⟨a0, a1, a2, a3⟩ := blk_c4 HT3.out
    obtain ⟨e0, e1, e2, e3⟩ := blk_c4 HP3.out.1
    go_wp2_with fail
    refine (C2.out w3).mono ?_
    rintro e' w4 ⟨rfl, hb4⟩
    have HT4 := Lib.hid (HT3.out.below hb4 HT3.out.lt)
    have HP4 := Lib.hid (HP3.out.below hb4)
    clear hb4 a0 a1 a2 a3 e0 e1 e2 e3
    obtain ⟨a0, a1, a2, a3⟩ := blk_c4 HT4.out
    have af := HT4.out.frozen
    obtain ⟨R, hR⟩ : ∃ R, R = O2 * a % m := ⟨_, rfl⟩
    rw [← hR]
    have HR := Lib.hid hR
    clear hR
    go_wp2
    go_roundw
    case rel =>
     obtain ⟨k1, k2⟩ := set_nat HT4.out rfl R
     exact ⟨j, by omega, by go_num, by rw [← HS.out, ← HR.out]; exact k1, HP4.out.grown k2⟩
    case measure => simp [intOf]
   ·have hd : ((bt : Int) == 1) = false := by simp; omega
    rw [if_neg hb] at hs
    have HS := Lib.hid hs
    clear hs hb
    go_wp2
    go_roundw
    case rel => exact ⟨j, by omega, by go_num, by rw [← HS.out]; exact HT3.out, HP3.out⟩
    case measure => simp [intOf]
end Go.Proofs.YtdcganigfihkjaaGreatDoor
/- Contracts of the layers field and codec: Inv, Below. -/
namespace Go.Proofs.YtdcganigfihkjaaGreatDoor
open Go.RowKit Go.Chr
theorem pK_gt (k : Nat) : 1 < pK k := by
 rcases k with _ | _ | _ | k
 ·show 1 < p0; decide
 ·show 1 < p1; decide
 ·show 1 < p2; decide
 ·show 1 < p3; decide
theorem nat4_two : nat4 2 = .agg #[.int .u64 2, .int .u64 0, .int .u64 0, .int .u64 0] := by
 unfold nat4
 rw [show lb 2 0 = 2 by decide, show lb 2 1 = 0 by decide, show lb 2 2 = 0 by decide, show lb 2 3 = 0 by decide]
set_option maxRecDepth 100000 in
set_option maxHeartbeats 4000000 in
theorem fInv_any (k x : Nat) (hk : k < 4) (w : World) (hG : GV w) (hx : x < 115792089237316195423570985008687907853269984665640564039457584007913129639936) :
  Calls Tryz.prog 17 #[.int .i64 k, nat4 x] w (RetV w (nat4 (x ^ (pK k - 2) % pK k))) := by
 have ok := okK k
 have hgt := pK_gt k
 obtain ⟨E, hE⟩ : ∃ E, E = pK k - 2 := ⟨_, rfl⟩
 have hEK : E < 115792089237316195423570985008687907853269984665640564039457584007913129639936 := by have := ok.lt; omega
 have k1 := fun W => fold_any (pK k) (qK k) (vK k) x W ok.pos ok.lt hx
 have k2 := fun W => limbSub_any (pK k) 2 W ok.lt (by decide)
 rw [nat4_two] at k2
 have hsub : nat4 (115792089237316195423570985008687907853269984665640564039457584007913129639936 + pK k - 2) = nat4 E := by rw [hE]; exact nat4_congr (wrap_le (by omega))
 simp only [hsub] at k2
 have k3 := fun W => pow_any (pK k) (qK k) (vK k) (x % pK k) E W (Nat.mod_lt _ ok.pos) hEK ok hgt
 simp only [show (x % pK k) ^ E % pK k = x ^ E % pK k from (Nat.pow_mod x E (pK k)).symm] at k3
 rw [← hE]
 have K1 := Lib.hid k1; have K2 := Lib.hid k2; have K3 := Lib.hid k3
 clear k1 k2 k3 ok hx hgt hEK hsub hE
 obtain ⟨W0, hW0⟩ : ∃ W0, W0 = (w.alloc (.cells (natC x) 27)).alloc (.cells #[.int .u64 0, .int .u64 0, .int .u64 0, .int .u64 0] 27) := ⟨_, rfl⟩
 have z0 := (Blk.new w 27 (natC x)).alloc (.cells #[.int .u64 0, .int .u64 0, .int .u64 0, .int .u64 0] 27)
 have z2 := Blk.new (w.alloc (.cells (natC x) 27)) 27 #[.int .u64 0, .int .u64 0, .int .u64 0, .int .u64 0]
 have z3 : Below w.heap.size w ((w.alloc (.cells (natC x) 27)).alloc (.cells #[.int .u64 0, .int .u64 0, .int .u64 0, .int .u64 0] 27)) := ((Below.refl _ _).alloc (Nat.le_refl _) _).alloc (by simp) _
 have z4 := (hG.alloc (.cells (natC x) 27)).alloc (.cells #[.int .u64 0, .int .u64 0, .int .u64 0, .int .u64 0] 27)
 rw [World.size_alloc] at z2
 rw [← hW0] at z0 z2 z3 z4
 have Z0 := Lib.hid z0; have Z2 := Lib.hid z2; have Z3 := Lib.hid z3; have Z4 := Lib.hid z4
 clear z0 z2 z3 z4 hG
 go_enter Tryz.func17, Tryz.ntmps17
 go_wp2_with fail
 rw [← hW0]
 clear hW0
 refine (of_any k hk W0 Z4.out).mono ?_
 rintro e w1 ⟨rfl, hb1⟩
 obtain ⟨W1, hW1⟩ : ∃ W1, W1 = w1.alloc (.cells (modC (pK k) (qK k) (vK k)) 68) := ⟨_, rfl⟩
 obtain ⟨g, hg⟩ : ∃ g, g = w1.heap.size := ⟨_, rfl⟩
 have y0 := Lib.hid (show Blk W1 w.heap.size 27 (natC x) by rw [hW1]; exact (Z0.out.below hb1 Z0.out.lt).alloc _)
 have y2 := Lib.hid (show Blk W1 (w.heap.size + 1) 27 #[.int .u64 0, .int .u64 0, .int .u64 0, .int .u64 0] by rw [hW1]; exact (Z2.out.below hb1 Z2.out.lt).alloc _)
 have y3 := Lib.hid (show Blk W1 g 68 (modC (pK k) (qK k) (vK k)) by rw [hW1, hg]; exact Blk.new w1 _ _)
 have y4 := Lib.hid (show Below w.heap.size w W1 by
  have h := Z3.out.trans (hb1.mono Z3.out.size)
  rw [hW1]; exact h.alloc h.size _)
 have hgl : w.heap.size + 1 < g := by rw [hg]; exact Nat.lt_of_lt_of_le Z2.out.lt hb1.size
 clear hb1 Z0 Z2 Z3 Z4
 go_wp2_with fail
 rw [← hW1]
 have hgg : w1.heap.size = g := hg.symm
 simp only [hgg]
 clear hW1 hg hgg
 refine (K2.out W1).mono ?_
 rintro e w2 ⟨rfl, hb2⟩
 obtain ⟨W2, hW2⟩ : ∃ W2, W2 = w2.alloc (.cells (natC E) 27) := ⟨_, rfl⟩
 obtain ⟨h, hh⟩ : ∃ h, h = w2.heap.size := ⟨_, rfl⟩
 have hgh : g < h := by rw [hh]; exact Nat.lt_of_lt_of_le y3.out.lt hb2.size
 have x0 : Blk W2 w.heap.size 27 (natC x) := by rw [hW2]; exact (y0.out.below hb2 y0.out.lt).alloc _
 have x2 : Blk W2 (w.heap.size + 1) 27 #[.int .u64 0, .int .u64 0, .int .u64 0, .int .u64 0] := by rw [hW2]; exact (y2.out.below hb2 y2.out.lt).alloc _
 have x3 : Blk W2 g 68 (modC (pK k) (qK k) (vK k)) := by rw [hW2]; exact (y3.out.below hb2 y3.out.lt).alloc _
 have x5 : Blk W2 h 27 (natC E) := by rw [hW2, hh]; exact Blk.new w2 _ _
 have x4 : Below w.heap.size w W2 := by
  have h := y4.out.trans (hb2.mono y4.out.size)
  rw [hW2]; exact h.alloc h.size _
 have hhW : h < W2.heap.size := x5.lt
 obtain ⟨⟨m0, m1, m2, m3⟩, ⟨m4, m5, m6, m7⟩, m8⟩ := blk_c9 x3
 obtain ⟨a0, a1, a2, a3⟩ := blk_c4 x0
 obtain ⟨b0, b1, b2, b3⟩ := blk_c4 x5
 have X2 := Lib.hid x2; have X4 := Lib.hid x4
 clear x0 x2 x3 x4 x5 hb2 y0 y2 y3 y4 K2
 have n1 : w.heap.size ≠ w.heap.size + 1 := by omega
 have n2 : g ≠ w.heap.size + 1 := by omega
 have n3 : h ≠ w.heap.size + 1 := by omega
 have n1' := n1.symm
 have n2' := n2.symm
 have n3' := n3.symm
 go_wp2_with fail
 rw [← hW2]
 have hhh : w2.heap.size = h := hh.symm
 simp only [hhh]
 clear hW2 hh hhh
 go_region_held3 (fun w' => w'.cell? ⟨g, 0, none⟩ = some (.int .u64 (lb (pK k) 0)) ∧ w'.cell? ⟨g, 1, none⟩ = some (.int .u64 (lb (pK k) 1)) ∧ w'.cell? ⟨g, 2, none⟩ = some (.int .u64 (lb (pK k) 2)) ∧ w'.cell? ⟨g, 3, none⟩ = some (.int .u64 (lb (pK k) 3)) ∧ w'.cell? ⟨g, 4, none⟩ = some (.int .u64 (lb (qK k) 0)) ∧ w'.cell? ⟨g, 5, none⟩ = some (.int .u64 (lb (qK k) 1)) ∧ w'.cell? ⟨g, 6, none⟩ = some (.int .u64 (lb (qK k) 2)) ∧ w'.cell? ⟨g, 7, none⟩ = some (.int .u64 (lb (qK k) 3)) ∧ w'.cell? ⟨g, 8, none⟩ = some (.int .u64 (vK k)) ∧ w'.cell? ⟨w.heap.size, 0, none⟩ = some (.int .u64 (lb x 0)) ∧ w'.cell? ⟨w.heap.size, 1, none⟩ = some (.int .u64 (lb x 1)) ∧ w'.cell? ⟨w.heap.size, 2, none⟩ = some (.int .u64 (lb x 2)) ∧ w'.cell? ⟨w.heap.size, 3, none⟩ = some (.int .u64 (lb x 3)) ∧ w'.cell? ⟨h, 0, none⟩ = some (.int .u64 (lb E 0)) ∧ w'.cell? ⟨h, 1, none⟩ = some (.int .u64 (lb E 1)) ∧ w'.cell? ⟨h, 2, none⟩ = some (.int .u64 (lb E 2)) ∧ w'.cell? ⟨h, 3, none⟩ = some (.int .u64 (lb E 3)))
  (go_keep)
  (first
   | (go_at_call 47; (with_reducible refine (K1.out _).mono ?_); rintro e w3 ⟨rfl, hb3⟩; obtain ⟨hc3, -⟩ := bcell hb3; have hc3a := fun o => hc3 w.heap.size o (show w.heap.size < W2.heap.size by omega); have hc3b := fun o => hc3 h o (show h < W2.heap.size from hhW); have hc3c := fun o => hc3 g o (show g < W2.heap.size by omega); clear hc3; have u2 := Lib.hid (Blk.below (Blk.drew X2.out) hb3 X2.out.lt); have u4 := Lib.hid (Below.trans (Below.drew X4.out) (hb3.mono X4.out.size)); have hg3 : h < w3.heap.size := Nat.lt_of_lt_of_le hhW hb3.size)
   | (go_at_call 46; (with_reducible refine (K3.out _).mono ?_); rintro e w4 ⟨rfl, hb4⟩; obtain ⟨hc4, -⟩ := bcell hb4; have hc4a := fun o => hc4 w.heap.size o (by omega); have hc4b := fun o => hc4 h o hg3; have hc4c := fun o => hc4 g o (by omega); clear hc4; have t2 := Lib.hid (u2.out.below hb4 u2.out.lt); have t4 := Lib.hid (u4.out.trans (hb4.mono u4.out.size)); obtain ⟨d0, d1, d2, d3⟩ := blk_c4 t2.out; have df := t2.out.frozen))
 have hfin := Lib.hid (set_nat t2.out rfl (x ^ E % pK k))
 clear hc3a hc3b hc3c hc4a hc4b hc4c d0 d1 d2 d3 df hb3 hb4 u2 u4
 go_wp2
 exact bodyPost_ret (results_blk (d := .array 4 25) Tryz.results17 rfl hfin.out.1 rfl Tryz.underlying27 (by kernel_rfl)) rfl ⟨rfl, t4.out.trans (gb_to_below hfin.out.2 t4.out.size (fun k e => by injection e; omega))⟩
theorem cmp_lt (c m : Nat) : decide (cmpN c m < 0) = decide (c < m) := by
 unfold cmpN
 by_cases h : c < m
 ·rw [if_pos h]; simp [h]
 ·by_cases h2 : m < c
  ·rw [if_neg h, if_pos h2]; simp [h]
  ·rw [if_neg h, if_neg h2]; simp [h]
set_option maxRecDepth 100000 in
set_option maxHeartbeats 1000000 in
theorem below_any (k x : Nat) (hk : k < 4) (w : World) (hG : GV w) (hx : x < 115792089237316195423570985008687907853269984665640564039457584007913129639936) :
  Calls Tryz.prog 43 #[.int .i64 k, nat4 x] w (RetV w (.bool (decide (x < pK k)))) := by
 have k1 := fun W (h : GV W) => fModulus_any k hk W h
 have k2 := fun W => limbCmp_any x (pK k) W hx (okK k).lt
 have K1 := Lib.hid k1; have K2 := Lib.hid k2; have HL := Lib.hid (cmp_lt x (pK k))
 obtain ⟨W0, hW0⟩ : ∃ W0, W0 = w.alloc (.cells (natC x) 27) := ⟨_, rfl⟩
 have z0 : Blk W0 w.heap.size 27 (natC x) := by rw [hW0]; exact Blk.new w _ _
 have z1 : Below w.heap.size w W0 := by rw [hW0]; exact (Below.refl _ _).alloc (Nat.le_refl _) _
 have z2 := Lib.hid (show GV W0.drew by rw [hW0]; exact (hG.alloc _).drew)
 have l0 := z0.lt
 obtain ⟨a0, a1, a2, a3⟩ := blk_c4 z0
 have Z1 := Lib.hid z1
 clear z0 z1 hG hx k1 k2
 go_enter Tryz.func43, Tryz.ntmps43
 go_wp2_with fail
 rw [← hW0]
 clear hW0
 go_region_held3 (fun w' => w'.cell? ⟨w.heap.size, 0, none⟩ = some (.int .u64 (lb x 0)) ∧ w'.cell? ⟨w.heap.size, 1, none⟩ = some (.int .u64 (lb x 1)) ∧ w'.cell? ⟨w.heap.size, 2, none⟩ = some (.int .u64 (lb x 2)) ∧ w'.cell? ⟨w.heap.size, 3, none⟩ = some (.int .u64 (lb x 3)))
  (go_keep)
  (first
   | (go_at_call 84; (with_reducible refine (K1.out _ z2.out).mono ?_); rintro e w1 ⟨rfl, hb1⟩; obtain ⟨hc1, -⟩ := bcell hb1; have hc1a := fun o => hc1 w.heap.size o (show w.heap.size < W0.heap.size from l0); clear hc1; have y1 := Lib.hid (Below.trans (Below.drew Z1.out) (hb1.mono Z1.out.size)); have l1 : w.heap.size < w1.heap.size := Nat.lt_of_lt_of_le l0 hb1.size)
   | (go_at_call 83; (with_reducible refine (K2.out _).mono ?_); rintro e w2 ⟨rfl, hb2⟩; obtain ⟨hc2, -⟩ := bcell hb2; have hc2a := fun o => hc2 w.heap.size o l1; clear hc2; have y2 := Lib.hid (y1.out.trans (hb2.mono y1.out.size))))
 have hl := HL.out
 clear hc1a hc2a hb1 hb2 y1
 go_wp2
 go_ret
 exact ⟨by rw [← HL.out]; rfl, y2.out⟩
end Go.Proofs.YtdcganigfihkjaaGreatDoor
/- The program's variables, as the walks read them; what was proved of the layers limb and field, as contracts. -/
namespace Go.Proofs.YtdcganigfihkjaaGreatDoor
open Go Go.Ab Go.RowKit Go.Chr
def modL : List Int := [18446744073709551615, 4294967295, 0, 18446744069414584321, 3, 18446744056529682431, 18446744073709551614, 21474836477, 1, 17562291160714782033, 13611842547513532036, 18446744073709551615, 18446744069414584320, 9449762124159643298, 5087230966250696614, 2901921493521525849, 7413256579398063648, 14758798090332847183, 18446744073709551597, 18446744073709551615, 18446744073709551615, 9223372036854775807, 1444, 0, 0, 0, 9708812670373448219, 6346243789798364141, 1503914060200516822, 0, 1152921504606846976, 11819153939886771969, 14991950615390032711, 14910419812499177061, 259310039853996605, 15183074304973897243]
def shaH : List Int := [0x6a09e667, 0xbb67ae85, 0x3c6ef372, 0xa54ff53a, 0x510e527f, 0x9b05688c, 0x1f83d9ab, 0x5be0cd19]
def shaK : List Int := [
 0x428a2f98, 0x71374491, 0xb5c0fbcf, 0xe9b5dba5, 0x3956c25b, 0x59f111f1, 0x923f82a4, 0xab1c5ed5,
 0xd807aa98, 0x12835b01, 0x243185be, 0x550c7dc3, 0x72be5d74, 0x80deb1fe, 0x9bdc06a7, 0xc19bf174,
 0xe49b69c1, 0xefbe4786, 0x0fc19dc6, 0x240ca1cc, 0x2de92c6f, 0x4a7484aa, 0x5cb0a9dc, 0x76f988da,
 0x983e5152, 0xa831c66d, 0xb00327c8, 0xbf597fc7, 0xc6e00bf3, 0xd5a79147, 0x06ca6351, 0x14292967,
 0x27b70a85, 0x2e1b2138, 0x4d2c6dfc, 0x53380d13, 0x650a7354, 0x766a0abb, 0x81c2c92e, 0x92722c85,
 0xa2bfe8a1, 0xa81a664b, 0xc24b8b70, 0xc76c51a3, 0xd192e819, 0xd6990624, 0xf40e3585, 0x106aa070,
 0x19a4c116, 0x1e376c08, 0x2748774c, 0x34b0bcb5, 0x391c0cb3, 0x4ed8aa4a, 0x5b9cca4f, 0x682e6ff3,
 0x748f82ee, 0x78a5636f, 0x84c87814, 0x8cc70208, 0x90befffa, 0xa4506ceb, 0xbef9a3f7, 0xc67178f2]
def gBlk (t : TypeId) (n : Nat) (v : CV) : Blk' := .cells t n (.els [.c v])
noncomputable def CX : Ctx := ⟨Tryz.prog, [
 (2, gBlk 95 36 (.arr .u64 36 modL)),
 (0, gBlk 27 4 (.nat two256 1)),
 (1, gBlk 27 4 (.nat two256 cvB)),
 (3, gBlk 101 8 (.arr .u32 8 shaH)),
 (4, gBlk 135 64 (.arr .u32 64 shaK))]⟩
theorem hmo : CX.P.follows .mixedOrders = true := by kernel_rfl
theorem env_tab {N : Nat → Prop} {w : World} (h : Env CX N w) {g : Nat} {t : TypeId} {n : Nat} {v : CV} {tab : Array Value} (hg : CX.glob.lookup g = some (gBlk t n v)) (hv : ∀ cs, v.rel N w cs → cs = tab.toList) : TabAt w g tab := by
 obtain ⟨h1, ty, esz, body, xs, post, e, hl⟩ := h.2 g _ hg
 unfold gBlk at e
 injection e with e1 e2 e3
 subst e1; subst e2; subst e3
 obtain ⟨l1, l2, l3, l4⟩ := hl
 obtain ⟨c1, c2, rfl, _, h2, rfl⟩ := l3
 have h2 := hv c1 h2
 subst h2
 refine ⟨h.1 g h1, fun i u hu => ?_⟩
 have hu' : tab.toList[i]? = some u := by simpa using hu
 have := cell_mid (w := w) (b := g) (pre := []) (c1 := []) (c2 := tab.toList) (c3 := []) (post := post) (ty := t) (fr := (0, 0)) (by simpa using l1) hu'
 simpa using this
theorem env_gv {N : Nat → Prop} {w : World} (h : Env CX N w) : GV w := by
 refine ⟨env_tab h (g := 2) rfl fun cs hc => ?_, env_tab h (g := 0) rfl fun cs hc => ?_, env_tab h (g := 1) rfl fun cs hc => ?_⟩
 ·exact hc.1
 ·exact hc.1
 ·exact hc.1.trans (by kernel_rfl)
end Go.Proofs.YtdcganigfihkjaaGreatDoor
/- The layers limb and field, as contracts of the abstract machine. -/
namespace Go.Proofs.YtdcganigfihkjaaGreatDoor
open Go Go.Ab Go.RowKit Go.Chr
set_option maxRecDepth 100000
theorem rel_nat {N : Nat → Prop} {w : World} {m x : Nat} {v : Value} (h : asVal (CV.nat m x).isAgg ((CV.nat m x).rel N w) v) : v = nat4 x ∧ x < m ∧ m ≤ 115792089237316195423570985008687907853269984665640564039457584007913129639936 := by
 obtain ⟨cs, rfl, rfl, h1, h2⟩ := h
 exact ⟨rfl, h1, h2⟩
theorem rel_int {N : Nat → Prop} {w : World} {k : IntKind} {x : Int} {v : Value} (h : asVal (CV.int k x).isAgg ((CV.int k x).rel N w) v) : v = .int k x ∧ okI k x := by
 obtain ⟨h1, h2⟩ := h
 injection h1 with h1
 exact ⟨h1, h2⟩
theorem nat_val {ι : Nat → Option Ab.Loc} {N : Nat → Prop} {w : World} {m x : Nat} (h1 : x < m) (h2 : m ≤ 115792089237316195423570985008687907853269984665640564039457584007913129639936) : (AV.c (.nat m x)).val ι N w (nat4 x) := ⟨_, rfl, rfl, h1, h2⟩
theorem int_val {ι : Nat → Option Ab.Loc} {N : Nat → Prop} {w : World} {k : IntKind} {x : Int} (h : okI k x) : (AV.c (.int k x)).val ι N w (.int k x) := ⟨rfl, h⟩
theorem bool_val {ι : Nat → Option Ab.Loc} {N : Nat → Prop} {w : World} {b : Bool} : (AV.c (.bool b)).val ι N w (.bool b) := rfl
theorem CX_P : CX.P = Tryz.prog := by kernel_rfl
theorem retV_outs {f : FuncId} {vs : List Value} {w : World} {u : Value} {v : AV} {N : Nat → Prop} (hfn : (Tryz.prog.funcs[f]?).map (fun fn => (fn.name == "runtime.NumGoroutine", fn.body.isSome)) = some (false, true))
  (h : Calls Tryz.prog f vs.toArray w (RetV w u)) (hv : v.val (fun _ => none) N w u) : CallOuts CX.P f vs w fun u w' => Below w.heap.size w w' ∧ v.val (fun _ => none) N w u := by
 rw [CX_P]
 refine callOuts_of hfn (Calls.mono h ?_)
 rintro e w' ⟨rfl, hb⟩
 exact ⟨u, rfl, hb, hv⟩
def pI (k : Int) : Nat := pK k.toNat
theorem pI_le (k : Int) : pI k ≤ 115792089237316195423570985008687907853269984665640564039457584007913129639936 := Nat.le_of_lt (okK _).lt
theorem pI_pos (k : Int) : 0 < pI k := (okK _).pos
def kB (k : Int) : Prop := 0 ≤ k ∧ k < 4
def subI (k : Int) (x y : Nat) : Nat := subM (pI k) x y
def invI (k : Int) (x : Nat) : Nat := x ^ (pI k - 2) % pI k
noncomputable def fadd (k : Int) (x y : Nat) : Nat := shut ((x + y) % pI k)
noncomputable def fsub (k : Int) (x y : Nat) : Nat := shut (subI k x y)
noncomputable def fmul (k : Int) (x y : Nat) : Nat := shut (x * y % pI k)
noncomputable def ffold (k : Int) (x : Nat) : Nat := shut (x % pI k)
noncomputable def finv (k : Int) (x : Nat) : Nat := shut (invI k x)
noncomputable def fmod (k : Int) : Nat := shut (pI k)
noncomputable def fbelow (k : Int) (x : Nat) : Bool := shut (decide (x < pI k))
theorem fadd_eq (k : Int) (x y : Nat) : fadd k x y = (x + y) % pI k := shut_eq _
theorem fsub_eq (k : Int) (x y : Nat) : fsub k x y = subI k x y := shut_eq _
theorem fmul_eq (k : Int) (x y : Nat) : fmul k x y = x * y % pI k := shut_eq _
theorem ffold_eq (k : Int) (x : Nat) : ffold k x = x % pI k := shut_eq _
theorem finv_eq (k : Int) (x : Nat) : finv k x = invI k x := shut_eq _
theorem fmod_eq (k : Int) : fmod k = pI k := shut_eq _
theorem fbelow_eq (k : Int) (x : Nat) : fbelow k x = decide (x < pI k) := shut_eq _
noncomputable def fAddS : CSpec := fun cs => match cs with
 | [.int .i64 k, .nat _ x, .nat _ y] => some (some (kB k), .c (.nat two256 (fadd k x y)))
 | _ => none
noncomputable def fSubS : CSpec := fun cs => match cs with
 | [.int .i64 k, .nat _ x, .nat _ y] => some (some (kB k), .c (.nat two256 (fsub k x y)))
 | _ => none
noncomputable def fMulS : CSpec := fun cs => match cs with
 | [.int .i64 k, .nat _ x, .nat _ y] => some (some (kB k), .c (.nat two256 (fmul k x y)))
 | _ => none
noncomputable def fFoldS : CSpec := fun cs => match cs with
 | [.int .i64 k, .nat _ x] => some (some (kB k), .c (.nat two256 (ffold k x)))
 | _ => none
noncomputable def fInvS : CSpec := fun cs => match cs with
 | [.int .i64 k, .nat _ x] => some (some (kB k), .c (.nat two256 (finv k x)))
 | _ => none
noncomputable def fModulusS : CSpec := fun cs => match cs with
 | [.int .i64 k] => some (some (kB k), .c (.nat two256 (fmod k)))
 | _ => none
noncomputable def belowS : CSpec := fun cs => match cs with
 | [.int .i64 k, .nat _ x] => some (some (kB k), .c (.bool (fbelow k x)))
 | _ => none
noncomputable def bitI (x : Nat) (i : Int) : Int := shut ((x / 2 ^ i.toNat % 2 : Nat) : Int)
theorem bitI_eq (x : Nat) (i : Int) : bitI x i = ((x / 2 ^ i.toNat % 2 : Nat) : Int) := shut_eq _
noncomputable def limbBitS : CSpec := fun cs => match cs with
 | [.nat _ x, .int .i64 i] => some (some (0 ≤ i ∧ i ≤ 255), .c (.int .i64 (bitI x i)))
 | _ => none
noncomputable def ladd (x y : Nat) : Nat := shut ((x + y) % two256)
noncomputable def lover (x y : Nat) : Bool := shut (decide (two256 ≤ x + y))
noncomputable def lsub (x y : Nat) : Nat := shut ((two256 + x - y) % two256)
noncomputable def lless (x y : Nat) : Bool := shut (decide (x < y))
noncomputable def lcmp (x y : Nat) : Int := shut (cmpN x y)
theorem ladd_eq (x y : Nat) : ladd x y = (x + y) % two256 := shut_eq _
theorem lover_eq (x y : Nat) : lover x y = decide (two256 ≤ x + y) := shut_eq _
theorem lsub_eq (x y : Nat) : lsub x y = (two256 + x - y) % two256 := shut_eq _
theorem lless_eq (x y : Nat) : lless x y = decide (x < y) := shut_eq _
theorem lcmp_eq (x y : Nat) : lcmp x y = cmpN x y := shut_eq _
noncomputable def limbAddS : CSpec := fun cs => match cs with
 | [.nat _ x, .nat _ y] => some (none, .t2 (.c (.nat two256 (ladd x y))) (.c (.bool (lover x y))))
 | _ => none
noncomputable def limbSubS : CSpec := fun cs => match cs with
 | [.nat _ x, .nat _ y] => some (none, .t2 (.c (.nat two256 (lsub x y))) (.c (.bool (lless x y))))
 | _ => none
noncomputable def limbCmpS : CSpec := fun cs => match cs with
 | [.nat _ x, .nat _ y] => some (none, .c (.int .i64 (lcmp x y)))
 | _ => none
theorem blt_dec (x y : Nat) : Nat.blt x y = decide (x < y) := by
 cases h : Nat.blt x y with
 | true => have := Nat.le_of_ble_eq_true h; simp; omega
 | false =>
  simp
  rcases Nat.lt_or_ge x y with h1 | h1
  ·have : Nat.blt x y = true := Nat.ble_eq_true_of_le h1
   rw [h] at this; cases this
  ·exact h1
theorem kNat {k : Int} (h : kB k) : ∃ n : Nat, k = n ∧ n < 4 ∧ pI k = pK n := ⟨k.toNat, by have := h.1; omega, by have := h.1; have := h.2; omega, rfl⟩
theorem cs1 {N : Nat → Prop} {w : World} {a : CV} {vs : List Value} (h : cvsRel N w [a] vs) : ∃ u, vs = [u] ∧ asVal a.isAgg (a.rel N w) u := by
 obtain ⟨u, v1, rfl, h1, rfl⟩ := h
 exact ⟨u, rfl, h1⟩
theorem cs2 {N : Nat → Prop} {w : World} {a b : CV} {vs : List Value} (h : cvsRel N w [a, b] vs) : ∃ u v, vs = [u, v] ∧ asVal a.isAgg (a.rel N w) u ∧ asVal b.isAgg (b.rel N w) v := by
 obtain ⟨u, v1, rfl, h1, u2, v2, rfl, h2, rfl⟩ := h
 exact ⟨u, u2, rfl, h1, h2⟩
theorem cs3 {N : Nat → Prop} {w : World} {a b c : CV} {vs : List Value} (h : cvsRel N w [a, b, c] vs) : ∃ u v x, vs = [u, v, x] ∧ asVal a.isAgg (a.rel N w) u ∧ asVal b.isAgg (b.rel N w) v ∧ asVal c.isAgg (c.rel N w) x := by
 obtain ⟨u, v1, rfl, h1, u2, v2, rfl, h2, u3, v3, rfl, h3, rfl⟩ := h
 exact ⟨u, u2, u3, rfl, h1, h2, h3⟩
theorem fAdd_c : CallOk CX 28 fAddS := by
 intro cs p v hF hp N w vs hE hv
 unfold fAddS at hF
 split at hF
 ·rename_i k m1 x m2 y
  injection hF with hF; injection hF with e1 e2; subst e1; subst e2
  obtain ⟨n, rfl, hn, e⟩ := kNat hp
  obtain ⟨u1, u2, u3, rfl, h1, h2, h3⟩ := cs3 hv
  obtain ⟨rfl, _⟩ := rel_int h1
  obtain ⟨rfl, hx, hm⟩ := rel_nat h2
  obtain ⟨rfl, hy, hm'⟩ := rel_nat h3
  refine retV_outs (by kernel_rfl) (fAdd_any n x y hn w (env_gv hE) (by omega) (by omega)) ?_
  rw [fadd_eq]; exact nat_val (Nat.lt_of_lt_of_le (Nat.mod_lt _ (pI_pos _)) (pI_le _)) (Nat.le_refl _)
 ·cases hF
theorem fSub_c : CallOk CX 106 fSubS := by
 intro cs p v hF hp N w vs hE hv
 unfold fSubS at hF
 split at hF
 ·rename_i k m1 x m2 y
  injection hF with hF; injection hF with e1 e2; subst e1; subst e2
  obtain ⟨n, rfl, hn, e⟩ := kNat hp
  obtain ⟨u1, u2, u3, rfl, h1, h2, h3⟩ := cs3 hv
  obtain ⟨rfl, _⟩ := rel_int h1
  obtain ⟨rfl, hx, hm⟩ := rel_nat h2
  obtain ⟨rfl, hy, hm'⟩ := rel_nat h3
  refine retV_outs (by kernel_rfl) (fSub_any n x y hn w (env_gv hE) (by omega) (by omega)) ?_
  rw [fsub_eq]; exact nat_val (Nat.lt_of_lt_of_le (Nat.mod_lt _ (pI_pos _)) (pI_le _)) (Nat.le_refl _)
 ·cases hF
theorem fMul_c : CallOk CX 19 fMulS := by
 intro cs p v hF hp N w vs hE hv
 unfold fMulS at hF
 split at hF
 ·rename_i k m1 x m2 y
  injection hF with hF; injection hF with e1 e2; subst e1; subst e2
  obtain ⟨n, rfl, hn, e⟩ := kNat hp
  obtain ⟨u1, u2, u3, rfl, h1, h2, h3⟩ := cs3 hv
  obtain ⟨rfl, _⟩ := rel_int h1
  obtain ⟨rfl, hx, hm⟩ := rel_nat h2
  obtain ⟨rfl, hy, hm'⟩ := rel_nat h3
  refine retV_outs (by kernel_rfl) (fMul_any n x y hn w (env_gv hE) (by omega) (by omega)) ?_
  rw [fmul_eq]; exact nat_val (Nat.lt_of_lt_of_le (Nat.mod_lt _ (pI_pos _)) (pI_le _)) (Nat.le_refl _)
 ·cases hF
theorem fFold_c : CallOk CX 22 fFoldS := by
 intro cs p v hF hp N w vs hE hv
 unfold fFoldS at hF
 split at hF
 ·rename_i k m1 x
  injection hF with hF; injection hF with e1 e2; subst e1; subst e2
  obtain ⟨n, rfl, hn, e⟩ := kNat hp
  obtain ⟨u1, u2, rfl, h1, h2⟩ := cs2 hv
  obtain ⟨rfl, _⟩ := rel_int h1
  obtain ⟨rfl, hx, hm⟩ := rel_nat h2
  refine retV_outs (by kernel_rfl) (fFold_any n x hn w (env_gv hE) (by omega)) ?_
  rw [ffold_eq]; exact nat_val (Nat.lt_of_lt_of_le (Nat.mod_lt _ (pI_pos _)) (pI_le _)) (Nat.le_refl _)
 ·cases hF
theorem fInv_c : CallOk CX 17 fInvS := by
 intro cs p v hF hp N w vs hE hv
 unfold fInvS at hF
 split at hF
 ·rename_i k m1 x
  injection hF with hF; injection hF with e1 e2; subst e1; subst e2
  obtain ⟨n, rfl, hn, e⟩ := kNat hp
  obtain ⟨u1, u2, rfl, h1, h2⟩ := cs2 hv
  obtain ⟨rfl, _⟩ := rel_int h1
  obtain ⟨rfl, hx, hm⟩ := rel_nat h2
  refine retV_outs (by kernel_rfl) (fInv_any n x hn w (env_gv hE) (by omega)) ?_
  rw [finv_eq]; exact nat_val (Nat.lt_of_lt_of_le (Nat.mod_lt _ (pI_pos _)) (pI_le _)) (Nat.le_refl _)
 ·cases hF
theorem fModulus_c : CallOk CX 84 fModulusS := by
 intro cs p v hF hp N w vs hE hv
 unfold fModulusS at hF
 split at hF
 ·rename_i k
  injection hF with hF; injection hF with e1 e2; subst e1; subst e2
  obtain ⟨n, rfl, hn, e⟩ := kNat hp
  obtain ⟨u1, rfl, h1⟩ := cs1 hv
  obtain ⟨rfl, _⟩ := rel_int h1
  refine retV_outs (by kernel_rfl) (fModulus_any n hn w (env_gv hE)) ?_
  rw [fmod_eq]; exact nat_val (okK _).lt (Nat.le_refl _)
 ·cases hF
theorem below_c : CallOk CX 43 belowS := by
 intro cs p v hF hp N w vs hE hv
 unfold belowS at hF
 split at hF
 ·rename_i k m1 x
  injection hF with hF; injection hF with e1 e2; subst e1; subst e2
  obtain ⟨n, rfl, hn, e⟩ := kNat hp
  obtain ⟨u1, u2, rfl, h1, h2⟩ := cs2 hv
  obtain ⟨rfl, _⟩ := rel_int h1
  obtain ⟨rfl, hx, hm⟩ := rel_nat h2
  refine retV_outs (by kernel_rfl) (below_any n x hn w (env_gv hE) (by omega)) ?_
  rw [fbelow_eq]; exact bool_val
 ·cases hF
theorem limbBit_c : CallOk CX 50 limbBitS := by
 intro cs p v hF hp N w vs hE hv
 unfold limbBitS at hF
 split at hF
 ·rename_i m1 x i
  injection hF with hF; injection hF with e1 e2; subst e1; subst e2
  obtain ⟨n, rfl⟩ : ∃ n : Nat, i = n := ⟨i.toNat, by have := hp.1; omega⟩
  obtain ⟨u1, u2, rfl, h1, h2⟩ := cs2 hv
  obtain ⟨rfl, hx, hm⟩ := rel_nat h1
  obtain ⟨rfl, _⟩ := rel_int h2
  refine retV_outs (by kernel_rfl) (limbBit_any x n w (by have := hp.2; omega)) ?_
  rw [bitI_eq]; exact int_val (fun h => absurd rfl h)
 ·cases hF
theorem limbCmp_c : CallOk CX 83 limbCmpS := by
 intro cs p v hF hp N w vs hE hv
 unfold limbCmpS at hF
 split at hF
 ·rename_i m1 x m2 y
  injection hF with hF; injection hF with e1 e2; subst e1; subst e2
  obtain ⟨u1, u2, rfl, h1, h2⟩ := cs2 hv
  obtain ⟨rfl, hx, hm⟩ := rel_nat h1
  obtain ⟨rfl, hy, hm'⟩ := rel_nat h2
  refine retV_outs (by kernel_rfl) (limbCmp_any x y w (by omega) (by omega)) ?_
  rw [lcmp_eq]; exact int_val (fun h => absurd rfl h)
 ·cases hF
theorem limbAdd_c : CallOk CX 98 limbAddS := by
 intro cs p v hF hp N w vs hE hv
 unfold limbAddS at hF
 split at hF
 ·rename_i m1 x m2 y
  injection hF with hF; injection hF with e1 e2; subst e1; subst e2
  obtain ⟨u1, u2, rfl, h1, h2⟩ := cs2 hv
  obtain ⟨rfl, hx, hm⟩ := rel_nat h1
  obtain ⟨rfl, hy, hm'⟩ := rel_nat h2
  refine retV_outs (by kernel_rfl) (limbAdd_any x y w (by omega) (by omega)) ?_
  rw [ladd_eq, lover_eq]
  refine ⟨_, _, rfl, ?_, ?_⟩
  ·rw [nat4_congr (x := x + y) (y := (x + y) % two256) (by unfold two256; omega)]
   exact nat_val (Nat.mod_lt _ (by decide)) (Nat.le_refl _)
  ·exact bool_val
 ·cases hF
theorem limbSub_c : CallOk CX 45 limbSubS := by
 intro cs p v hF hp N w vs hE hv
 unfold limbSubS at hF
 split at hF
 ·rename_i m1 x m2 y
  injection hF with hF; injection hF with e1 e2; subst e1; subst e2
  obtain ⟨u1, u2, rfl, h1, h2⟩ := cs2 hv
  obtain ⟨rfl, hx, hm⟩ := rel_nat h1
  obtain ⟨rfl, hy, hm'⟩ := rel_nat h2
  refine retV_outs (by kernel_rfl) (limbSub_any x y w (by omega) (by omega)) ?_
  rw [lsub_eq, lless_eq]
  refine ⟨_, _, rfl, ?_, ?_⟩
  ·rw [nat4_congr (y := (two256 + x - y) % two256) (by unfold two256; omega)]
   exact nat_val (Nat.mod_lt _ (by decide)) (Nat.le_refl _)
  ·exact bool_val
 ·cases hF
noncomputable def G0 : Tab := [(28, flatC fAddS), (106, flatC fSubS), (19, flatC fMulS), (22, flatC fFoldS), (17, flatC fInvS), (84, flatC fModulusS), (43, flatC belowS), (50, flatC limbBitS), (83, flatC limbCmpS), (98, flatC limbAddS), (45, flatC limbSubS)]
theorem G0_ok : TabOk CX G0 :=
 .cons (flatC_ok fAdd_c) <| .cons (flatC_ok fSub_c) <| .cons (flatC_ok fMul_c) <| .cons (flatC_ok fFold_c) <| .cons (flatC_ok fInv_c) <| .cons (flatC_ok fModulus_c) <| .cons (flatC_ok below_c) <| .cons (flatC_ok limbBit_c) <| .cons (flatC_ok limbCmp_c) <| .cons (flatC_ok limbAdd_c) <| .cons (flatC_ok limbSub_c) .nil
end Go.Proofs.YtdcganigfihkjaaGreatDoor
/- The plain functions of the codec. -/
namespace Go.Chr
def leB (L : List Int) : List Int := (List.range 32).map fun i => L.getD (i / 8) 0 / 2 ^ (8 * (i % 8)) % 256
theorem leB_length (L : List Int) : (leB L).length = 32 := by simp [leB]
def lt8 (f : Nat → Int) : Nat → Int
 | 0 => 0
 | n + 1 => lt8 f n + f n * 256 ^ n
theorem lt8_bd {f : Nat → Int} (h : ∀ i, 0 ≤ f i ∧ f i < 256) (n : Nat) : 0 ≤ lt8 f n ∧ lt8 f n < 256 ^ n := by
 induction n with
 | zero => simp [lt8]
 | succ n ih =>
  obtain ⟨h1, h2⟩ := h n
  simp only [lt8, Int.pow_succ]
  have hp : (0 : Int) < 256 ^ n := Int.pow_pos (by decide)
  have a1 : 0 ≤ f n * 256 ^ n := Int.mul_nonneg h1 (by omega)
  have a2 : f n * 256 ^ n ≤ 255 * 256 ^ n := Int.mul_le_mul_of_nonneg_right (by omega) (by omega)
  omega
def limbTo (l : List Int) (j k : Nat) : Int := lt8 (fun i => l.getD (8 * j + i) 0) (min 8 (k - 8 * j))
def leTo (l : List Int) (k : Nat) : List Int := [limbTo l 0 k, limbTo l 1 k, limbTo l 2 k, limbTo l 3 k]
def leN (l : List Int) : List Int := leTo l 32
theorem getD_bd {l : List Int} (hb : ∀ x ∈ l, 0 ≤ x ∧ x < 256) (n : Nat) : 0 ≤ l.getD n 0 ∧ l.getD n 0 < 256 := by
 simp only [List.getD]
 cases h : l[n]? with
 | none => simp
 | some x => exact hb x (List.mem_of_getElem? h)
theorem limbTo_succ_ne (l : List Int) {j k : Nat} (h : j ≠ k / 8) : limbTo l j (k + 1) = limbTo l j k := by
 unfold limbTo
 rw [show min 8 (k + 1 - 8 * j) = min 8 (k - 8 * j) by omega]
theorem limbTo_succ (l : List Int) (k : Nat) : limbTo l (k / 8) (k + 1) = limbTo l (k / 8) k + l.getD k 0 * 256 ^ (k % 8) := by
 unfold limbTo
 rw [show min 8 (k + 1 - 8 * (k / 8)) = k % 8 + 1 by omega, show min 8 (k - 8 * (k / 8)) = k % 8 by omega]
 simp only [lt8]
 rw [show 8 * (k / 8) + k % 8 = k by omega]
theorem limbTo_bd {l : List Int} (hb : ∀ x ∈ l, 0 ≤ x ∧ x < 256) (k : Nat) : 0 ≤ limbTo l (k / 8) k ∧ limbTo l (k / 8) k < 256 ^ (k % 8) := by
 unfold limbTo
 rw [show min 8 (k - 8 * (k / 8)) = k % 8 by omega]
 exact lt8_bd (fun i => getD_bd hb _) _
theorem lt8_congr {f g : Nat → Int} {n : Nat} (h : ∀ q, q < n → f q = g q) : lt8 f n = lt8 g n := by
 induction n with
 | zero => rfl
 | succ n ih => simp only [lt8]; rw [ih fun q hq => h q (by omega), h n (by omega)]
theorem lt8_shift (f : Nat → Int) (n : Nat) : lt8 f (n + 1) = f 0 + 256 * lt8 (fun i => f (i + 1)) n := by
 induction n with
 | zero => simp [lt8]
 | succ n ih =>
  rw [lt8, ih]
  simp only [lt8, Int.pow_succ]
  grind
def up8 (f : Nat → Int) (i : Nat) : Int := lt8 (fun q => f (q + i)) (8 - i)
theorem up8_step (f : Nat → Int) {i : Nat} (h : i < 8) : up8 f i = f i + 256 * up8 f (i + 1) := by
 unfold up8
 rw [show 8 - i = (8 - (i + 1)) + 1 by omega, lt8_shift]
 simp only [Nat.zero_add]
 congr 3
 funext q
 congr 1; omega
theorem up8_bd {f : Nat → Int} (h : ∀ i, 0 ≤ f i ∧ f i < 256) (i : Nat) : 0 ≤ up8 f i ∧ up8 f i < 256 ^ (8 - i) := lt8_bd (fun q => h _) _
theorem leB_take (L : List Int) {i k : Nat} (hk : k < 8) (hi : i < 4) : (leB L).take (8 * i + k) ++ [L.getD i 0 / 2 ^ (8 * k) % 256] = (leB L).take (8 * i + (k + 1)) := by
 have h : 8 * i + k < (leB L).length := by rw [leB_length]; omega
 rw [← Nat.add_assoc, List.take_succ_eq_append_getElem h]
 congr 2
 simp only [leB, List.getElem_map, List.getElem_range]
 rw [show (8 * i + k) / 8 = i by omega, show (8 * i + k) % 8 = k by omega]
def pBody : List Int → List Int
 | x :: y :: r => if x = 0 ∧ y < 128 then pBody (y :: r) else if 128 ≤ x then 0 :: x :: y :: r else x :: y :: r
 | [x] => if 128 ≤ x then [0, x] else [x]
 | [] => []
def derI (B : List Int) : List Int := 2 :: ((pBody B).length : Int) :: pBody B
def derE (A B : List Int) : List Int := 48 :: ((derI A ++ derI B).length : Int) :: (derI A ++ derI B)
theorem pBody_zero (x : Int) (r : List Int) : pBody (0 :: x :: r) = pBody (x :: r) := by
 by_cases h : x < 128
 ·rw [pBody, if_pos ⟨rfl, h⟩]
 ·rw [pBody, if_neg (by simp [h]), if_neg (by decide)]
  rcases r with _ | ⟨y, r⟩
  ·rw [pBody, if_pos (by omega)]
  ·rw [pBody, if_neg (by omega), if_pos (by omega)]
theorem pBody_stop (x : Int) (r : List Int) (h : r = [] ∨ x ≠ 0) : pBody (x :: r) = if 128 ≤ x then 0 :: x :: r else x :: r := by
  rcases r with _ | ⟨y, r⟩
  · rfl
  · rw [pBody, if_neg (by rcases h with h | h; · cases h
                          · exact fun e => h e.1)]
theorem pBody_length : ∀ B : List Int, B ≠ [] → 1 ≤ (pBody B).length ∧ (pBody B).length ≤ B.length + 1
 | [x], _ => by rw [pBody]; split <;> simp
 | x :: y :: r, _ => by
  have ih := pBody_length (y :: r) (by simp)
  rw [pBody]
  split
  ·simp only [List.length_cons] at *; omega
  ·split <;> simp
theorem pBody_drop {B : List Int} {k : Nat} (h0 : B[k]? = some 0) (hk : k + 1 < B.length) : pBody (B.drop (k + 1)) = pBody (B.drop k) := by
 obtain ⟨h, e⟩ := List.getElem?_eq_some_iff.1 h0
 rw [List.drop_eq_getElem_cons h, e, List.drop_eq_getElem_cons hk, pBody_zero]
def badI (b : List Int) : Prop := 128 ≤ b.getD 0 0 ∨ (1 < b.length ∧ b.getD 0 0 = 0 ∧ b.getD 1 0 < 128) ∨ (b.length = 33 ∧ b.getD 0 0 ≠ 0)
def natB (b : List Int) : List Int := leN (List.replicate (32 - b.length) 0 ++ b).reverse
end Go.Chr
/- Contracts of the codec, and of what it calls. -/
namespace Go.Proofs.YtdcganigfihkjaaGreatDoor
open Go.RowKit Go.Chr
def RetB (w : World) (l : List Int) (e : Ending) (w' : World) : Prop := ∃ v, e = .returned v ∧ OI w' w.heap.size 5 .u8 v l ∧ Below w.heap.size w w'
def RevB (w : World) (B : Nat) (v : Value) (l : List Int) (e : Ending) (w' : World) : Prop := e = .returned (.tuple #[]) ∧ OI w' B 5 .u8 v l.reverse ∧ w.grownBy w' v.ownBlock
theorem take_succ_set {l m : List Int} {k : Nat} {x : Int} (h : l.take k = m.take k) (hl : l.length = m.length) (hk : k < m.length) (hx : m.getD k 0 = x) : (l.set k x).take (k + 1) = m.take (k + 1) := by
 apply List.ext_getElem
 ·simp [hl]
 ·intro i h1 h2
  simp only [List.length_take, List.length_set] at h1
  simp only [List.getElem_take, List.getElem_set]
  split
  ·subst_vars; simp [List.getD, List.getElem?_eq_getElem hk]
  ·have : (l.take k)[i]'(by simp; omega) = (m.take k)[i]'(by simp; omega) := by simp only [h]
   simpa using this
set_option maxHeartbeats 400000 in
theorem putLittle_any (a0 a1 a2 a3 : Int) (w : World) :
  Calls Tryz.prog 105 #[.agg #[.int .u64 a0, .int .u64 a1, .int .u64 a2, .int .u64 a3]] w (RetB w (leB [a0, a1, a2, a3])) := by
 have hmk : ∀ w, (Instr.makeSlice 22 (.int .i64 32) (.int .i64 32)).run Tryz.prog w = .ok (.slice (some ⟨w.heap.size, 0, none⟩) 32 32) (w.alloc (.cells (Array.replicate 32 (.int .u8 0)) 5)) := fun _ => by kernel_rfl
 go_enter Tryz.func105, Tryz.ntmps105
 go_wp2
 go_loopw [8] (fun i wr => ∃ (k : Nat) (l : List Int), k ≤ 32 ∧ l.length = 32 ∧ i = .int .i64 k ∧
   IB wr w.heap.size 27 .u64 [a0, a1, a2, a3] ∧ IB wr (w.heap.size + 1) 5 .u8 l ∧ l.take k = (leB [a0, a1, a2, a3]).take k ∧ Below w.heap.size w wr) (fun i _ => 32 - (intOf i).toNat)
 case atStart =>
  refine ⟨0, List.replicate 32 0, by omega, by simp, rfl, ?_, ?_, by simp, ?_⟩
  ·exact (IB.new w 27 .u64 [a0, a1, a2, a3]).alloc _
  ·have := IB.zeros (w.alloc (.cells #[.int .u64 a0, .int .u64 a1, .int .u64 a2, .int .u64 a3] 27)) 5 .u8 32
   simpa using this
  ·exact ((Below.refl _ _).alloc (Nat.le_refl _) _).alloc (by simp) _
 case round =>
  obtain ⟨k, l, hk, hl, rfl, hb0, hb1, ht, hB⟩ := hrel
  by_cases hlt : k < 32
  ·have q1 := hb0.cell (i := k / 8) (by simp; omega)
   have q2 := hb1.cell (i := k) (by omega)
   have q3 := hb1.frozen k
   obtain ⟨x, hx⟩ : ∃ x, x = [a0, a1, a2, a3].getD (k / 8) 0 := ⟨_, rfl⟩
   rw [← hx] at q1
   have HX := Lib.hid hx; clear hx
   have HT := Lib.hid ht; clear ht
   have H0 := Lib.hid hb0; clear hb0
   have H1 := Lib.hid hb1; clear hb1
   have HL := Lib.hid hl; clear hl
   go_wp2
   go_roundw
   case rel =>
    have hl := HL.out
    refine ⟨k + 1, l.set k (x / 2 ^ (8 * (k % 8)) % 256), by omega, by simp [hl], by go_num, H0.out.far (by simp) _, H1.out.set k _, ?_, hB.setCell (by simp) _⟩
    refine take_succ_set HT.out (by rw [hl, leB_length]) (by rw [leB_length]; omega) ?_
    rw [HX.out]
    simp [leB, List.getD, hlt]
   case measure => simp [intOf]; omega
  ·have hk32 : k = 32 := by omega
   have hfin : l = leB [a0, a1, a2, a3] := by
    subst hk32
    rw [List.take_of_length_le (by omega), List.take_of_length_le (by rw [leB_length]; omega)] at ht; exact ht
   have HX := Lib.hid hfin; clear hfin ht hk32
   have H0 := Lib.hid hb0; clear hb0
   have H1 := Lib.hid hb1; clear hb1
   have HL := Lib.hid hl; clear hl
   go_wp2
   go_ret
   refine ⟨_, rfl, ?_, hB⟩
   have := OI.of_ib (B := w.heap.size) H1.out (by omega) (by rw [HL.out]; simp [maxLen])
   rw [HL.out, HX.out] at this; exact this
theorem rev_step {l m : List Int} {i j : Nat} (hl : l.length = m.length) (hij : i + j + 1 = m.length) (hlt : i < j)
  (hp : ∀ q, q < m.length → l.getD q 0 = if q < i ∨ j + 1 ≤ q then m.getD (m.length - 1 - q) 0 else m.getD q 0) :
  ∀ q, q < m.length → ((l.set i (l.getD j 0)).set j (l.getD i 0)).getD q 0 = if q < i + 1 ∨ j ≤ q then m.getD (m.length - 1 - q) 0 else m.getD q 0 := by
 intro q hq
 have h1 := hp i (by omega)
 have h2 := hp j (by omega)
 rw [if_neg (by omega)] at h1 h2
 rw [h1, h2]
 have hq' := hp q hq
 simp only [List.getD, List.getElem?_set, List.length_set] at *
 by_cases e1 : j = q
 ·subst e1
  rw [if_pos rfl, if_pos (by omega), if_pos (by omega)]
  rw [show m.length - 1 - j = i by omega]; rfl
 ·rw [if_neg e1]
  by_cases e2 : i = q
  ·subst e2
   rw [if_pos rfl, if_pos (by omega), if_pos (by omega)]
   rw [show m.length - 1 - i = j by omega]; rfl
  ·rw [if_neg e2, hq']
   by_cases e3 : q < i ∨ j + 1 ≤ q
   ·rw [if_pos e3, if_pos (by omega)]
   ·rw [if_neg e3, if_neg (by omega)]
theorem rev_done {l m : List Int} {i j : Nat} (hl : l.length = m.length) (hij : i + j = m.length) (hlt : j ≤ i + 1)
  (hp : ∀ q, q < m.length → l.getD q 0 = if q < i ∨ j ≤ q then m.getD (m.length - 1 - q) 0 else m.getD q 0) : l = m.reverse := by
 apply List.ext_getElem
 ·simp [hl]
 ·intro q h1 h2
  have := hp q (by omega)
  have hq : q < m.length := by omega
  have e : l.getD q 0 = m.getD (m.length - 1 - q) 0 := by
   rw [this]
   by_cases h : q < i ∨ j ≤ q
   ·rw [if_pos h]
   ·rw [if_neg h, show m.length - 1 - q = q by omega]
  simp only [List.getD, List.getElem?_eq_getElem h1, List.getElem?_eq_getElem (show m.length - 1 - q < m.length by omega), Option.getD_some] at e
  rw [e]; simp
set_option maxHeartbeats 1000000 in
theorem reverse_any (v : Value) (l : List Int) (B : Nat) (w : World) (hv : OI w B 5 .u8 v l) (hlen : l.length ≤ 140737488355328) :
  Calls Tryz.prog 78 #[v] w (RevB w B v l) := by
 rcases hv.open with ⟨rfl, rfl⟩ | ⟨g, cap, sp, rfl, hB, hc, hm, hs, hg⟩
 ·go_enter Tryz.func78, Tryz.ntmps78
  go_wp2
  refine wp_loop_once ?_
  go_wp2
  go_end0
  exact ⟨rfl, hv, World.grownBy.refl w _⟩
 ·clear hv
  go_enter Tryz.func78, Tryz.ntmps78
  go_wp2
  go_loopw [2, 3] (fun i j wr => ∃ (p q : Nat) (m : List Int), m.length = l.length ∧ p + q = l.length ∧ i = .int .i64 p ∧ j = .int .i64 (q - 1) ∧ p ≤ q + 1 ∧
   IS wr g 5 .u8 m sp ∧ (∀ z, z < l.length → m.getD z 0 = if z < p ∨ q ≤ z then l.getD (l.length - 1 - z) 0 else l.getD z 0) ∧ w.grownBy wr (some g)) (fun i j _ => (intOf j - intOf i + 1).toNat)
  case atStart =>
   refine ⟨0, l.length, l, rfl, by omega, rfl, rfl, by omega, hg, ?_, World.grownBy.refl w _⟩
   intro z hz; rw [if_neg (by omega)]
  case round =>
   obtain ⟨p, q, m, hml, hpq, rfl, rfl, hle, hb, hp, hB'⟩ := hrel
   by_cases hlt : (p : Int) < q - 1
   ·obtain ⟨r, rfl⟩ : ∃ r, q = r + 1 := ⟨q - 1, by omega⟩
    have e : ((r + 1 : Nat) : Int) - 1 = r := by omega
    rw [e]; rw [e] at hlt; clear e
    have q1 := hb.cell (i := p) (by omega)
    have q2 := hb.cell (i := r) (by omega)
    have q3 := hb.frozen p
    have q4 := hb.frozen r
    have n1 : p < l.length := by omega
    have n2 : r < l.length := by omega
    have n3 : p ≠ r := by omega
    obtain ⟨x, hx⟩ : ∃ x, x = m.getD p 0 := ⟨_, rfl⟩
    obtain ⟨y, hy⟩ : ∃ y, y = m.getD r 0 := ⟨_, rfl⟩
    rw [← hx] at q1
    rw [← hy] at q2
    have HX := Lib.hid hx; clear hx
    have HY := Lib.hid hy; clear hy
    have HP := Lib.hid hp; clear hp
    have HM := Lib.hid hml; clear hml
    have HQ := Lib.hid hpq; clear hpq
    go_wp2
    go_region
    go_wp2
    go_roundw
    case rel =>
     have hx := HX.out; have hy := HY.out; have hp := HP.out; have hml := HM.out; have hpq := HQ.out
     refine ⟨p + 1, r, (m.set p y).set r x, by simp [hml], by omega, by go_num, rfl, by omega, ?_, ?_, ?_⟩
     ·exact (hb.drew.set (by omega) y).set (by simp; omega) x
     ·have := rev_step (l := m) (m := l) (i := p) (j := r) hml (by omega) (by omega) hp
      rw [hx, hy]; exact this
     ·exact gb_set (gb_set (gb_drew hB') rfl _) rfl _
    case measure => simp [intOf]; omega
   ·have hfin : m = l.reverse := rev_done (i := p) (j := q) hml (by omega) (by omega) hp
    have hlt' : ¬ ((p : Int) < (q : Int) - 1) := hlt
    have HF := Lib.hid hfin; clear hfin hp
    have HM := Lib.hid hml; clear hml
    have HQ := Lib.hid hpq; clear hpq
    go_wp2
    go_end0
    refine ⟨rfl, ?_, hB'⟩
    rw [← HF.out]
    have := OI.mk hb hB (by have := HM.out; omega) hm
    rw [HM.out] at this; exact this
set_option maxHeartbeats 400000 in
theorem putBig_any (a0 a1 a2 a3 : Int) (w : World) :
  Calls Tryz.prog 69 #[.agg #[.int .u64 a0, .int .u64 a1, .int .u64 a2, .int .u64 a3]] w (RetB w (leB [a0, a1, a2, a3]).reverse) := by
 go_enter Tryz.func69, Tryz.ntmps69
 go_wp2_with fail
 refine (putLittle_any a0 a1 a2 a3 _).mono ?_
 rintro e w1 ⟨v, rfl, hv, hb⟩
 go_wp2_with fail
 refine (reverse_any v _ _ w1 hv (by rw [leB_length]; omega)).mono ?_
 rintro e w2 ⟨rfl, hv2, hg⟩
 go_wp2
 go_ret
 simp at hv2 hv
 refine ⟨v, rfl, hv2.mono (by simp), ?_⟩
 refine (((Below.refl _ _).alloc (Nat.le_refl _) _).trans (hb.mono (by simp))).grown hg ?_ fun k hk => ?_
 ·have := hb.size; simp at this; omega
 ·have := (hv.lt k hk).1; omega
set_option maxHeartbeats 400000 in
theorem clone_any (u : Value) (l : List Int) (w : World) (hu : RI w .u8 u l) (hlen : l.length ≤ 140737488355328) :
  Calls Tryz.prog 77 #[u] w (RetB w l) := by
 have hu' := hu
 obtain ⟨A, c, rfl, hc, hr⟩ := hu
 have heq : ∀ w : World, (binOp .eql 22 (.slice A l.length c) (.slice none 0 0)).run Tryz.prog w = .ok (.bool A.isNone) w := fun w => Lib.run_eql_slice_nil (P := Tryz.prog) w 22 5 A l.length c 0 0 Tryz.underlying22
 have hbs : ∀ w, (Instr.buildSlice 22 0 #[]).run Tryz.prog w = .ok (.slice (some ⟨w.heap.size, 0, none⟩) 0 0) (w.alloc (.cells #[] 5)) := fun _ => by kernel_rfl
 rcases A with _ | ad
 ·have : l = [] := by
   rcases l with _ | ⟨x, l⟩
   ·rfl
   ·obtain ⟨ad, h, _⟩ := hr.2 (by simp)
    cases h
  subst this
  simp only [Option.isNone_none, List.length_nil] at heq
  go_enter Tryz.func77, Tryz.ntmps77
  go_wp2
  go_ret
  exact ⟨_, rfl, OI.nil _ _ _ _, Below.refl _ _⟩
 ·simp only [Option.isNone_some] at heq
  go_enter Tryz.func77, Tryz.ntmps77
  go_wp2_with (at_builtin; refine app_u8 (B := w.heap.size) rfl (.tmp 5) (.tmp 6) rfl _ _ [] l rfl rfl (OI.mk (sp := []) (Blk.new w 5 #[]) (Nat.le_refl _) rfl (by simp)) (hu'.below ((Below.refl _ _).alloc (Nat.le_refl _) _)) (by simpa using hlen) (by simp) ?_; intro v1 w1 hv hb _ _)
  go_ret
  exact ⟨v1, rfl, by simpa using hv, ((Below.refl _ _).alloc (Nat.le_refl _) _).trans hb⟩
theorem or_shift {z x : Int} {s : Nat} (hs : s ≤ 56) (hz0 : 0 ≤ z) (hz : z < 2 ^ s) (hx0 : 0 ≤ x) (hx : x < 256) :
    bits .or .u64 z (IntKind.u64.wrap (x * 2 ^ s)) = z + x * 2 ^ s := by
  obtain ⟨a, rfl⟩ := Int.eq_ofNat_of_zero_le hz0
  obtain ⟨b, rfl⟩ := Int.eq_ofNat_of_zero_le hx0
  have h2 : (2 : Int) ^ s = ((2 ^ s : Nat) : Int) := by simp
  rw [h2] at hz ⊢
  have ha : a < 2 ^ s := by omega
  have hp : 2 ^ s ≤ 2 ^ 56 := Nat.pow_le_pow_right (by decide) hs
  have hbm : b * 2 ^ s ≤ 255 * 2 ^ 56 := Nat.mul_le_mul (by omega) hp
  have e : ((b : Int) * ((2 ^ s : Nat) : Int)) = ((b * 2 ^ s : Nat) : Int) := by simp
  rw [e, IntKind.wrap_u64]
  have hw : ((b * 2 ^ s : Nat) : Int) % 18446744073709551616 = ((b * 2 ^ s : Nat) : Int) := by
    refine Int.emod_eq_of_lt (by omega) ?_
    have : (255 * 2 ^ 56 : Nat) < 18446744073709551616 := by decide
    omega
  rw [hw, bits_or_u64_nat a (b * 2 ^ s) (by have : (2 ^ 56 : Nat) < 18446744073709551616 := by decide
                                            omega) (by have : (255 * 2 ^ 56 : Nat) < 18446744073709551616 := by decide
                                                       omega)]
  have := Nat.two_pow_add_eq_or_of_lt ha b
  rw [Nat.mul_comm, Nat.or_comm] at this
  rw [← this]; simp [Int.add_comm]
theorem leTo_succ {l : List Int} {k : Nat} {x : Int} (hk : k < 32) (hx : l[k]? = some x) (hb : ∀ x ∈ l, 0 ≤ x ∧ x < 256) :
  (leTo l k).set (k / 8) (bits .or .u64 ((leTo l k).getD (k / 8) 0) (IntKind.u64.wrap (x * 2 ^ (8 * (k % 8))))) = leTo l (k + 1) := by
 have h0 := limbTo_bd hb k
 have hxx := hb x (List.mem_of_getElem? hx)
 have hgx : l.getD k 0 = x := by simp [List.getD, hx]
 have hp : (256 : Int) ^ (k % 8) = 2 ^ (8 * (k % 8)) := by rw [Int.pow_mul]; rfl
 have hs := limbTo_succ l k
 rw [hgx, hp] at hs
 rw [hp] at h0
 have hor := or_shift (z := limbTo l (k / 8) k) (s := 8 * (k % 8)) (by omega) h0.1 h0.2 hxx.1 hxx.2
 rw [← hs] at hor
 have hj : k / 8 = 0 ∨ k / 8 = 1 ∨ k / 8 = 2 ∨ k / 8 = 3 := by omega
 have n0 := @limbTo_succ_ne l 0 k
 have n1 := @limbTo_succ_ne l 1 k
 have n2 := @limbTo_succ_ne l 2 k
 have n3 := @limbTo_succ_ne l 3 k
 rcases hj with hj | hj | hj | hj <;> rw [hj] at hor n0 n1 n2 n3 ⊢ <;> simp [leTo, List.getD] at hor n0 n1 n2 n3 ⊢ <;> simp [hor, n0, n1, n2, n3]
def RetN (w : World) (L : List Int) (ok : Bool) (e : Ending) (w' : World) : Prop := e = .returned (.tuple #[.agg (L.map (Value.int .u64)).toArray, .bool ok]) ∧ Below w.heap.size w w'
set_option maxHeartbeats 1000000 in
theorem little_any (u : Value) (l : List Int) (w : World) (hu : RI w .u8 u l) (hb : ∀ x ∈ l, 0 ≤ x ∧ x < 256) (hlen : l.length = 32) :
  Calls Tryz.prog 79 #[u] w (RetN w (leN l) true) := by
 have hu' := hu
 obtain ⟨A, c, rfl, hc, hr⟩ := hu
 have hn : ((l.length : Int) != 32) = false := by rw [hlen]; rfl
 have HL := Lib.hid hlen; clear hlen
 go_enter Tryz.func79, Tryz.ntmps79
 go_wp2
 go_loopw [13] (fun i wr => ∃ (k : Nat), k ≤ 32 ∧ i = .int .i64 k ∧ IB wr (w.heap.size + 1) 27 .u64 (leTo l k) ∧ Blk wr w.heap.size 27 #[.int .u64 0, .int .u64 0, .int .u64 0, .int .u64 0] ∧ Below w.heap.size w wr) (fun i _ => 32 - (intOf i).toNat)
 case atStart =>
  refine ⟨0, by omega, rfl, ?_, ?_, ?_⟩
  ·have := IB.new (w.alloc (.cells #[.int .u64 0, .int .u64 0, .int .u64 0, .int .u64 0] 27)) 27 .u64 (leTo l 0)
   simpa [leTo, limbTo, lt8] using this
  ·exact (Blk.new w 27 _).alloc _
  ·exact ((Below.refl _ _).alloc (Nat.le_refl _) _).alloc (by simp) _
 case round =>
  obtain ⟨k, hk, rfl, hb1, hb0, hB⟩ := hrel
  by_cases hlt : k < 32
  ·obtain ⟨ad, y, rfl, _, hx, hcell⟩ := (hr.below hB).at_ (k := k) (by rw [HL.out]; exact hlt)
   obtain ⟨x, rfl, hxl⟩ : ∃ x, y = .int .u8 x ∧ l[k]? = some x := by
    rw [List.getElem?_map] at hx
    cases h : l[k]? with
    | none => rw [h] at hx; simp at hx
    | some x => rw [h] at hx; simp at hx; exact ⟨x, hx.symm, rfl⟩
   have hx0 : 0 ≤ x ∧ x < 256 := hb x (List.mem_of_getElem? hxl)
   obtain ⟨hx1, hx2⟩ := hx0
   have hkl : (k : Int) < l.length := by rw [HL.out]; omega
   have q1 := hb1.cell (i := k / 8) (by simp [leTo]; omega)
   have q2 := hb1.frozen (k / 8)
   obtain ⟨z, hz⟩ : ∃ z, z = (leTo l k).getD (k / 8) 0 := ⟨_, rfl⟩
   rw [← hz] at q1
   have HZ := Lib.hid hz; clear hz
   have HX := Lib.hid hxl; clear hxl hx
   go_wp2
   go_region
   go_wp2
   go_roundw
   case rel =>
    refine ⟨k + 1, by omega, by go_num, (hb1.drew.set (k / 8) _).congr ?_, hb0.drew.far (by simp) _, hB.drew.setCell (by simp) _⟩
    rw [HZ.out]
    exact leTo_succ hlt HX.out hb
   case measure => simp [intOf]; omega
  ·have hn2 : k = 32 := by omega
   have hlt' : ¬ ((k : Int) < l.length) := by rw [HL.out]; omega
   subst hn2
   have hb1' : Blk wr (w.heap.size + 1) 27 #[.int .u64 (limbTo l 0 32), .int .u64 (limbTo l 1 32), .int .u64 (limbTo l 2 32), .int .u64 (limbTo l 3 32)] := hb1
   have r1 := hb1'.cell
   have r2 := hb0.cell
   have r3 := hb0.frozen
   have r4 : (32 : Int) < l.length ↔ False := by rw [HL.out]; decide
   simp only [leN, leTo] at *
   have H0 := Lib.hid hb0; clear hb0
   clear hb1 hb1'
   go_wp2
   have hfin := (((H0.out.set_ 0 (.int .u64 (limbTo l 0 32))).set_ 1 (.int .u64 (limbTo l 1 32))).set_ 2 (.int .u64 (limbTo l 2 32))).set_ 3 (.int .u64 (limbTo l 3 32))
   refine bodyPost_ret (results_blk_tmp (d := .array 4 25) Tryz.results79 rfl hfin rfl Tryz.underlying27 (by kernel_rfl)) rfl ⟨rfl, ?_⟩
   exact (((hB.setCell (by simp) _).setCell (by simp) _).setCell (by simp) _).setCell (by simp) _
set_option maxHeartbeats 1000000 in
theorem big_any (u : Value) (l : List Int) (w : World) (hu : RI w .u8 u l) (hb : ∀ x ∈ l, 0 ≤ x ∧ x < 256) (hlen : l.length = 32) :
  Calls Tryz.prog 41 #[u] w (RetN w (leN l.reverse) true) := by
 have HL := Lib.hid hlen; clear hlen
 go_enter Tryz.func41, Tryz.ntmps41
 go_wp2_with fail
 refine (clone_any u l _ (hu.below ((Below.refl _ _).alloc (Nat.le_refl _) _)) (by rw [HL.out]; omega)).mono ?_
 rintro e w1 ⟨v, rfl, hv, hb1⟩
 go_wp2_with fail
 refine (reverse_any v _ _ w1 hv (by rw [HL.out]; omega)).mono ?_
 rintro e w2 ⟨rfl, hv2, hg⟩
 have hb2 : Below (w.alloc (.cells #[.int .u64 0, .int .u64 0, .int .u64 0, .int .u64 0] 27)).heap.size (w.alloc (.cells #[.int .u64 0, .int .u64 0, .int .u64 0, .int .u64 0] 27)) w2 :=
  hb1.grown hg hb1.size fun k hk => (hv.lt k hk).1
 go_wp2_with fail
 refine (little_any v _ w2 hv2.ri (fun x hx => hb x (List.mem_reverse.1 hx)) (by simp [HL.out])).mono ?_
 rintro e w3 ⟨rfl, hb3⟩
 have hb4 := hb2.trans (hb3.mono hb2.size)
 have H0 := ((Blk.new w 27 #[.int .u64 0, .int .u64 0, .int .u64 0, .int .u64 0]).below hb4 (by simp))
 have r2 := H0.cell
 have r3 := H0.frozen
 have H := Lib.hid H0; clear H0
 obtain ⟨x0, x1, x2, x3, hL⟩ : ∃ x0 x1 x2 x3, leN l.reverse = [x0, x1, x2, x3] := ⟨_, _, _, _, rfl⟩
 simp only [hL, List.map_cons, List.map_nil]
 have HX := Lib.hid hL; clear hL
 go_wp2
 have hfin := (((H.out.set_ 0 (.int .u64 x0)).set_ 1 (.int .u64 x1)).set_ 2 (.int .u64 x2)).set_ 3 (.int .u64 x3)
 refine bodyPost_ret (results_blk_tmp (d := .array 4 25) Tryz.results41 rfl hfin rfl Tryz.underlying27 (by kernel_rfl)) rfl ⟨by rw [HX.out]; rfl, ?_⟩
 have hB := ((Below.refl w.heap.size w).alloc (Nat.le_refl _) (.cells #[.int .u64 0, .int .u64 0, .int .u64 0, .int .u64 0] 27)).trans (hb4.mono (by simp))
 exact (((hB.setCell (by simp) _).setCell (by simp) _).setCell (by simp) _).setCell (by simp) _
end Go.Proofs.YtdcganigfihkjaaGreatDoor
