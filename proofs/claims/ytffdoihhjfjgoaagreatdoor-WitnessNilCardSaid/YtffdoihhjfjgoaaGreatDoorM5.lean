import Derived.Test.YtffdoihhjfjgoaaGreatDoorM4
import Derived.Laws.Slices
import Derived.Laws.MakeOwn
import Derived.Great.BuildSlice
import Derived.Deep.AppendSrc
import Derived.Lib.AppendZerosOnto
import Derived.Laws.IdiomStrings
import Derived.Laws.BytesString
import Derived.Laws.CopyRow
/- Operations: slices of slices, of arrays, of strings. -/
namespace Go.Ab
open Go Go.Chr Go.RowKit
def bndO (ρ : Operand → Option AV) : Option Operand → Option (Option Int)
 | none => some none
 | some x => match ρ x with
  | some (.c (.int _ z)) => some (some z)
  | _ => none
def bndB (n : Nat) : Option Int → Option Int → Bool
 | none, none => true
 | some l, none => decide (0 ≤ l) && decide (l ≤ n)
 | none, some h => decide (0 ≤ h) && decide (h ≤ n)
 | some l, some h => decide (0 ≤ l) && (decide (l ≤ h) && decide (h ≤ n))
def loB : Option Int → Nat
 | none => 0
 | some l => l.toNat
def hiB (n : Nat) : Option Int → Nat
 | none => n
 | some h => h.toNat
def natSub (a b : Nat) : Nat := a - b
def cutA (s : Nat) (a : AV) (lo n : Nat) : Option AV := match a with
 | .own b e _ => bif Nat.beq e s then some (.sub b e lo n) else none
 | .sub b e i _ => bif Nat.beq e s then some (.sub b e (i + lo) n) else none
 | .inn b i e off z _ => bif Nat.beq z s then some (.inn b i e (off + lo * z) z n) else none
 | .c (.ints k l) => bif Nat.beq s 1 then some (.c (.ints k ((l.drop lo).take n))) else none
 | .c (.rows z t xs) => bif Nat.beq z s then some (.c (.rows z t ((xs.drop lo).take n))) else none
 | _ => none
def aSlice (C : Ctx) (t : TypeId) (a : AV) (lo hi : Option (Option Int)) (k : OpR → Prop) : Prop := match lo, hi with
 | some lo, some hi => match C.P.underlying t with
  | some .string => match a with
   | .c (.str l) => cond (bndB l.length lo hi) (k ⟨.c (.str ((l.drop (loB lo)).take (natSub (hiB l.length hi) (loB lo)))), [], [], []⟩) False
   | _ => False
  | some (.slice e) => match lenOf a with
   | some n => cond (bndB n lo hi) (match C.P.info? e with
    | some i => match cutA i.size a (loB lo) (natSub (hiB n hi) (loB lo)) with
     | some u => k ⟨u, [], [], []⟩
     | none => False
    | none => False) False
   | none => False
  | some (.array n e) => cond (bndB n lo hi) (match C.P.info? e with
    | some i => match a with
     | .ptr b j esz off => cond (Nat.ble (off + n * i.size) esz) (k ⟨.inn b j esz (off + loB lo * i.size) i.size (natSub (hiB n hi) (loB lo)), [], [], []⟩) False
     | .cp v j off => match elemC v j with
      | some (.arr kd m l) => cond ((Nat.beq off 0 && Nat.beq m n) && Nat.beq i.size 1) (k ⟨.c (.ints kd ((l.drop (loB lo)).take (natSub (hiB n hi) (loB lo)))), [], [], []⟩) False
      | _ => False
     | _ => False
    | none => False) False
  | _ => False
 | _, _ => False
section
variable {C : Ctx} {ι : Nat → Option Loc} {N : Nat → Prop} {w : World} {nx : Nat} {r : OpR} {o : Oper} {ρ : Operand → Option AV}
theorem bndB_ok {n : Nat} {lo hi : Option Int} (h : bndB n lo hi = true) : (∀ l, lo = some l → 0 ≤ l) ∧ (∀ z, hi = some z → 0 ≤ z) ∧ loB lo ≤ hiB n hi ∧ hiB n hi ≤ n := by
 cases lo with
 | none =>
  cases hi with
  | none => exact ⟨fun l e => (nomatch e), fun l e => (nomatch e), Nat.zero_le _, Nat.le_refl _⟩
  | some z =>
   simp only [bndB, Bool.and_eq_true, decide_eq_true_eq] at h
   refine ⟨fun l e => (nomatch e), fun l e => by (injection e with e; subst e; exact h.1), Nat.zero_le _, ?_⟩
   show z.toNat ≤ n
   omega
 | some l =>
  cases hi with
  | none =>
   simp only [bndB, Bool.and_eq_true, decide_eq_true_eq] at h
   refine ⟨fun l e => by (injection e with e; subst e; exact h.1), fun l e => (nomatch e), ?_, Nat.le_refl _⟩
   show l.toNat ≤ n
   omega
  | some z =>
   simp only [bndB, Bool.and_eq_true, decide_eq_true_eq] at h
   refine ⟨fun l e => by (injection e with e; subst e; exact h.1), fun l e => by (injection e with e; subst e; omega), ?_, ?_⟩
   ·show l.toNat ≤ z.toNat
    omega
   ·show z.toNat ≤ n
    omega
theorem bndO_val {x : Option Operand} {z : Option Int} (h : bndO ρ x = some z) {a : Act} (hm : ∀ y v, x = some y → ρ y = some v → v.val ι N w (a.eval y)) : (z = none ∧ x.map a.eval = none) ∨ ∃ u k, z = some u ∧ x.map a.eval = some (.int k u) := by
 cases x with
 | none => injection h with h; subst h; exact .inl ⟨rfl, rfl⟩
 | some y =>
  have h : (match ρ y with | some (.c (.int _ z)) => some (some z) | _ => none) = some z := h
  split at h
  ·rename_i k u hu
   injection h with h; subst h
   obtain ⟨e, _⟩ := val_int (hm y _ rfl hu)
   exact .inr ⟨u, k, rfl, by simp [e]⟩
  ·cases h
theorem run_bounds {P : Program} {isS : Bool} {len cap : Nat} {lo hi : Option Int} {vl vh : Option Value} (hb : bndB len lo hi = true) (hc : len ≤ cap)
  (hl : (lo = none ∧ vl = none) ∨ ∃ u k, lo = some u ∧ vl = some (.int k u)) (hh : (hi = none ∧ vh = none) ∨ ∃ u k, hi = some u ∧ vh = some (.int k u)) (w : World) :
  (Instr.sliceBounds isS len cap vl vh none).run P w = .ok (loB lo, hiB len hi, cap) w := by
 obtain ⟨h1, h2, h3, h4⟩ := bndB_ok hb
 rcases hl with ⟨rfl, rfl⟩ | ⟨u, k, rfl, rfl⟩
 ·rcases hh with ⟨rfl, rfl⟩ | ⟨z, k', rfl, rfl⟩
  ·simp [Instr.sliceBounds, loB, hiB]
  ·have h2 := h2 z rfl
   have h4 : z.toNat ≤ len := h4
   simp [Instr.sliceBounds, loB, hiB, run_sliceBound, h2, show z ≤ (cap : Int) by omega]
 ·have h1 := h1 u rfl
  have h3 : u.toNat ≤ hiB len hi := h3
  rcases hh with ⟨rfl, rfl⟩ | ⟨z, k', rfl, rfl⟩
  ·have h3 : u.toNat ≤ len := h3
   simp [Instr.sliceBounds, loB, hiB, run_sliceBound, h1, show u ≤ (len : Int) by omega]
  ·have h2 := h2 z rfl
   have h3 : u.toNat ≤ z.toNat := h3
   have h4 : z.toNat ≤ len := h4
   simp [Instr.sliceBounds, loB, hiB, run_sliceBound, h1, h2, show z ≤ (cap : Int) by omega, show u ≤ ((z.toNat : Nat) : Int) by omega]
   rw [run_sliceBound w k u z.toNat _ h1 (by omega)]
   rfl
theorem add_parts (ad : Addr) (i : Nat) : (ad.add i).block = ad.block ∧ (ad.spot = none → (ad.add i).spot = none ∧ (ad.add i).off = ad.off + i) := by
 unfold Addr.add
 split
 ·rename_i h; subst h; exact ⟨rfl, fun h => ⟨h, by omega⟩⟩
 ·exact ⟨rfl, fun _ => ⟨rfl, rfl⟩⟩
theorem SliceOf.cut {n : Nat} {xs cs : List Value} {A : Option Addr} {c s : Nat} (h : SliceOf N w n xs [.slice A n c]) (hx : xs.length = n * s) {lo m : Nat} (hlm : lo + m ≤ n) :
  SliceOf N w m ((xs.drop (lo * s)).take (m * s)) [.slice (if c = lo then A else A.map (·.add (lo * s))) m (c - lo)] := by
 obtain ⟨A', c', e, hc, hcell⟩ := h
 injection e with e _
 injection e with e1 _ e3
 subst e1; subst e3
 refine ⟨_, _, rfl, by omega, fun h0 => ?_⟩
 obtain ⟨ad, e, hb, hcells⟩ := hcell (by omega)
 subst e
 rw [if_neg (by omega)]
 refine ⟨_, rfl, by rw [(add_parts ad _).1]; exact hb, fun j u hj => ?_⟩
 rw [add_of_add]
 rw [List.getElem?_take] at hj
 split at hj
 ·rw [List.getElem?_drop] at hj; exact hcells _ u hj
 ·cases hj
theorem cutA_val {s : Nat} {a u : AV} {lo m n : Nat} (hs : cutA s a lo m = some u) (hlen : lenOf a = some n) (hlm : lo + m ≤ n) {v : Value} (hv : a.val ι N w v) :
  ∃ A c, v = .slice A n c ∧ n ≤ c ∧ u.val ι N w (.slice (if c = lo then A else A.map (·.add (lo * s))) m (c - lo)) := by
 unfold cutA at hs
 split at hs
 ·rename_i b e nn
  cases hq : Nat.beq e s with
  | false => rw [hq] at hs; cases hs
  | true =>
   rw [hq] at hs
   have := beqN hq; subst this
   injection hs with hs; subst hs
   injection hlen with hlen; subst hlen
   obtain ⟨L, hL, hn, hcase⟩ := hv
   rcases hcase with ⟨hph, h0, ev⟩ | ⟨hph, c, ev, hc, ht⟩
   ·obtain ⟨A0, ev⟩ := ev
    injection ev with ev; subst ev
    subst h0
    have hm : m = 0 := by omega
    subst hm
    exact ⟨A0, 0, rfl, Nat.le_refl _, L, hL, by omega, .inl ⟨hph, by omega, _, by rw [Nat.zero_sub]⟩⟩
   ·injection ev with ev; subst ev
    refine ⟨_, c, rfl, hc, L, hL, by omega, .inr ⟨hph, ?_⟩⟩
    by_cases hcl : c = lo
    ·rw [if_pos hcl]
     exact ⟨_, _, rfl, by omega, rfl, rfl, fun h => by omega⟩
    ·rw [if_neg hcl]
     obtain ⟨p1, p2⟩ := add_parts ⟨L.blk, L.off, none⟩ (lo * e)
     obtain ⟨p2, p3⟩ := p2 rfl
     refine ⟨_, _, rfl, by omega, p1, p2, fun h => ⟨p3, ?_⟩⟩
     rw [p3]
     have : lo * e + (c - lo) * e = c * e := by rw [← Nat.add_mul]; congr 1; omega
     show L.off + lo * e + (c - lo) * e ≤ L.tot
     omega
 ·rename_i b e i nn
  cases hq : Nat.beq e s with
  | false => rw [hq] at hs; cases hs
  | true =>
   rw [hq] at hs
   have := beqN hq; subst this
   injection hs with hs; subst hs
   injection hlen with hlen; subst hlen
   obtain ⟨L, hL, hn, hcase⟩ := hv
   rcases hcase with ⟨hph, h0, ev⟩ | ⟨hph, A, c, ev, hc, hb, hsp, ht⟩
   ·obtain ⟨A0, ev⟩ := ev
    injection ev with ev; subst ev
    subst h0
    have hm : m = 0 := by omega
    subst hm
    exact ⟨A0, 0, rfl, Nat.le_refl _, L, hL, by omega, .inl ⟨hph, by omega, _, by rw [Nat.zero_sub]⟩⟩
   ·injection ev with ev; subst ev
    refine ⟨_, c, rfl, hc, L, hL, by omega, .inr ⟨hph, ?_⟩⟩
    by_cases hcl : c = lo
    ·rw [if_pos hcl]
     exact ⟨_, _, rfl, by omega, hb, hsp, fun h => by omega⟩
    ·rw [if_neg hcl]
     obtain ⟨p1, p2⟩ := add_parts A (lo * e)
     obtain ⟨p2, p3⟩ := p2 hsp
     refine ⟨_, _, rfl, by omega, by rw [p1]; exact hb, p2, fun h => ?_⟩
     obtain ⟨t1, t2⟩ := ht (by omega)
     rw [p3, t1]
     have : lo * e + (c - lo) * e = c * e := by rw [← Nat.add_mul]; congr 1; omega
     rw [Nat.add_mul]
     exact ⟨by omega, by omega⟩
 ·rename_i b i e off z nn
  cases hq : Nat.beq z s with
  | false => rw [hq] at hs; cases hs
  | true =>
   rw [hq] at hs
   have := beqN hq; subst this
   injection hs with hs; subst hs
   injection hlen with hlen; subst hlen
   obtain ⟨L, A, c, hL, hi, hfit, ev, hc, hb, hsp, ht⟩ := hv
   injection ev with ev; subst ev
   have hfit2 : off + lo * z + m * z ≤ e := by
    have : lo * z + m * z ≤ nn * z := by rw [← Nat.add_mul]; exact Nat.mul_le_mul_right _ hlm
    omega
   refine ⟨_, c, rfl, hc, ?_⟩
   by_cases hcl : c = lo
   ·rw [if_pos hcl]
    exact ⟨L, _, _, hL, hi, hfit2, rfl, by omega, hb, hsp, fun h => by omega⟩
   ·rw [if_neg hcl]
    obtain ⟨p1, p2⟩ := add_parts A (lo * z)
    obtain ⟨p2, p3⟩ := p2 hsp
    refine ⟨L, _, _, hL, hi, hfit2, rfl, by omega, by rw [p1]; exact hb, p2, fun h => ?_⟩
    rw [p3, ht (by omega)]
    omega
 ·rename_i k l
  cases hq : Nat.beq s 1 with
  | false => rw [hq] at hs; cases hs
  | true =>
   rw [hq] at hs
   have := beqN hq; subst this
   injection hs with hs; subst hs
   injection hlen with hlen; subst hlen
   obtain ⟨⟨A, c, ev, hc, hcell⟩, hok⟩ := hv
   injection ev with ev; subst ev
   refine ⟨A, c, rfl, hc, ?_, fun x hx => hok x (List.mem_of_mem_drop (List.mem_of_mem_take hx))⟩
   have h2 := SliceOf.cut (cs := []) (s := 1) ⟨A, c, rfl, hc, hcell⟩ (by simp) hlm
   rw [show (((l.drop lo).take m).length = m) by simp; omega]
   simpa [List.map_take, List.map_drop] using h2
 ·rename_i z t xs
  cases hq : Nat.beq z s with
  | false => rw [hq] at hs; cases hs
  | true =>
   rw [hq] at hs
   have := beqN hq; subst this
   injection hs with hs; subst hs
   injection hlen with hlen; subst hlen
   obtain ⟨ys, hl, ⟨A, c, ev, hc, hcell⟩⟩ := hv
   injection ev with ev; subst ev
   refine ⟨A, c, rfl, hc, (ys.drop (lo * z)).take (m * z), relList_take m (relList_drop lo hl), ?_⟩
   have h2 := SliceOf.cut (cs := []) (s := z) ⟨A, c, rfl, hc, hcell⟩ (relList_len hl) hlm
   rw [show (((xs.drop lo).take m).length = m) by simp; omega]
   exact h2
 ·cases hs
theorem bytesOf_extract (s : ByteArray) (a b : Nat) : bytesOf (s.extract a b) = ((bytesOf s).drop a).take (b - a) := by
 unfold bytesOf
 simp [List.map_take, List.map_drop, List.extract_eq_take_drop]
theorem sound_slice {h : Heap} {t : TypeId} {x : Operand} {lo hi : Option Operand} (ho : o.op = .slice t x lo hi none) {a : AV} (hx : ρ x = some a) {k : OpR → Prop} (hk : aSlice C t a (bndO ρ lo) (bndO ρ hi) k) :
  ∃ r, OpSound C nx o ρ r ∧ r.Ok ∧ (∀ q ∈ r.rds, getK h q.1 = some q.2) ∧ k r := by
 have mx : x ∈ o.op.operands := by rw [ho]; simp [Op.operands]
 have ml : ∀ y, lo = some y → y ∈ o.op.operands := by rintro y rfl; rw [ho]; simp [Op.operands]
 have mh : ∀ y, hi = some y → y ∈ o.op.operands := by rintro y rfl; rw [ho]; simp [Op.operands]
 unfold aSlice at hk
 split at hk
 ·rename_i zl zh hlo hhi
  split at hk
  ·rename_i hu
   split at hk
   ·rename_i l
    replace hk := cond_prop hk
    obtain ⟨hb, hk⟩ := hk
    refine read_out hk fun ι N w act henv hop => ?_
    obtain ⟨s, e, rfl⟩ := val_str (hop x _ mx hx)
    have hl := bndO_val (ι := ι) (N := N) (w := w) (a := act) hlo fun y v e hv => hop y v (ml y e) hv
    have hh := bndO_val (ι := ι) (N := N) (w := w) (a := act) hhi fun y v e hv => hop y v (mh y e) hv
    rw [size_bytes] at hb
    have hrun := run_bounds (P := C.P) (isS := false) hb (Nat.le_refl _) hl hh w
    refine ⟨.string (s.extract (loB zl) (hiB s.size zh)), ?_, _, rfl, ?_⟩
    ·unfold execOp
     simp [ho, e, Instr.sliceAt, Instr.slice, run_underlying hu, hrun]
    ·rw [bytesOf_extract, size_bytes]; rfl
   ·exact hk.elim
  ·rename_i el hu
   split at hk
   ·rename_i n hn
    replace hk := cond_prop hk
    obtain ⟨hb, hk⟩ := hk
    split at hk
    ·rename_i i hi'
     split at hk
     ·rename_i u hcut
      refine read_out hk fun ι N w act henv hop => ?_
      have hl := bndO_val (ι := ι) (N := N) (w := w) (a := act) hlo fun y v e hv => hop y v (ml y e) hv
      have hh := bndO_val (ι := ι) (N := N) (w := w) (a := act) hhi fun y v e hv => hop y v (mh y e) hv
      obtain ⟨h1, h2, h3, h4⟩ := bndB_ok hb
      obtain ⟨A, c, e, hc, hval⟩ := cutA_val (ι := ι) (N := N) (w := w) hcut hn (by unfold natSub; omega) (hop x _ mx hx)
      have hrun := run_bounds (P := C.P) (isS := true) hb hc hl hh w
      refine ⟨_, ?_, hval⟩
      unfold execOp
      simp [ho, e, Instr.sliceAt, Instr.slice, run_underlying hu, hrun, sizeOf, typeInfo, hi', natSub]
     ·exact hk.elim
    ·exact hk.elim
   ·exact hk.elim
  ·rename_i n el hu
   replace hk := cond_prop hk
   obtain ⟨hb, hk⟩ := hk
   obtain ⟨h1, h2, h3, h4⟩ := bndB_ok hb
   split at hk
   ·rename_i i hi'
    split at hk
    ·rename_i b j esz off
     replace hk := cond_prop hk
     obtain ⟨hfit, hk⟩ := hk
     have hfit := bleN hfit
     refine read_out hk fun ι N w act henv hop => ?_
     have hl := bndO_val (ι := ι) (N := N) (w := w) (a := act) hlo fun y v e hv => hop y v (ml y e) hv
     have hh := bndO_val (ι := ι) (N := N) (w := w) (a := act) hhi fun y v e hv => hop y v (mh y e) hv
     have hrun := run_bounds (P := C.P) (isS := false) hb (Nat.le_refl _) hl hh w
     obtain ⟨L, hL, hj, hoff, e⟩ := hop x _ mx hx
     injection e with e _
     refine ⟨.slice (some (if n = loB zl then ⟨L.blk, L.off + (j * esz + off), none⟩ else (⟨L.blk, L.off + (j * esz + off), none⟩ : Addr).add (loB zl * i.size))) (hiB n zh - loB zl) (n - loB zl), ?_, L, _, _, hL, hj, ?_, rfl, ?_, ?_, ?_, ?_⟩
     ·unfold execOp
      simp [ho, e, Instr.sliceAt, Instr.sureAddr, run_underlying hu, hrun, sizeOf, typeInfo, hi']
     ·unfold natSub
      have : loB zl * i.size + (hiB n zh - loB zl) * i.size ≤ n * i.size := by rw [← Nat.add_mul]; exact Nat.mul_le_mul_right _ (by omega)
      omega
     ·unfold natSub; omega
     ·split
      ·rfl
      ·exact (add_parts _ _).1
     ·split
      ·rfl
      ·exact ((add_parts _ _).2 rfl).1
     ·intro h0
      rw [if_neg (by omega), ((add_parts _ _).2 rfl).2]
      show L.off + (j * esz + off) + _ = _
      omega
    ·rename_i v j off
     split at hk
     ·rename_i kd m l hel
      replace hk := cond_prop hk
      obtain ⟨hc, hk⟩ := hk
      simp only [Bool.and_eq_true] at hc
      have e0 := beqN hc.1.1
      have em := beqN hc.1.2
      have es := beqN hc.2
      subst e0; subst em
      refine read_out hk fun ι N w act henv hop => ?_
      have hl := bndO_val (ι := ι) (N := N) (w := w) (a := act) hlo fun y v e hv => hop y v (ml y e) hv
      have hh := bndO_val (ι := ι) (N := N) (w := w) (a := act) hhi fun y v e hv => hop y v (mh y e) hv
      have hrun := run_bounds (P := C.P) (isS := false) hb (Nat.le_refl _) hl hh w
      obtain ⟨ad, n', c, hv, hj, hoff, e⟩ := hop x _ mx hx
      injection e with e _
      obtain ⟨ad', cells, hA, hcl, hr, hcell⟩ := elemC_rel hv hj hel
      injection hA with hA; subst hA
      obtain ⟨hcells, hlen, hok⟩ := hr
      have hblk : N ad.block := by
       cases v with
       | ints k l =>
        obtain ⟨⟨A, c, e1, _, h⟩, _⟩ := hv
        injection e1 with e1 _
        injection e1 with e1 e2 e3
        subst e2
        obtain ⟨ad2, e4, hb, _⟩ := h (by omega)
        rw [e4] at e1; injection e1 with e1; subst e1
        exact hb
       | rows sz t xs =>
        obtain ⟨ys, _, A, c, e1, _, h⟩ := hv
        injection e1 with e1 _
        injection e1 with e1 e2 e3
        subst e2
        obtain ⟨ad2, e4, hb, _⟩ := h (by omega)
        rw [e4] at e1; injection e1 with e1; subst e1
        exact hb
       | _ => cases hel
      refine ⟨.slice (some (if m = loB zl then ad.add (j * v.esz) else (ad.add (j * v.esz)).add (loB zl * i.size))) (hiB m zh - loB zl) (m - loB zl), ?_, ?_, fun y hy => hok y (List.mem_of_mem_drop (List.mem_of_mem_take hy))⟩
      ·unfold execOp
       simp [ho, e, Instr.sliceAt, Instr.sureAddr, run_underlying hu, hrun, sizeOf, typeInfo, hi']
      ·refine ⟨some (if m = loB zl then ad.add (j * v.esz) else (ad.add (j * v.esz)).add (loB zl * i.size)), m - loB zl, ?_, ?_, fun h0 => ?_⟩
       ·congr 2
        unfold natSub
        simp
        omega
       ·unfold natSub
        simp
        omega
       ·have h0 : 0 < ((l.drop (loB zl)).take (natSub (hiB m zh) (loB zl))).length := h0
        have h0' : 0 < hiB m zh - loB zl := by
         rw [List.length_take, List.length_drop] at h0
         unfold natSub at h0
         omega
        rw [if_neg (by omega), es, Nat.mul_one]
        refine ⟨_, rfl, by rw [(add_parts _ _).1, (add_parts _ _).1]; exact hblk, fun q u hq => ?_⟩
        rw [add_of_add, add_of_add]
        rw [List.map_take, List.map_drop, List.getElem?_take] at hq
        split at hq
        ·rw [List.getElem?_drop, ← hcells] at hq
         have := hcell _ u hq
         rw [show j * v.esz + (loB zl + q) = j * v.esz + loB zl + q by omega] at this
         first
         | exact this
         | (rw [Nat.add_assoc] at this; simpa [Nat.add_assoc] using this)
        ·cases hq
     ·exact hk.elim
    ·exact hk.elim
   ·exact hk.elim
  ·exact hk.elim
 ·exact hk.elim
end
end Go.Ab
/- Operations: slices that are made. -/
namespace Go.Ab
open Go Go.Chr Go.RowKit
def sameB (z : CV) (n : Nat) : Body := match z with
 | .int k v => .ints k (List.replicate n v)
 | z => match tagOf z with
  | some t => match ofCV t z with
   | some x => .rows t (List.replicate n x)
   | none => .els (List.replicate n (.c z))
  | none => .els (List.replicate n (.c z))
def aMake (C : Ctx) (nx : Nat) (t : TypeId) (len cap : AV) (k : OpR → Prop) : Prop := match C.P.underlying t, len, cap with
 | some (.slice e), .c (.int _ l), .c (.int _ c) => match C.P.info? e, zeroOf C e with
  | some i, some z => deepC z fun z => cond ((Nat.ble 1 i.size && Nat.beq i.size z.size) && ((decide (0 ≤ l) && decide (l ≤ c)) && (decide ((i.bytes : Int) * c ≤ 281474976710656) && decide (c ≤ 9223372036854775807))))
    (k ⟨.own nx i.size l.toNat, [], [.cells e i.size (sameB z l.toNat)], []⟩) False
  | _, _ => False
 | _, _, _ => False
def allInts (k : IntKind) : List AV → Option (List Int)
 | [] => some []
 | .c (.int k' z) :: l => bif decide (k = k') then (match allInts k l with
  | some zs => some (z :: zs)
  | none => none) else none
 | _ => none
def bodyOf (size : Nat) (l : List AV) : Body := match l with
 | .c (.int k z) :: r => match allInts k (.c (.int k z) :: r) with
  | some zs => bif Nat.beq size 1 then .ints k zs else .els l
  | none => .els l
 | l => .els l
def fillL (ρ : Operand → Option AV) (size : Nat) : List (Nat × Operand) → List AV → Option (List AV)
 | [], l => some l
 | (j, x) :: ps, l => match ρ x with
  | some u => bif (Nat.beq u.size size && u.flat) && Nat.blt j l.length then fillL ρ size ps (l.set j (normA u)) else none
  | none => none
def aBuildS (C : Ctx) (nx : Nat) (t : TypeId) (len : Nat) (parts : List (Nat × Operand)) (ρ : Operand → Option AV) (k : OpR → Prop) : Prop := match C.P.underlying t with
 | some (.slice e) => match C.P.info? e, zeroOf C e with
  | some i, some z => deepC z fun z => cond ((Nat.ble 1 i.size && Nat.beq i.size z.size) && Nat.ble (len * i.size) 16777216)
    (match fillL ρ i.size parts (List.replicate len (.c z)) with
    | some l => k ⟨.own nx i.size len, [], [.cells e i.size (bodyOf i.size l)], []⟩
    | none => False) False
  | _, _ => False
 | _ => False
section
variable {C : Ctx} {ι : Nat → Option Loc} {N : Nat → Prop} {w : World} {nx : Nat} {r : OpR} {o : Oper} {ρ : Operand → Option AV}
theorem Post.renew {ty : TypeId} {esz : Nat} {body : Body} (hn : r.news = [.cells ty esz body]) (hgone : ∀ b blk, (b, some blk) ∉ r.upd) (hp : Pre C ι N w nx r) {w1 : World}
  (hupd : Upd (fun k => ∃ p ∈ r.upd, ∃ L, ι p.1 = some L ∧ L.ph = false ∧ k = L.blk) w w1) (hkeep : ∀ k, N k → w1.heap[k]? = w.heap[k]?) {L : Loc} (hph : L.ph = false) {pre xs post : List Value}
  (hl : w1.heap[L.blk]? = some (.cells (pre ++ (xs ++ post)).toArray ty (0, 0))) (hpre : pre.length = L.off) (htot : pre.length + (xs.length + post.length) = L.tot) (hb : body.rel ι N w esz xs) (hlen : body.len = L.len) (hnN : ¬ N L.blk)
  (hw : w.heap.size ≤ L.blk ∨ ∃ b L0, (b, none) ∈ r.upd ∧ ι b = some L0 ∧ L0.ph = false ∧ L.blk = L0.blk) : Post ι N w (addι ι nx L) N w1 nx r := by
 have hfree : ι nx = none := by simpa using hp.fresh 0 (by rw [hn]; simp)
 refine ⟨addι_old hfree, ?_, fun _ h => h, fun _ h => .inl h, fun k hk => Nat.lt_of_lt_of_le (hp.env.1 k hk) hupd.size, hupd, fun b blk h => absurd h (hgone b blk), ?_, ?_⟩
 ·intro b L' h
  unfold addι at h
  split at h
  ·rename_i e; subst e; exact .inr ⟨Nat.le_refl _, by rw [hn]; simp⟩
  ·exact .inl h
 ·intro j blk h
  rw [hn] at h
  cases j with
  | zero =>
   simp at h; subst h
   exact ⟨L, by simp [addι], .inr ⟨hph, pre, xs, post, ⟨hl, hpre, hb.mono (addι_old hfree) (fun _ h => h) hkeep, hlen⟩, htot⟩, fun _ => ⟨hnN, hw⟩⟩
  | succ j => simp at h
 ·intro i j Li Lj hi hj hne
  rw [hn] at hi hj
  simp at hi hj; omega
theorem relList_rep.{u} {α : Type u} {sz : Nat} {p : α → List Value → Prop} {a : α} {c : List Value} (hs : c.length = sz) (ha : p a c) : ∀ n, relList sz p (List.replicate n a) (List.replicate n c).flatten
 | 0 => by simp [relList]
 | n + 1 => by
  rw [List.replicate_succ, List.replicate_succ, List.flatten_cons]
  exact ⟨c, _, rfl, hs, ha, relList_rep hs ha n⟩
theorem made_flat (z : Array Value) (n : Nat) : (madeCells z (n * z.size)).toList = (List.replicate n z.toList).flatten := by
 unfold madeCells
 rw [Array.toList_map, Array.toList_range]
 induction n with
 | zero => simp
 | succ n ih =>
  rw [Nat.add_mul, Nat.one_mul, List.range_add, List.map_append, ih, List.replicate_succ', List.flatten_append]
  congr 1
  simp only [List.map_map, List.flatten_cons, List.flatten_nil, List.append_nil]
  apply List.ext_getElem
  ·simp
  ·intro i h1 h2
   simp only [List.length_map, List.length_range] at h1
   simp only [List.getElem_map, List.getElem_range, Function.comp]
   have : (n * z.size + i) % z.size = i := by rw [Nat.mul_comm, Nat.mul_add_mod, Nat.mod_eq_of_lt h1]
   rw [this]
   simp [h1]
theorem sameB_rel {z : CV} {n sz : Nat} {c : List Value} (hz : z.rel N w c) (hs : c.length = sz) (hsz : z.size = sz) : (sameB z n).rel ι N w sz (List.replicate n c).flatten ∧ (sameB z n).len = n := by
 unfold sameB
 split
 ·rename_i k v
  obtain ⟨rfl, hv⟩ := hz
  refine ⟨⟨by rw [← hs]; rfl, ?_, fun x hx => by rw [List.eq_of_mem_replicate hx]; exact hv⟩, by simp [Body.len]⟩
  rw [List.map_replicate]
  clear hs
  induction n with
  | zero => rfl
  | succ n ih => rw [List.replicate_succ, List.replicate_succ, List.flatten_cons, ih]; rfl
 ·split
  ·rename_i t ht
   split
   ·rename_i x hx
    exact ⟨relList_rep hs (ofCV_rel hx hz) n, by simp [Body.len]⟩
   ·exact ⟨relList_rep (p := fun a : AV => a.rel ι N w) (a := .c z) hs hz n, by simp [Body.len]⟩
  ·exact ⟨relList_rep (p := fun a : AV => a.rel ι N w) (a := .c z) hs hz n, by simp [Body.len]⟩
theorem ok_fresh {v : AV} {news : List Blk'} : (OpR.mk v [] news []).Ok := OpR.ok_read rfl
theorem sound_make {h : Heap} {t : TypeId} {x y : Operand} (ho : o.op = .makeSlice t x y) {len cap : AV} (hx : ρ x = some len) (hy : ρ y = some cap) {k : OpR → Prop} (hk : aMake C nx t len cap k) :
  ∃ r, OpSound C nx o ρ r ∧ r.Ok ∧ (∀ q ∈ r.rds, getK h q.1 = some q.2) ∧ k r := by
 have mx : x ∈ o.op.operands := by rw [ho]; simp [Op.operands]
 have my : y ∈ o.op.operands := by rw [ho]; simp [Op.operands]
 unfold aMake at hk
 split at hk
 ·rename_i e kl l kc c hu
  split at hk
  ·rename_i i z hi hz
   rw [deepC_eq] at hk
   replace hk := cond_prop hk
   obtain ⟨hc, hk⟩ := hk
   simp only [Bool.and_eq_true, decide_eq_true_eq] at hc
   obtain ⟨⟨h1, h2⟩, ⟨h3, h4⟩, h5, h6⟩ := hc
   have h1 := bleN h1
   have h2 := beqN h2
   refine ⟨_, ?_, ok_fresh, fun q hq => by simp at hq, hk⟩
   intro ι N w a hp hop
   obtain ⟨e1, _⟩ := val_int (hop x _ mx hx)
   obtain ⟨e2, _⟩ := val_int (hop y _ my hy)
   obtain ⟨i', zv, hi', hzv, hr⟩ := zeroOf_rel (N := N) (w := w) hz
   rw [hi] at hi'; injection hi' with hi'; subst hi'
   have hzl := hr.len
   have hzs : zv.cells.size = i.size := by rw [← Array.length_toList]; omega
   have hrun := run_make (P := C.P) w t e i zv hu hi hzv kl kc l c h3 h4 h5 h6
   have hcl : c.toNat = l.toNat + (c.toNat - l.toNat) := by omega
   have hcells : madeCells zv.cells (c.toNat * i.size) = ((List.replicate l.toNat zv.cells.toList).flatten ++ (List.replicate (c.toNat - l.toNat) zv.cells.toList).flatten).toArray := by
    apply Array.ext'
    rw [← hzs, made_flat, List.toList_toArray, ← List.flatten_append, List.replicate_append_replicate, ← hcl]
   rw [hcells] at hrun
   obtain ⟨hb, hbl⟩ := sameB_rel (ι := ι) (n := l.toNat) (sz := i.size) hr (by omega) (by omega)
   have flen : ∀ n, ((List.replicate n zv.cells.toList).flatten).length = n * i.size := by
    intro n
    induction n with
    | zero => simp
    | succ n ih => rw [List.replicate_succ, List.flatten_cons, List.length_append, ih, Nat.add_mul]; omega
   refine Outs.value (v := .slice (some ⟨w.heap.size, 0, none⟩) l.toNat c.toNat) (by unfold execOp; simp only [ho, e1, e2, Sem.run_bind, hrun, Result.andThen_ok, Sem.run_pure]; rfl) ?_
   refine ⟨_, N, Post.renew (w1 := w.alloc (.cells ((List.replicate l.toNat zv.cells.toList).flatten ++ (List.replicate (c.toNat - l.toNat) zv.cells.toList).flatten).toArray e)) (L := ⟨w.heap.size, 0, c.toNat * i.size, l.toNat, false⟩) (pre := []) rfl (by simp) hp ⟨rfl, rfl, rfl, by simp, fun k hk _ => Below.heap_alloc w _ k hk⟩ (fun k hk => Below.heap_alloc w _ k (hp.env.1 k hk)) rfl (heap_alloc_new w _) rfl ?_ hb hbl (fun hN => Nat.lt_irrefl _ (hp.env.1 _ hN)) (.inl (Nat.le_refl _)), ?_⟩
   ·rw [flen, flen]
    simp only [List.length_nil, Nat.zero_add]
    rw [← Nat.add_mul, ← hcl]
   ·exact ⟨⟨w.heap.size, 0, c.toNat * i.size, l.toNat, false⟩, by simp [addι], rfl, .inr ⟨rfl, c.toNat, rfl, by omega, by simp⟩⟩
  ·exact hk.elim
 ·exact hk.elim
theorem allInts_rel {k : IntKind} : ∀ {l : List AV} {zs : List Int} {cs : List Value}, allInts k l = some zs → relList 1 (fun a => a.rel ι N w) l cs → cs = zs.map (Value.int k) ∧ (∀ x ∈ zs, okI k x) ∧ zs.length = l.length
 | [], zs, cs, h, hr => by
  injection h with h; subst h
  have hr : cs = [] := hr
  exact ⟨by rw [hr]; rfl, fun x hx => by simp at hx, rfl⟩
 | a :: l, zs, cs, h, ⟨c1, c2, e, hs, h1, h2⟩ => by
  unfold allInts at h
  split at h
  ·rename_i heq; cases heq
  ·rename_i k' z r heq
   injection heq with e1 e2; subst e1; subst e2
   cases hd : decide (k = k') with
   | false => rw [hd] at h; cases h
   | true =>
    rw [hd] at h
    have := of_decide_eq_true hd; subst this
    simp only [cond_true] at h
    split at h
    ·rename_i zs' hzs
     injection h with h; subst h
     obtain ⟨g1, g2, g3⟩ := allInts_rel hzs h2
     obtain ⟨ec, hz⟩ := h1
     refine ⟨by rw [e, ec, g1]; rfl, fun x hx => ?_, by simp [g3]⟩
     rcases List.mem_cons.1 hx with rfl | hx
     ·exact hz
     ·exact g2 x hx
    ·cases h
  ·cases h
theorem bodyOf_rel {size : Nat} {l : List AV} {cs : List Value} (hr : relList size (fun a => a.rel ι N w) l cs) : (bodyOf size l).rel ι N w size cs ∧ (bodyOf size l).len = l.length := by
 unfold bodyOf
 split
 ·rename_i k z r
  split
  ·rename_i zs hzs
   cases e : Nat.beq size 1 with
   | false => exact ⟨hr, rfl⟩
   | true =>
    have := beqN e; subst this
    obtain ⟨g1, g2, g3⟩ := allInts_rel hzs hr
    exact ⟨⟨rfl, g1, g2⟩, g3⟩
  ·exact ⟨hr, rfl⟩
 ·exact ⟨hr, rfl⟩
theorem fillL_rel {size : Nat} {a : Act} (h1 : 1 ≤ size) : ∀ {ps : List (Nat × Operand)} {l l' : List AV} {cells : List Value}, fillL ρ size ps l = some l' → relList size (fun a => a.rel ι N w) l cells →
  (∀ p ∈ ps, ∀ v, ρ p.2 = some v → v.val ι N w (a.eval p.2)) → ∃ cells', Instr.fill (fun i => some (i * size, size)) cells.toArray (ps.map fun p => (p.1, a.eval p.2)) = some cells'.toArray ∧ relList size (fun a => a.rel ι N w) l' cells' ∧ l'.length = l.length
 | [], l, l', cells, h, hr, _ => by
  injection h with h; subst h
  exact ⟨cells, rfl, hr, rfl⟩
 | (j, x) :: ps, l, l', cells, h, hr, hm => by
  unfold fillL at h
  split at h
  ·rename_i u hu
   cases hc : (Nat.beq u.size size && u.flat) && Nat.blt j l.length with
   | false => rw [hc] at h; cases h
   | true =>
    rw [hc] at h
    simp only [cond_true] at h
    simp only [Bool.and_eq_true] at hc
    obtain ⟨⟨g1, g2⟩, g3⟩ := hc
    have g1 := beqN g1
    have g3 : j < l.length := Nat.le_of_ble_eq_true g3
    obtain ⟨us, hcells, hur⟩ := cells_val (hm (j, x) (by simp) u hu) g2
    have lu := hur.len
    obtain ⟨c1, c2, c3, e, l1, l2, _, hset⟩ := relList_at hr (List.getElem?_eq_getElem g3)
    obtain ⟨cells', hf, hr', hl'⟩ := fillL_rel h1 h (hset (normA u) us (by omega) (normA_rel hur)) (fun p hp => hm p (List.mem_cons_of_mem _ hp))
    refine ⟨cells', ?_, hr', by simpa using hl'⟩
    simp only [List.map_cons]
    unfold Instr.fill
    simp only [hcells, List.size_toArray]
    rw [if_neg (by
     rw [e]
     simp only [List.length_append]
     simp only [Bool.or_eq_true, decide_eq_true_eq]
     omega)]
    have hfs := foldl_set us cells (j * size) 0 (by rw [e]; simp only [List.length_append]; omega)
    simp only [Nat.add_zero] at hfs
    rw [← hf]
    have he : cells.take (j * size) ++ (us ++ cells.drop (j * size + us.length)) = c1 ++ (us ++ c3) := by
     rw [e, ← l1]
     rw [List.take_left' rfl, ← List.drop_drop, List.drop_left' rfl, List.drop_left' (by omega)]
    rw [← he, ← hfs]
    congr 1
    simp
  ·cases h
theorem sound_buildS {h : Heap} {t : TypeId} {len : Nat} {parts : Array (Nat × Operand)} (ho : o.op = .buildSlice t len parts) {k : OpR → Prop} (hk : aBuildS C nx t len parts.toList ρ k) :
  ∃ r, OpSound C nx o ρ r ∧ r.Ok ∧ (∀ q ∈ r.rds, getK h q.1 = some q.2) ∧ k r := by
 unfold aBuildS at hk
 split at hk
 ·rename_i e hu
  split at hk
  ·rename_i i z hi hz
   rw [deepC_eq] at hk
   replace hk := cond_prop hk
   obtain ⟨hc, hk⟩ := hk
   simp only [Bool.and_eq_true] at hc
   obtain ⟨⟨h1, h2⟩, h3⟩ := hc
   have h1 := bleN h1
   have h2 := beqN h2
   have h3 := bleN h3
   split at hk
   ·rename_i l hl
    refine ⟨_, ?_, ok_fresh, fun q hq => by simp at hq, hk⟩
    intro ι N w a hp hop
    obtain ⟨i', zv, hi', hzv, hr⟩ := zeroOf_rel (N := N) (w := w) hz
    rw [hi] at hi'; injection hi' with hi'; subst hi'
    have hzl := hr.len
    have hzs : zv.cells.size = i.size := by rw [← Array.length_toList]; omega
    have hcells : madeCells zv.cells (len * i.size) = ((List.replicate len zv.cells.toList).flatten).toArray := by
     apply Array.ext'
     rw [← hzs, made_flat, List.toList_toArray]
    obtain ⟨cells', hf, hrel, hlen⟩ := fillL_rel (ι := ι) (N := N) (w := w) (a := a) h1 hl (relList_rep (p := fun a : AV => a.rel ι N w) (a := .c z) (by omega) hr len) (fun q hq u hu => hop q.2 u (by
     rw [ho]; simp only [Op.operands, List.mem_toArray, List.mem_map]
     simpa using ⟨q.1, by simpa using hq⟩) hu)
    have hlen : l.length = len := by rw [hlen]; simp
    obtain ⟨hb, hbl⟩ := bodyOf_rel hrel
    have hcl := relList_len hrel
    rw [← hcells] at hf
    have hrun : (Instr.buildSlice t len (parts.map fun (i, x) => (i, a.eval x))).run C.P w = .ok (.slice (some ⟨w.heap.size, 0, none⟩) len len) (w.alloc (.cells cells'.toArray e)) := by
     by_cases h0 : len * i.size = 0
     ·have hl0 : len = 0 := by
       rcases Nat.mul_eq_zero.1 h0 with h | h
       ·exact h
       ·omega
      have hc0 : cells' = [] := List.eq_nil_of_length_eq_zero (by rw [hcl, hlen, hl0, Nat.zero_mul])
      have hf0 : Instr.fill (fun i' => some (i' * i.size, i.size)) #[] (parts.toList.map fun p => (p.1, a.eval p.2)) = some #[] := by
       have hm : madeCells zv.cells (len * i.size) = #[] := by rw [h0]; simp [madeCells, Array.range_zero']
       rw [hm, hc0] at hf
       exact hf
      subst hc0
      simp [Instr.buildSlice, run_underlying hu, sizeOf, typeInfo, hi, h0, hf0, newRow, Array.range_zero']
     ·refine run_buildSlice w t e len _ _ i zv hu hi hzv (by simp; omega) h0 ?_
      show Instr.fill _ (madeCells zv.cells (len * i.size)) _ = _
      rw [← hf]; simp
    refine Outs.value (v := .slice (some ⟨w.heap.size, 0, none⟩) len len) (by unfold execOp; simp only [ho, Sem.run_bind, hrun, Result.andThen_ok, Sem.run_pure]; rfl) ?_
    refine ⟨_, N, Post.renew (w1 := w.alloc (.cells cells'.toArray e)) (L := ⟨w.heap.size, 0, len * i.size, len, false⟩) (pre := []) (post := []) rfl (by simp) hp ⟨rfl, rfl, rfl, by simp, fun k hk _ => Below.heap_alloc w _ k hk⟩ (fun k hk => Below.heap_alloc w _ k (hp.env.1 k hk)) rfl (by rw [List.append_nil]; exact heap_alloc_new w _) rfl ?_ hb (by rw [hbl, hlen]) (fun hN => Nat.lt_irrefl _ (hp.env.1 _ hN)) (.inl (Nat.le_refl _)), ?_⟩
    ·simp only [List.length_nil, Nat.zero_add, Nat.add_zero]
     rw [hcl, hlen]
    ·exact ⟨⟨w.heap.size, 0, len * i.size, len, false⟩, by simp [addι], rfl, .inr ⟨rfl, len, rfl, Nat.le_refl _, by simp⟩⟩
   ·exact hk.elim
  ·exact hk.elim
 ·exact hk.elim
end
end Go.Ab
/- Operations: append. -/
namespace Go.Ab
open Go Go.Chr Go.RowKit
def cutB (i n : Nat) : Body → Body
 | .ints k l => .ints k ((l.drop i).take n)
 | .rows t xs => .rows t ((xs.drop i).take n)
 | .els l => .els ((l.drop i).take n)
def flatL : List AV → Bool
 | [] => true
 | a :: l => a.flat && flatL l
def flatB : Body → Bool
 | .els l => flatL l
 | _ => true
def srcB0 (h : Heap) (size : Nat) : AV → Option (Body × List (Nat × Blk'))
 | .own b e _ => match getK h b with
  | some (.cells ty e' body) => bif Nat.beq e e' && Nat.beq e size then some (body, [(b, .cells ty e' body)]) else none
  | _ => none
 | .sub b e i n => match getK h b with
  | some (.cells ty e' body) => bif Nat.beq e e' && Nat.beq e size then some (cutB i n body, [(b, .cells ty e' body)]) else none
  | _ => none
 | .inn (.l b) i esz off z n => match getK h b with
  | some (.cells ty e' body) => bif (Nat.beq esz e' && Nat.beq z size) && Nat.beq z 1 then (match (elemV body i).bind (subT · off n) with
   | some (.c (.arr k _ l)) => some (.ints k l, [(b, .cells ty e' body)])
   | _ => none) else none
  | _ => none
 | .c (.ints k l) => bif Nat.beq size 1 then some (.ints k l, []) else none
 | .c (.rows sz t xs) => bif Nat.beq sz size then some (.rows t xs, []) else none
 | .c (.str l) => bif Nat.beq size 1 then some (.ints .u8 l, []) else none
 | .c (.raw (.slice none 0 0)) => some (.els [], [])
 | _ => none
def srcB (h : Heap) (size : Nat) (x : AV) : Option (Body × List (Nat × Blk')) := match srcB0 h size x with
 | some (b, r) => bif flatB b then some (b, r) else none
 | none => none
def dstB (h : Heap) (el : TypeId) (size : Nat) : AV → Option (Option Nat × Body × List (Nat × Blk'))
 | .own b e _ => match getK h b with
  | some (.cells ty e' body) => bif (Nat.beq e e' && Nat.beq e size) && Nat.beq ty el then some (some b, body, [(b, .cells ty e' body)]) else none
  | _ => none
 | .c (.raw (.slice none 0 0)) => some (none, .els [], [])
 | _ => none
def joinB : Body → Body → Option Body
 | .els [], b => some b
 | b, .els [] => some b
 | .ints k l, .ints k' l' => bif decide (k = k') then some (.ints k (l ++ l')) else none
 | .els l, .els l' => some (.els (l ++ l'))
 | .rows t xs, .rows t' ys => match decEq t' t with
  | isTrue h => some (.rows t (xs ++ h ▸ ys))
  | isFalse _ => none
 | .rows t xs, .els l' => match closedL l' with
  | some cs => match ofCVs t cs with
   | some ys => some (.rows t (xs ++ ys))
   | none => none
  | none => none
 | .ints k l, .els l' => match allInts k l' with
  | some zs => some (.ints k (l ++ zs))
  | none => none
 | _, _ => none
def goneL : Option Nat → List (Nat × Option Blk')
 | some b => [(b, none)]
 | none => []
def strOrSlice : Option TypeDesc → Bool
 | some (.slice _) => true
 | some .string => true
 | _ => false
def isStr (C : Ctx) (tx : TypeId) (x : AV) : Bool := match C.P.underlying tx, x with
 | some .string, .c (.str _) => false
 | some .string, _ => true
 | _, .c (.str _) => true
 | _, _ => false
def isZ : Option TypeDesc → AV → Option Int
 | some (.int _), .c (.int _ n) => some n
 | _, _ => none
theorem isZ_some {d : Option TypeDesc} {x : AV} {n : Int} (h : isZ d x = some n) : ∃ kn kq, d = some (.int kn) ∧ x = .c (.int kq n) := by
 unfold isZ at h
 split at h
 ·injection h with h; subst h; exact ⟨_, _, rfl, rfl⟩
 ·cases h
def srcX (C : Ctx) (h : Heap) (size : Nat) (z : CV) (tx : TypeId) (x : AV) : Option (Body × List (Nat × Blk')) := match isZ (C.P.underlying tx) x with
 | some n => bif decide (1 ≤ n) then some (sameB z n.toNat, []) else none
 | none => bif strOrSlice (C.P.underlying tx) && !isStr C tx x then srcB h size x else none
def aAppend (C : Ctx) (h : Heap) (nx : Nat) (t tx : TypeId) (s x : AV) (k : OpR → Prop) : Prop := match C.P.underlying t with
 | some (.slice e) => match C.P.info? e, zeroOf C e with
  | some i, some z => match dstB h e i.size s, srcX C h i.size z tx x with
   | some (ob, b1, r1), some (b2, r2) => match joinB b1 b2 with
    | some b => cond ((Nat.ble 1 i.size && Nat.beq i.size z.size) && (Nat.ble ((b1.len + b2.len) * i.bytes) 140737488355328 && Nat.ble (b1.len + b2.len) 4611686018427387904))
     (k ⟨.own nx i.size b.len, goneL ob, [.cells e i.size b], r1 ++ r2⟩) False
    | none => False
   | _, _ => False
  | _, _ => False
 | _ => False
section
variable {C : Ctx} {ι : Nat → Option Loc} {N : Nat → Prop} {w : World} {nx : Nat} {r : OpR} {o : Oper} {ρ : Operand → Option AV}
theorem run_append_row {P : Program} (t tx ty e : TypeId) (i : TypeInfo) (ht : P.underlying t = some (.slice e)) (hi : P.info? e = some i) (b off sLen sCap : Nat) (x : Value) (n : Nat) (news : List Value) (hs : Src P i.size tx x n news w)
  (hroom : sLen + n ≤ sCap) {cur : Array Value} {tt : TypeId} (hh : w.heap[b]? = some (.cells cur tt (0, 0))) (hfit : off + sLen * i.size + news.length ≤ cur.size) :
  (Builtin.append_ #[t, tx] ty #[.slice (some ⟨b, off, none⟩) sLen sCap, x]).run P w = .ok (.slice (some ⟨b, off, none⟩) (sLen + n) sCap) (w.setRow b (cur.toList.take (off + sLen * i.size) ++ news ++ cur.toList.drop (off + sLen * i.size + news.length)).toArray) := by
 have hst := run_storeCells_at P b (off + sLen * i.size) tt news 0 cur w hh (by simpa using hfit) hs.one
 simp only [Nat.add_zero] at hst
 rcases hs.kind with ⟨e', hk⟩ | hk <;> simp [Builtin.append_, run_underlying ht, run_underlying hk, sizeOf, typeInfo, hi, hs.len, hroom, hs.cells, Addr.add_lit, hst]
theorem run_append_nil {P : Program} (t tx ty e : TypeId) (i : TypeInfo) (ht : P.underlying t = some (.slice e)) (hi : P.info? e = some i) (x : Value) (hs : Src P i.size tx x 0 [] w) :
  ∀ A, (Builtin.append_ #[t, tx] ty #[.slice A 0 0, x]).run P w = .ok (.slice A 0 0) w := by
 intro A
 cases A <;> (rcases hs.kind with ⟨e', hk⟩ | hk <;> simp [Builtin.append_, run_underlying ht, run_underlying hk, sizeOf, typeInfo, hi, hs.len, hs.cells, storeCells])
theorem cutB_rel {esz i n : Nat} : ∀ {b : Body} {cs : List Value}, b.rel ι N w esz cs → (cutB i n b).rel ι N w esz ((cs.drop (i * esz)).take (n * esz))
 | .ints k l, cs, ⟨h1, h2, h3⟩ => by
  subst h1; subst h2
  exact ⟨rfl, by simp [List.map_take, List.map_drop], fun x hx => h3 x (List.mem_of_mem_drop (List.mem_of_mem_take hx))⟩
 | .rows _ _, _, h => relList_take n (relList_drop i h)
 | .els _, _, h => relList_take n (relList_drop i h)
theorem cutB_len {i n : Nat} : ∀ {b : Body}, i + n ≤ b.len → (cutB i n b).len = n
 | .ints k l, h => by have h : i + n ≤ l.length := h; simp [cutB, Body.len]; omega
 | .rows t xs, h => by have h : i + n ≤ xs.length := h; simp [cutB, Body.len]; omega
 | .els l, h => by have h : i + n ≤ l.length := h; simp [cutB, Body.len]; omega
theorem relList_append.{u} {α : Type u} {sz : Nat} {p : α → List Value → Prop} : ∀ {l l' : List α} {cs cs' : List Value}, relList sz p l cs → relList sz p l' cs' → relList sz p (l ++ l') (cs ++ cs')
 | [], _, _, _, h, h' => by have h : _ = [] := h; subst h; exact h'
 | _ :: _, _, _, _, ⟨c1, c2, e, hs, h1, h2⟩, h' => ⟨c1, c2 ++ _, by rw [e, List.append_assoc], hs, h1, relList_append h2 h'⟩
theorem joinB_rel {esz : Nat} {b1 b2 b : Body} {c1 c2 : List Value} (h : joinB b1 b2 = some b) (h1 : b1.rel ι N w esz c1) (h2 : b2.rel ι N w esz c2) : b.rel ι N w esz (c1 ++ c2) ∧ b.len = b1.len + b2.len := by
 unfold joinB at h
 split at h
 ·injection h with h; subst h
  have h1 : c1 = [] := h1
  subst h1
  exact ⟨h2, by simp [Body.len]⟩
 ·injection h with h; subst h
  have h2 : c2 = [] := h2
  subst h2
  rw [List.append_nil]
  exact ⟨h1, by simp [Body.len]⟩
 ·rename_i k l k' l'
  cases e : decide (k = k') with
  | false => rw [e] at h; cases h
  | true =>
   rw [e] at h; injection h with h; subst h
   have := of_decide_eq_true e; subst this
   obtain ⟨g1, g2, g3⟩ := h1
   obtain ⟨k1, k2, k3⟩ := h2
   refine ⟨⟨g1, by rw [g2, k2, List.map_append], fun x hx => ?_⟩, by simp [Body.len]⟩
   rcases List.mem_append.1 hx with hx | hx
   ·exact g3 x hx
   ·exact k3 x hx
 ·injection h with h; subst h
  exact ⟨relList_append h1 h2, by simp [Body.len]⟩
 ·rename_i t xs t' ys
  split at h
  ·rename_i e _
   subst e
   injection h with h; subst h
   exact ⟨relList_append h1 h2, by simp [Body.len]⟩
  ·cases h
 ·rename_i t xs l'
  split at h
  ·rename_i cs hcs
   split at h
   ·rename_i ys hys
    injection h with h; subst h
    obtain ⟨g1, g2⟩ := closedL_rel hcs h2
    obtain ⟨g3, g4⟩ := ofCVs_rel hys g1
    exact ⟨relList_append h1 g3, by simp [Body.len, g4, g2]⟩
   ·cases h
  ·cases h
 ·rename_i k l l'
  split at h
  ·rename_i zs hzs
   injection h with h; subst h
   obtain ⟨g1, g2, g3⟩ := h1
   subst g1
   obtain ⟨k1, k2, k3⟩ := allInts_rel hzs h2
   refine ⟨⟨rfl, by rw [g2, k1, List.map_append], fun x hx => ?_⟩, by simp [Body.len, k3]⟩
   rcases List.mem_append.1 hx with hx | hx
   ·exact g3 x hx
   ·exact k2 x hx
  ·cases h
 ·cases h
theorem relList_ones.{u} {α : Type u} {sz : Nat} {p : α → List Value → Prop} : ∀ {l : List α} {cs : List Value}, (∀ a ∈ l, ∀ c, p a c → ∀ u ∈ c, u.oneCell' = true) → relList sz p l cs → ∀ u ∈ cs, u.oneCell' = true
 | [], _, _, h => by have h : _ = [] := h; subst h; intro u hu; cases hu
 | a :: l, _, hp, ⟨c1, c2, e, _, h1, h2⟩ => by
  subst e
  intro u hu
  rcases List.mem_append.1 hu with hu | hu
  ·exact hp a (by simp) c1 h1 u hu
  ·exact relList_ones (fun b hb => hp b (List.mem_cons_of_mem _ hb)) h2 u hu
theorem flatL_mem : ∀ {l : List AV}, flatL l = true → ∀ a ∈ l, a.flat = true
 | [], _, a, ha => by cases ha
 | x :: l, h, a, ha => by
  unfold flatL at h
  simp only [Bool.and_eq_true] at h
  rcases List.mem_cons.1 ha with rfl | ha
  ·exact h.1
  ·exact flatL_mem h.2 a ha
theorem flatB_ones {esz : Nat} : ∀ {b : Body} {cs : List Value}, flatB b = true → b.rel ι N w esz cs → ∀ u ∈ cs, u.oneCell' = true
 | .ints k l, cs, _, ⟨_, e, _⟩ => by rw [e]; exact fun u hu => oneCell_ints hu
 | .rows t xs, cs, _, h => relList_ones (fun a _ c hc => CV.rel.one ((toCV_rel t a c).2 hc)) h
 | .els l, cs, hf, h => relList_ones (fun a ha c hc => AV.rel.one (flatL_mem hf a ha) hc) h
theorem src_of {M : Nat → Prop} {size n : Nat} {tx e' : TypeId} (hk : C.P.underlying tx = some (.slice e')) {news : List Value} {v : Value} (hs : SliceOf M w n news [v]) (hl : news.length = n * size) (h1 : ∀ u ∈ news, u.oneCell' = true) : Src C.P size tx v n news w := by
 obtain ⟨A, c, e, _, h⟩ := hs
 injection e with e _
 subst e
 rcases Nat.eq_zero_or_pos n with h0 | h0
 ·subst h0
  have hn : news = [] := List.eq_nil_of_length_eq_zero (by omega)
  subst hn
  cases A with
  | none => exact Src.ofNil w hk c
  | some ad => exact Src.ofSlice w hk ad 0 c [] hl (fun j u hj => by simp at hj) h1
 ·obtain ⟨ad, rfl, _, hcell⟩ := h h0
  exact Src.ofSlice w hk ad n c news hl hcell h1
theorem srcB_ok {h : Heap} {size : Nat} {tx : TypeId} {x : AV} {b2 : Body} {r2 : List (Nat × Blk')} {v : Value} (h1 : 1 ≤ size) (hs : srcB h size x = some (b2, r2)) (hk : strOrSlice (C.P.underlying tx) = true) (hstr : isStr C tx x = false)
  (hv : x.val ι N w v) (hr : ∀ q ∈ r2, ∃ L, ι q.1 = some L ∧ BlkRel ι N w L q.2) : (∀ q ∈ r2, getK h q.1 = some q.2) ∧ ∃ news, Src C.P size tx v b2.len news w ∧ b2.rel ι N w size news := by
 have hsl : (∀ l, x ≠ .c (.str l)) → ∃ e', C.P.underlying tx = some (.slice e') := by
  intro hne
  cases hu : C.P.underlying tx with
  | none => rw [hu] at hk; cases hk
  | some d =>
   cases d <;> first
    | exact ⟨_, rfl⟩
    | (rw [hu] at hk; cases hk; done)
    | skip
   exfalso
   unfold isStr at hstr
   rw [hu] at hstr
   cases x with
   | c v => cases v with
    | str l => exact hne l rfl
    | _ => cases hstr
   | _ => cases hstr
 unfold srcB at hs
 split at hs
 ·rename_i bb rr hs0
  cases hfl : flatB bb with
  | false => rw [hfl] at hs; cases hs
  | true =>
   rw [hfl] at hs
   injection hs with hs; injection hs with e1 e2; subst e1; subst e2
   unfold srcB0 at hs0
   split at hs0
   ·rename_i b e n
    obtain ⟨e', hk'⟩ := hsl (fun l h => by cases h)
    split at hs0
    ·rename_i ty e2 body hb
     cases hc : Nat.beq e e2 && Nat.beq e size with
     | false => rw [hc] at hs0; cases hs0
     | true =>
      rw [hc] at hs0; injection hs0 with hs; injection hs with hs1 hs2; subst hs1; subst hs2
      simp only [Bool.and_eq_true] at hc
      have := beqN hc.1; subst this
      have := beqN hc.2; subst this
      obtain ⟨L, hL, hrel⟩ := hr (b, .cells ty e body) (by simp)
      obtain ⟨L', hL', hn, hcase⟩ := hv
      rw [hL] at hL'; injection hL' with hL'; subst hL'
      refine ⟨fun q hq => by simp at hq; rw [hq]; exact hb, ?_⟩
      rcases hcase with ⟨hph, h0, A0, ev⟩ | ⟨hph, c, ev, hc, _⟩
      ·injection ev with ev; subst ev
       rcases hrel with ⟨_, hrel, hl, _⟩ | ⟨hph', _⟩
       ·rw [hl]; exact ⟨[], src_of (M := fun _ => True) hk' ⟨A0, 0, rfl, Nat.le_refl _, fun h => absurd h (by omega)⟩ (by simp) (by simp), hrel⟩
       ·rw [hph] at hph'; cases hph'
      ·injection ev with ev; subst ev
       rcases hrel with ⟨hph', _⟩ | ⟨_, pre, xs, post, hlie, _⟩
       ·rw [hph] at hph'; cases hph'
       ·have g3 := hlie.2.2.1
        have g4 := hlie.2.2.2
        have hxl := g3.len
        have hs2 := slice_lies (M := fun _ => True) hlie trivial (A := some ⟨L.blk, L.off, none⟩) (i := 0) (n := L.len) (c := c) (by omega) (fun _ => by simp) (by omega)
        rw [Nat.zero_mul, List.drop_zero, List.take_of_length_le (by rw [hxl, g4]; exact Nat.le_refl _)] at hs2
        rw [← hn, ← g4]
        rw [← g4] at hs2
        exact ⟨xs, src_of hk' hs2 hxl (flatB_ones hfl g3), g3⟩
    ·cases hs0
   ·rename_i b e i n
    obtain ⟨e', hk'⟩ := hsl (fun l h => by cases h)
    split at hs0
    ·rename_i ty e2 body hb
     cases hc : Nat.beq e e2 && Nat.beq e size with
     | false => rw [hc] at hs0; cases hs0
     | true =>
      rw [hc] at hs0; injection hs0 with hs; injection hs with hs1 hs2; subst hs1; subst hs2
      simp only [Bool.and_eq_true] at hc
      have := beqN hc.1; subst this
      have := beqN hc.2; subst this
      obtain ⟨L, hL, hrel⟩ := hr (b, .cells ty e body) (by simp)
      obtain ⟨L', hL', hn, hcase⟩ := hv
      rw [hL] at hL'; injection hL' with hL'; subst hL'
      refine ⟨fun q hq => by simp at hq; rw [hq]; exact hb, ?_⟩
      rcases hcase with ⟨hph, h0, A0, ev⟩ | ⟨hph, A, c, ev, hc, hAb, hAs, hAo⟩
      ·injection ev with ev; subst ev
       rcases hrel with ⟨_, hrel, hl, _⟩ | ⟨hph', _⟩
       ·subst h0
        rw [cutB_len (by omega)]
        have := cutB_rel (i := i) (n := 0) hrel
        simp only [List.drop_nil, List.take_nil] at this
        exact ⟨[], src_of (M := fun _ => True) hk' ⟨A0, 0, rfl, Nat.le_refl _, fun h => absurd h (by omega)⟩ (by simp) (by simp), this⟩
       ·rw [hph] at hph'; cases hph'
      ·injection ev with ev; subst ev
       rcases hrel with ⟨hph', _⟩ | ⟨_, pre, xs, post, hlie, _⟩
       ·rw [hph] at hph'; cases hph'
       ·have g3 := hlie.2.2.1
        have g4 := hlie.2.2.2
        have hs2 := slice_lies (M := fun _ => True) hlie trivial (A := some A) (i := i) (n := n) (c := c) hc (fun h0 => by rw [eta_addr hAb hAs (hAo (by omega)).1]) hn
        have g5 := cutB_rel (i := i) (n := n) g3
        have g6 := g5.len
        rw [cutB_len (by omega)] at g6 ⊢
        exact ⟨_, src_of hk' hs2 g6 (flatB_ones hfl g5), g5⟩
    ·cases hs0
   ·rename_i b i esz off z n
    obtain ⟨e', hk'⟩ := hsl (fun l h => by cases h)
    split at hs0
    ·rename_i ty e2 body hb
     cases hc : (Nat.beq esz e2 && Nat.beq z size) && Nat.beq z 1 with
     | false => rw [hc] at hs0; cases hs0
     | true =>
      rw [hc] at hs0
      simp only [cond_true] at hs0
      simp only [Bool.and_eq_true] at hc
      have := beqN hc.1.1; subst this
      have := beqN hc.1.2; subst this
      have hz := beqN hc.2; subst hz
      split at hs0
      ·rename_i k m l hel
       injection hs0 with hs; injection hs with hs1 hs2; subst hs1; subst hs2
       obtain ⟨L, hL, hrel⟩ := hr (b, .cells ty esz body) (by simp)
       refine ⟨fun q hq => by simp at hq; rw [hq]; exact hb, ?_⟩
       have hclo : clo h (.inn (.l b) i esz off 1 n) = some (.ints k l, [(b, .cells ty esz body)]) := by
        unfold clo cloI
        rw [hb]
        simp [hel]
       obtain ⟨g1, _, _⟩ := clo_rel (M := fun _ => True) (ι := ι) (N := N) (w := w) (fun _ _ => trivial) hclo hv (fun q hq => by
        simp at hq; subst hq; exact ⟨L, hL, hrel, fun _ => trivial⟩)
       obtain ⟨g1, g2⟩ := g1
       exact ⟨l.map (Value.int k), src_of hk' g1 (by simp [Body.len]) (fun u hu => oneCell_ints hu), rfl, rfl, g2⟩
      ·cases hs0
    ·cases hs0
   ·rename_i k l
    obtain ⟨e', hk'⟩ := hsl (fun l h => by cases h)
    cases hc : Nat.beq size 1 with
    | false => rw [hc] at hs0; cases hs0
    | true =>
     rw [hc] at hs0; injection hs0 with hs; injection hs with hs1 hs2; subst hs1; subst hs2
     have := beqN hc; subst this
     obtain ⟨g1, g2⟩ := hv
     exact ⟨fun q hq => by simp at hq, l.map (Value.int k), src_of hk' g1 (by simp [Body.len]) (fun u hu => oneCell_ints hu), rfl, rfl, g2⟩
   ·rename_i sz t xs
    obtain ⟨e', hk'⟩ := hsl (fun l h => by cases h)
    cases hc : Nat.beq sz size with
    | false => rw [hc] at hs0; cases hs0
    | true =>
     rw [hc] at hs0; injection hs0 with hs; injection hs with hs1 hs2; subst hs1; subst hs2
     have := beqN hc; subst this
     obtain ⟨ys, g1, g2⟩ := hv
     exact ⟨fun q hq => by simp at hq, ys, src_of hk' g2 (relList_len g1) (flatB_ones (ι := ι) (b := .rows t xs) rfl g1), g1⟩
   ·rename_i l
    cases hc : Nat.beq size 1 with
    | false => rw [hc] at hs0; cases hs0
    | true =>
     rw [hc] at hs0; injection hs0 with hs; injection hs with hs1 hs2; subst hs1; subst hs2
     have := beqN hc; subst this
     obtain ⟨s, e, rfl⟩ := val_str hv
     subst e
     have hu : C.P.underlying tx = some .string := by
      cases hu : C.P.underlying tx with
      | none => rw [hu] at hk; cases hk
      | some d =>
       cases d <;> first
        | rfl
        | (rw [hu] at hk; cases hk; done)
        | (unfold isStr at hstr; rw [hu] at hstr; cases hstr)
     have hb : byteCells s = (bytesOf s).map (Value.int .u8) := by
      unfold byteCells bytesOf
      rw [List.map_map]; rfl
     refine ⟨fun q hq => by simp at hq, byteCells s, ?_, rfl, hb, fun x hx => ?_⟩
     ·show Src C.P 1 tx (.string s) (bytesOf s).length _ w
      rw [size_bytes]; exact Src.ofString w hu s
     ·unfold bytesOf at hx
      obtain ⟨y, _, rfl⟩ := List.mem_map.1 hx
      intro _
      have := y.toNat_lt
      exact ⟨by show (0 : Int) ≤ _; omega, by show ((y.toNat : Nat) : Int) ≤ 255; omega⟩
   ·obtain ⟨e', hk'⟩ := hsl (fun l h => by cases h)
    injection hs0 with hs; injection hs with hs1 hs2; subst hs1; subst hs2
    obtain ⟨e, _⟩ : [v] = [Value.slice none 0 0] ∧ _ := hv
    injection e with e; subst e
    exact ⟨fun q hq => by simp at hq, [], Src.ofNil w hk' 0, rfl⟩
   ·cases hs0
 ·cases hs
structure SrcR (P : Program) (t tx ty e : TypeId) (i : TypeInfo) (z x : Value) (n : Nat) (news : List Value) (w : World) : Prop where
 nil : n = 0 → news = [] → ∀ A, (Builtin.append_ #[t, tx] ty #[.slice A 0 0, x]).run P w = .ok (.slice A 0 0) w
 row : ∀ (b off sLen sCap : Nat), sLen + n ≤ sCap → ∀ {cur : Array Value} {tt : TypeId}, w.heap[b]? = some (.cells cur tt (0, 0)) → off + sLen * i.size + news.length ≤ cur.size →
  (Builtin.append_ #[t, tx] ty #[.slice (some ⟨b, off, none⟩) sLen sCap, x]).run P w = .ok (.slice (some ⟨b, off, none⟩) (sLen + n) sCap) (w.setRow b (cur.toList.take (off + sLen * i.size) ++ news ++ cur.toList.drop (off + sLen * i.size + news.length)).toArray)
 grow : ∀ (base : Option Addr) (sLen sCap : Nat) (olds : List Value), (Builtin.firstCells i.size sLen (.slice base sLen sCap)).run P w.drew = .ok olds.toArray w.drew → sCap < sLen + n → ((sLen + n : Nat) : Int) ≤ 9223372036854775807 → (sLen + n) * i.bytes ≤ 140737488355328 →
  Builtin.nextslicecap (sLen + n) sCap * i.bytes ≤ 281474976710656 → (Builtin.append_ #[t, tx] ty #[.slice base sLen sCap, x]).run P w =
   .ok (.slice (some ⟨w.heap.size, 0, none⟩) (sLen + n) (grownCap w (sLen + n) sCap e)) (w.drew.alloc (.cells ((olds ++ news).toArray ++ Builtin.zeroCells z.cells (grownCap w (sLen + n) sCap e - (sLen + n))) e))
theorem SrcR.ofSrc {P : Program} {t tx ty e : TypeId} {i : TypeInfo} {z x : Value} {n : Nat} {news : List Value} (ht : P.underlying t = some (.slice e)) (hi : P.info? e = some i) (hz : i.zero = some z) (hs : Src P i.size tx x n news w) : SrcR P t tx ty e i z x n news w where
 nil := fun h0 hn A => by subst h0; subst hn; exact run_append_nil t tx ty e i ht hi x hs A
 row := fun b off sLen sCap hroom _ _ hh hfit => run_append_row t tx ty e i ht hi b off sLen sCap x n news hs hroom hh hfit
 grow := fun base sLen sCap olds hold hg h63 _ hfit => run_append_grow_src w t tx ty e i z ht hi hz base sLen sCap olds hold x n news hs hg h63 hfit
theorem SrcR.ofZeros {P : Program} {t tx ty e : TypeId} {i : TypeInfo} {z : Value} {kq kn : IntKind} {k : Nat} (ht : P.underlying t = some (.slice e)) (htn : P.underlying tx = some (.int kn)) (hi : P.info? e = some i) (hz : i.zero = some z) (h0 : 0 < k) (hs : 0 < i.size) (hzs : z.cells.size = i.size)
  (hone : ∀ u ∈ (Builtin.zeroCells z.cells k).toList, u.oneCell' = true) (hk63 : k ≤ 4611686018427387904) (hk48 : k * i.bytes ≤ 140737488355328) : SrcR P t tx ty e i z (.int kq k) k (Builtin.zeroCells z.cells k).toList w where
 nil := fun h => by omega
 row := fun b off sLen sCap hroom cur tt hh hfit => by
  have hst := run_storeCells_at P b (off + sLen * i.size) tt (Builtin.zeroCells z.cells k).toList 0 cur w hh (by simpa using hfit) hone
  simp only [Nat.add_zero] at hst
  have hw : IntKind.i64.wrap (k : Int) = k := by rw [IntKind.wrap_i64]; omega
  have hneg : ¬ ((k : Int) < 0) := by omega
  have hns : ¬ (k * i.size = 0) := Nat.mul_ne_zero (by omega) (by omega)
  have h48i : ¬ (281474976710656 < (k : Int) * (i.bytes : Int)) := by
   rw [← Int.natCast_mul]
   omega
  simp [Builtin.append_, run_underlying ht, run_underlying htn, sizeOf, typeInfo, zeroValue, hi, hz, asInt, asIntOf, hw, hneg, hns, h48i, hroom, Addr.add_lit, hst]
 grow := fun base sLen sCap olds hold hg h63 h47 hfit => by
  have := Lib.run_append_grow_zeros w t tx ty e i z kq kn ht htn hi hz base sLen sCap olds hold k h0 hs hg h63 (by omega) hfit
  rw [this]
  congr 2
  congr 1
  congr 1
  apply Array.ext'
  simp
theorem zero_flat (z : Array Value) (n : Nat) : (Builtin.zeroCells z n).toList = (List.replicate n z.toList).flatten := by
 rw [← made_flat]; rfl
theorem srcX_ok {h : Heap} {i : TypeInfo} {t tx ty e : TypeId} {x : AV} {b2 : Body} {r2 : List (Nat × Blk')} {v zv : Value} {z : CV} (ht : C.P.underlying t = some (.slice e)) (hi : C.P.info? e = some i) (hzv : i.zero = some zv) (hzr : z.rel N w zv.cells.toList) (hzs : zv.cells.size = i.size)
  (h1 : 1 ≤ i.size) (hs : srcX C h i.size z tx x = some (b2, r2)) (hv : x.val ι N w v) (hr : ∀ q ∈ r2, ∃ L, ι q.1 = some L ∧ BlkRel ι N w L q.2) (h5 : b2.len * i.bytes ≤ 140737488355328) (h6 : b2.len ≤ 4611686018427387904) :
  (∀ q ∈ r2, getK h q.1 = some q.2) ∧ ∃ news, SrcR C.P t tx ty e i zv v b2.len news w ∧ b2.rel ι N w i.size news := by
 unfold srcX at hs
 split at hs
 ·rename_i n hz
  obtain ⟨kn, kq, htn, rfl⟩ := isZ_some hz
  cases hn : decide (1 ≤ n) with
  | false => rw [hn] at hs; cases hs
  | true =>
   rw [hn] at hs; injection hs with hs; injection hs with e1 e2; subst e1; subst e2
   have hn := of_decide_eq_true hn
   have hcl : zv.cells.toList.length = i.size := by rw [Array.length_toList]; exact hzs
   obtain ⟨g1, g2⟩ := sameB_rel (ι := ι) (n := n.toNat) (sz := i.size) hzr hcl (by rw [← hzr.len]; exact hcl)
   rw [g2] at h5 h6
   obtain ⟨ev, _⟩ : [v] = [Value.int kq n] ∧ _ := hv
   injection ev with ev _
   refine ⟨fun q hq => by simp at hq, (Builtin.zeroCells zv.cells n.toNat).toList, ?_, by rw [zero_flat]; exact g1⟩
   rw [g2, ev, show Value.int kq n = Value.int kq ((n.toNat : Nat) : Int) by rw [Int.toNat_of_nonneg (by omega)]]
   refine SrcR.ofZeros ht htn hi hzv (by omega) h1 hzs ?_ h6 h5
   rw [zero_flat]
   intro u hu
   obtain ⟨l, hl, hul⟩ := List.mem_flatten.1 hu
   rw [List.eq_of_mem_replicate hl] at hul
   exact hzr.one u hul
 ·cases hc : strOrSlice (C.P.underlying tx) && !isStr C tx x with
  | false => rw [hc] at hs; cases hs
  | true =>
   rw [hc] at hs
   simp only [Bool.and_eq_true, Bool.not_eq_true'] at hc
   obtain ⟨g1, news, g2, g3⟩ := srcB_ok (C := C) h1 hs hc.1 hc.2 hv hr
   exact ⟨g1, news, SrcR.ofSrc ht hi hzv g2, g3⟩
theorem run_bi {a : Act} {c : Call} {b : Builtin} {w' : World} (ho : o.op = .call { c with callee := .builtin b }) {v : Value} (hr : (builtin b c.argTypes o.type (c.args.map fun | .const _ => true | _ => false) (c.args.map a.eval)).run C.P w = .ok (.value v) w') :
  (execOp a.eval o).run C.P w = .ok (.value v) w' := by
 unfold execOp
 simp only [ho, resolve, invoke, Sem.run_bind, Sem.run_pure, Result.andThen_ok]
 exact hr
theorem srcB_gets {h : Heap} {size : Nat} {x : AV} {b2 : Body} {r2 : List (Nat × Blk')} (hs : srcB h size x = some (b2, r2)) : ∀ q ∈ r2, getK h q.1 = some q.2 := by
 unfold srcB at hs
 split at hs
 ·rename_i bb rr hs0
  cases hfl : flatB bb with
  | false => rw [hfl] at hs; cases hs
  | true =>
   rw [hfl] at hs
   injection hs with hs; injection hs with e1 e2; subst e1; subst e2
   unfold srcB0 at hs0
   split at hs0
   ·rename_i b e n
    split at hs0
    ·rename_i ty e2 body hb
     cases hc : Nat.beq e e2 && Nat.beq e size with
     | false => rw [hc] at hs0; cases hs0
     | true =>
      rw [hc] at hs0; injection hs0 with hs; injection hs with hs1 hs2; subst hs1; subst hs2
      intro q hq; simp at hq; rw [hq]; exact hb
    ·cases hs0
   ·rename_i b e i n
    split at hs0
    ·rename_i ty e2 body hb
     cases hc : Nat.beq e e2 && Nat.beq e size with
     | false => rw [hc] at hs0; cases hs0
     | true =>
      rw [hc] at hs0; injection hs0 with hs; injection hs with hs1 hs2; subst hs1; subst hs2
      intro q hq; simp at hq; rw [hq]; exact hb
    ·cases hs0
   ·rename_i b i esz off z n
    split at hs0
    ·rename_i ty e2 body hb
     cases hc : (Nat.beq esz e2 && Nat.beq z size) && Nat.beq z 1 with
     | false => rw [hc] at hs0; cases hs0
     | true =>
      rw [hc] at hs0
      simp only [cond_true] at hs0
      split at hs0
      ·injection hs0 with hs; injection hs with hs1 hs2; subst hs1; subst hs2
       intro q hq; simp at hq; rw [hq]; exact hb
      ·cases hs0
    ·cases hs0
   ·rename_i k l
    cases hc : Nat.beq size 1 with
    | false => rw [hc] at hs0; cases hs0
    | true => rw [hc] at hs0; injection hs0 with hs; injection hs with hs1 hs2; subst hs2; intro q hq; cases hq
   ·rename_i sz t xs
    cases hc : Nat.beq sz size with
    | false => rw [hc] at hs0; cases hs0
    | true => rw [hc] at hs0; injection hs0 with hs; injection hs with hs1 hs2; subst hs2; intro q hq; cases hq
   ·rename_i l
    cases hc : Nat.beq size 1 with
    | false => rw [hc] at hs0; cases hs0
    | true => rw [hc] at hs0; injection hs0 with hs; injection hs with hs1 hs2; subst hs2; intro q hq; cases hq
   ·injection hs0 with hs; injection hs with hs1 hs2; subst hs2; intro q hq; cases hq
   ·cases hs0
 ·cases hs
theorem dstB_ok {h : Heap} {el : TypeId} {size : Nat} {s : AV} {ob : Option Nat} {b1 : Body} {r1 : List (Nat × Blk')} {v : Value} (hs : dstB h el size s = some (ob, b1, r1)) (hv : s.val ι N w v) (hr : ∀ q ∈ r1, ∃ L, ι q.1 = some L ∧ BlkRel ι N w L q.2) :
  ((∃ A, v = .slice A 0 0) ∧ b1.rel ι N w size [] ∧ b1.len = 0 ∧ ∀ p ∈ goneL ob, ∃ q ∈ r1, q.1 = p.1) ∨
  (∃ b L c pre xs post, ob = some b ∧ r1 = [(b, .cells el size b1)] ∧ ι b = some L ∧ L.ph = false ∧ v = .slice (some ⟨L.blk, L.off, none⟩) L.len c ∧ L.len ≤ c ∧ L.off + c * size ≤ L.tot ∧ Lies ι N w L el size b1 pre xs post ∧ pre.length + (xs.length + post.length) = L.tot) := by
 unfold dstB at hs
 split at hs
 ·rename_i b e n
  split at hs
  ·rename_i ty e2 body hb
   cases hc : (Nat.beq e e2 && Nat.beq e size) && Nat.beq ty el with
   | false => rw [hc] at hs; cases hs
   | true =>
    rw [hc] at hs; injection hs with hs; injection hs with hs1 hs2; injection hs2 with hs2 hs3; subst hs1; subst hs2; subst hs3
    simp only [Bool.and_eq_true] at hc
    have := beqN hc.1.1; subst this
    have := beqN hc.1.2; subst this
    have := beqN hc.2; subst this
    obtain ⟨L, hL, hrel⟩ := hr (b, .cells ty e body) (by simp)
    obtain ⟨L', hL', hn, hcase⟩ := hv
    rw [hL] at hL'; injection hL' with hL'; subst hL'
    rcases hcase with ⟨hph, h0, A0, ev⟩ | ⟨hph, c, ev, hc, ht⟩
    ·injection ev with ev; subst ev
     rcases hrel with ⟨_, hrel, hl, _⟩ | ⟨hph', _⟩
     ·exact .inl ⟨⟨A0, rfl⟩, hrel, hl, fun p hp => ⟨(b, .cells ty e body), by simp, by simp [goneL] at hp; rw [hp]⟩⟩
     ·rw [hph] at hph'; cases hph'
    ·injection ev with ev; subst ev
     rcases hrel with ⟨hph', _⟩ | ⟨_, pre, xs, post, hlie, htot⟩
     ·rw [hph] at hph'; cases hph'
     ·exact .inr ⟨b, L, c, pre, xs, post, rfl, rfl, hL, hph, by rw [hn], by omega, ht, hlie, htot⟩
  ·cases hs
 ·injection hs with hs; injection hs with hs1 hs2; injection hs2 with hs2 hs3; subst hs1; subst hs2; subst hs3
  obtain ⟨e, _⟩ : [v] = [Value.slice none 0 0] ∧ _ := hv
  injection e with e; subst e
  exact .inl ⟨⟨none, rfl⟩, rfl, rfl, fun p hp => (nomatch hp)⟩
 ·cases hs
theorem dstB_gets {h : Heap} {el : TypeId} {size : Nat} {s : AV} {ob : Option Nat} {b1 : Body} {r1 : List (Nat × Blk')} (hs : dstB h el size s = some (ob, b1, r1)) : (∀ q ∈ r1, getK h q.1 = some q.2) ∧ (∀ p ∈ goneL ob, ∃ q ∈ r1, q.1 = p.1) ∧ ((goneL ob).map (·.1)).Nodup ∧ ∀ b blk, (b, some blk) ∉ goneL ob := by
 unfold dstB at hs
 split at hs
 ·rename_i b e n
  split at hs
  ·rename_i ty e2 body hb
   cases hc : (Nat.beq e e2 && Nat.beq e size) && Nat.beq ty el with
   | false => rw [hc] at hs; cases hs
   | true =>
    rw [hc] at hs; injection hs with hs; injection hs with hs1 hs2; injection hs2 with hs2 hs3; subst hs1; subst hs2; subst hs3
    exact ⟨fun q hq => by simp at hq; rw [hq]; exact hb, fun p hp => ⟨(b, .cells ty e2 body), by simp, by simp [goneL] at hp; rw [hp]⟩, by simp [goneL], by simp [goneL]⟩
  ·cases hs
 ·injection hs with hs; injection hs with hs1 hs2; injection hs2 with hs2 hs3; subst hs1; subst hs2; subst hs3
  exact ⟨fun q hq => by simp at hq, fun p hp => (nomatch hp), by simp [goneL], by simp [goneL]⟩
 ·cases hs
theorem srcX_gets {h : Heap} {size : Nat} {z : CV} {tx : TypeId} {x : AV} {b2 : Body} {r2 : List (Nat × Blk')} (hs : srcX C h size z tx x = some (b2, r2)) : ∀ q ∈ r2, getK h q.1 = some q.2 := by
 unfold srcX at hs
 split at hs
 ·rename_i n _
  cases hn : decide (1 ≤ n) with
  | false => rw [hn] at hs; cases hs
  | true =>
   rw [hn] at hs; injection hs with hs; injection hs with e1 e2; subst e2
   intro q hq; simp at hq
 ·cases hc : strOrSlice (C.P.underlying tx) && !isStr C tx x with
  | false => rw [hc] at hs; cases hs
  | true => rw [hc] at hs; exact srcB_gets hs
theorem Post.renewPh {ty : TypeId} {esz : Nat} {body : Body} (hn : r.news = [.cells ty esz body]) (hgone : ∀ b blk, (b, some blk) ∉ r.upd) (hp : Pre C ι N w nx r) (hb : body.rel ι N w esz []) (hlen : body.len = 0) :
  Post ι N w (addι ι nx ⟨0, 0, 0, 0, true⟩) N w nx r := by
 have hfree : ι nx = none := by simpa using hp.fresh 0 (by rw [hn]; simp)
 refine ⟨addι_old hfree, ?_, fun _ h => h, fun _ h => .inl h, fun k hk => hp.env.1 k hk, Upd.refl _ _, fun b blk h => absurd h (hgone b blk), ?_, ?_⟩
 ·intro b L' h
  unfold addι at h
  split at h
  ·rename_i e; subst e; exact .inr ⟨Nat.le_refl _, by rw [hn]; simp⟩
  ·exact .inl h
 ·intro j blk h
  rw [hn] at h
  cases j with
  | zero =>
   simp at h; subst h
   exact ⟨⟨0, 0, 0, 0, true⟩, by simp [addι], .inl ⟨rfl, hb.mono (addι_old hfree) (fun _ h => h) (fun _ _ => rfl), hlen, rfl⟩, fun h => by cases h⟩
  | succ j => simp at h
 ·intro i j Li Lj hi hj hne
  rw [hn] at hi hj
  simp at hi hj; omega
theorem sound_append {h : Heap} {t tx : TypeId} {x y : Operand} (ho : o.op = .call { callee := .builtin .append, args := #[x, y], argTypes := #[t, tx] }) {s u : AV} (hx : ρ x = some s) (hy : ρ y = some u) {k : OpR → Prop} (hk : aAppend C h nx t tx s u k) :
  ∃ r, OpSound C nx o ρ r ∧ r.Ok ∧ (∀ q ∈ r.rds, getK h q.1 = some q.2) ∧ k r := by
 have mx : x ∈ o.op.operands := by rw [ho]; simp [Op.operands, Call.operands]
 have my : y ∈ o.op.operands := by rw [ho]; simp [Op.operands, Call.operands]
 unfold aAppend at hk
 split at hk
 ·rename_i e hu
  split at hk
  ·rename_i i z hi hz
   split at hk
   ·rename_i ob b1 r1 b2 r2 hd hs
    split at hk
    ·rename_i b hj
     replace hk := cond_prop hk
     obtain ⟨hc, hk⟩ := hk
     simp only [Bool.and_eq_true, Bool.not_eq_true'] at hc
     obtain ⟨⟨h1, h2⟩, h5, h6⟩ := hc
     have h1 := bleN h1
     have h2 := beqN h2
     have h5 := bleN h5
     have h6 := bleN h6
     obtain ⟨d1, d2, d3, d4⟩ := dstB_gets hd
     refine ⟨_, ?_, ⟨fun p hp => ?_, d3⟩, fun q hq => ?_, hk⟩
     ·intro ι N w a hp hop
      have hr1 : ∀ q ∈ r1, ∃ L, ι q.1 = some L ∧ BlkRel ι N w L q.2 := fun q hq => by
       obtain ⟨L, k1, k2, _⟩ := hp.rds q (List.mem_append.2 (.inl hq))
       exact ⟨L, k1, k2⟩
      have hr2 : ∀ q ∈ r2, ∃ L, ι q.1 = some L ∧ BlkRel ι N w L q.2 := fun q hq => by
       obtain ⟨L, k1, k2, _⟩ := hp.rds q (List.mem_append.2 (.inr hq))
       exact ⟨L, k1, k2⟩
      obtain ⟨i', zv, hi', hzv, hzr⟩ := zeroOf_rel (N := N) (w := w) hz
      rw [hi] at hi'; injection hi' with hi'; subst hi'
      have hzl := hzr.len
      have hzs : zv.cells.size = i.size := by rw [← Array.length_toList]; omega
      obtain ⟨_, news, hsrc, hrel2⟩ := srcX_ok (C := C) (t := t) (ty := o.type) hu hi hzv hzr hzs h1 hs (hop y _ my hy) hr2 (Nat.le_trans (Nat.mul_le_mul_right _ (Nat.le_add_left _ _)) h5) (Nat.le_trans (Nat.le_add_left _ _) h6)
      have n2 := hrel2.len
      have hrun : ∀ {v : Value} {w' : World}, (Builtin.append_ #[t, tx] o.type #[a.eval x, a.eval y]).run C.P w = .ok v w' → (execOp a.eval o).run C.P w = .ok (.value v) w' := by
       intro v w' hh
       refine run_bi (b := .append) (c := { callee := .builtin .append, args := #[x, y], argTypes := #[t, tx] }) ho ?_
       simp [builtin, hh]
      have grow : ∀ (base : Option Addr) (n c : Nat) (xs : List Value), a.eval x = .slice base n c → c < n + b2.len → n = b1.len → b1.rel ι N w i.size xs →
        (Builtin.firstCells i.size n (.slice base n c)).run C.P w.drew = .ok xs.toArray w.drew →
        Outs C.P o a.eval w fun v w' => ∃ ι' N', Post ι N w ι' N' w' nx ⟨.own nx i.size b.len, goneL ob, [.cells e i.size b], r1 ++ r2⟩ ∧ (AV.own nx i.size b.len).val ι' N' w' v := by
       intro base n c xs ev hg hn hrel1 hold
       obtain ⟨jr, jl⟩ := joinB_rel hj hrel1 hrel2
       have hcap := grownCap_ge w (n + b2.len) c e
       have hbytes := growslice_fits (need := n + b2.len) (old := c) (bytes := i.bytes) hg (by rw [hn]; omega)
       have hr := hsrc.grow base n c xs hold hg (by omega) (by rw [hn]; exact h5) hbytes
       rw [← ev] at hr
       have hw2 : ∀ (cs : Array Value), (w.drew.alloc (.cells cs e)).heap[w.heap.size]? = some (.cells cs e (0, 0)) := fun cs => heap_alloc_new w.drew (.cells cs e)
       have ho2 : ∀ (cs : Array Value) k, k < w.heap.size → (w.drew.alloc (.cells cs e)).heap[k]? = w.heap[k]? := fun cs k hk => Below.heap_alloc w.drew _ k hk
       refine Outs.value (hrun hr) ?_
       have hL := jr.len
       refine ⟨_, N, Post.renew (w1 := w.drew.alloc (.cells ((xs ++ news).toArray ++ Builtin.zeroCells zv.cells (grownCap w (n + b2.len) c e - (n + b2.len))) e)) (L := ⟨w.heap.size, 0, (xs ++ news).length + (Builtin.zeroCells zv.cells (grownCap w (n + b2.len) c e - (n + b2.len))).size, b.len, false⟩) (pre := []) (xs := xs ++ news) (post := (Builtin.zeroCells zv.cells (grownCap w (n + b2.len) c e - (n + b2.len))).toList)
        rfl d4 hp ⟨rfl, rfl, rfl, by simp, fun k hk _ => ho2 _ k hk⟩ (fun k hk => ho2 _ k (hp.env.1 k hk)) rfl ?_ rfl ?_ jr rfl (fun hN => Nat.lt_irrefl _ (hp.env.1 _ hN)) (.inl (Nat.le_refl _)), ?_⟩
       ·rw [hw2]
        congr 2
        apply Array.ext'
        simp
       ·simp
       ·refine ⟨⟨w.heap.size, 0, (xs ++ news).length + (Builtin.zeroCells zv.cells (grownCap w (n + b2.len) c e - (n + b2.len))).size, b.len, false⟩, by simp [addι], rfl, .inr ⟨rfl, grownCap w (n + b2.len) c e, ?_, by omega, ?_⟩⟩
        ·rw [jl, hn]
        ·rw [size_zeroCells, hzs, hL, jl, ← hn, Nat.zero_add, ← Nat.add_mul]
         exact Nat.mul_le_mul_right _ (by omega)
      rcases dstB_ok hd (hop x _ mx hx) hr1 with ⟨⟨A0, ev⟩, hb1, hl1, hg1⟩ | ⟨bb, L, c, pre, xs, post, rfl, rfl, hL, hph, ev, hcn, hct, hlie, htot⟩
      ·rcases Nat.eq_zero_or_pos b2.len with h0 | h0
       ·have hnews : news = [] := List.eq_nil_of_length_eq_zero (by rw [n2, h0, Nat.zero_mul])
        have hnil := hsrc.nil h0 hnews A0
        subst hnews
        obtain ⟨jr, jl⟩ := joinB_rel hj hb1 hrel2
        rw [hl1, h0] at jl
        refine Outs.value (hrun (by rw [ev]; exact hnil)) ?_
        refine ⟨_, N, Post.renewPh rfl d4 hp jr jl, ⟨0, 0, 0, 0, true⟩, by simp [addι], by simp [jl], .inl ⟨rfl, jl, A0, rfl⟩⟩
       ·refine grow A0 0 0 [] ev (by omega) hl1.symm hb1 ?_
        cases A0 with
        | none => exact run_firstCells_none w.drew i.size 0 0 0
        | some ad => exact run_firstCells_some w.drew i.size 0 ad 0 0 [] (by simp) (fun j u hj => by simp at hj)
      ·have hb1 := hlie.2.2.1
       have hbl := hlie.2.2.2
       have hxl := hb1.len
       rcases Nat.lt_or_ge c (L.len + b2.len) with hg | hroom
       ·refine grow _ L.len c xs ev hg hbl.symm hb1 (run_firstCells_some w.drew i.size L.len ⟨L.blk, L.off, none⟩ L.len c xs (by rw [hxl, hbl]) fun j u hj => ?_)
        have hcm := cell_mid (w := w) (c1 := []) (c2 := xs) (c3 := []) (pre := pre) (post := post) (by simpa using hlie.1) hj
        rw [Addr.add_lit]
        simp only [List.length_nil, Nat.zero_add, hlie.2.1] at hcm
        simpa using hcm
       ·obtain ⟨jr, jl⟩ := joinB_rel hj hb1 hrel2
        have hsz : (pre ++ (xs ++ post)).toArray.size = L.tot := by simp; omega
        have hmul : L.len * i.size + news.length ≤ c * i.size := by rw [n2, ← Nat.add_mul]; exact Nat.mul_le_mul_right _ hroom
        have hr := hsrc.row L.blk L.off L.len c hroom hlie.1 (by rw [hsz]; omega)
        rw [← ev] at hr
        have hpre := hlie.2.1
        have hnew : ((pre ++ (xs ++ post)).toArray.toList.take (L.off + L.len * i.size) ++ news ++ (pre ++ (xs ++ post)).toArray.toList.drop (L.off + L.len * i.size + news.length)).toArray = (pre ++ ((xs ++ news) ++ post.drop news.length)).toArray := by
         congr 1
         have q1 : L.off + L.len * i.size = (pre ++ xs).length := by rw [List.length_append, hxl, hbl, hpre]
         rw [q1, List.toList_toArray, ← List.append_assoc, List.take_left' rfl, ← List.drop_drop, List.drop_left' rfl]
         simp only [List.append_assoc]
        rw [hnew] at hr
        have hupd : Upd (fun k => ∃ p ∈ goneL (some bb), ∃ L, ι p.1 = some L ∧ L.ph = false ∧ k = L.blk) w (w.setRow L.blk (pre ++ ((xs ++ news) ++ post.drop news.length)).toArray) :=
         setRow_upd w L.blk _ _ ⟨(bb, none), by simp [goneL], L, hL, hph, rfl⟩
        have hnN : ¬ N L.blk := by
         obtain ⟨L2, k1, _, k3⟩ := hp.rds (bb, .cells e i.size b1) (by simp)
         rw [hL] at k1; injection k1 with k1; subst k1
         exact k3 hph
        have hkeep : ∀ k, N k → (w.setRow L.blk (pre ++ ((xs ++ news) ++ post.drop news.length)).toArray).heap[k]? = w.heap[k]? := fun k hk => hupd.heap k (hp.env.1 k hk) (by
         rintro ⟨p, hpm, L2, hL2, _, rfl⟩
         simp [goneL] at hpm; subst hpm
         rw [hL] at hL2; injection hL2 with hL2; subst hL2
         exact hnN hk)
        have hpl : news.length ≤ post.length := by
         have : L.off + c * i.size ≤ L.tot := hct
         rw [hxl, hbl] at htot
         omega
        refine Outs.value (hrun hr) ?_
        refine ⟨_, N, Post.renew (w1 := w.setRow L.blk (pre ++ ((xs ++ news) ++ post.drop news.length)).toArray) (L := ⟨L.blk, L.off, L.tot, b.len, false⟩) (pre := pre) (xs := xs ++ news) (post := post.drop news.length)
         rfl d4 hp hupd hkeep rfl (setRow_heap w L.blk _ _ e (0, 0) hlie.1) hpre ?_ jr rfl hnN (.inr ⟨bb, L, by simp [goneL], hL, hph, rfl⟩), ⟨L.blk, L.off, L.tot, b.len, false⟩, by simp [addι], rfl, .inr ⟨rfl, c, ?_, by omega, ?_⟩⟩
        ·simp; omega
        ·rw [jl, hbl]
        ·exact hct
     ·obtain ⟨q, hq, e⟩ := d2 p hp
      exact ⟨q, List.mem_append.2 (.inl hq), e⟩
     ·rcases List.mem_append.1 hq with hq | hq
      ·exact d1 q hq
      ·exact srcX_gets hs q hq
    ·exact hk.elim
   ·exact hk.elim
  ·exact hk.elim
 ·exact hk.elim
end
end Go.Ab
/- Operations: bytes and strings, the lesser and the greater; all operations in one. -/
namespace Go.Ab
open Go Go.Chr Go.RowKit
def bytesA (h : Heap) (a : AV) : Option (List Int × List (Nat × Blk')) := match clo h a with
 | some (.ints .u8 l, r) => some (l, r)
 | some (.raw (.slice none 0 0), r) => some ([], r)
 | _ => none
def isU8 : Option TypeDesc → Bool
 | some (.int .u8) => true
 | _ => false
def aConv2 (C : Ctx) (h : Heap) (src dst : TypeId) (a : AV) (k : OpR → Prop) : Prop := match C.P.underlying src, C.P.underlying dst with
 | some (.slice e), some .string => cond (isU8 (C.P.underlying e)) (match bytesA h a with
  | some (l, r) => k ⟨.c (.str l), [], [], r⟩
  | none => False) False
 | some .string, some (.slice e) => cond (isU8 (C.P.underlying e)) (match a with
  | .c (.str l) => k ⟨.c (.ints .u8 l), [], [], []⟩
  | _ => False) False
 | _, _ => aConv C src dst a k
def aMin2 (mx : Bool) (a b : AV) (k : OpR → Prop) : Prop := match a, b with
 | .c (.int k1 x), .c (.int k2 y) => cond (decide (k1 = k2)) (k ⟨.c (.int k1 (cond (cond mx (decide (x < y)) (decide (y < x))) y x)), [], [], []⟩) False
 | _, _ => False
section
variable {C : Ctx} {ι : Nat → Option Loc} {N : Nat → Prop} {w : World} {nx : Nat} {r : OpR} {o : Oper} {ρ : Operand → Option AV}
theorem isU8_eq {d : Option TypeDesc} (h : isU8 d = true) : d = some (.int .u8) := by
 unfold isU8 at h
 split at h
 ·rfl
 ·cases h
theorem bytes_ok {l : List Int} (h : ∀ x ∈ l, okI .u8 x) : ∃ bs : List UInt8, l = bs.map (fun b => (b.toNat : Int)) := by
 induction l with
 | nil => exact ⟨[], rfl⟩
 | cons x l ih =>
  obtain ⟨bs, e⟩ := ih fun y hy => h y (List.mem_cons_of_mem _ hy)
  have hx := h x (by simp) (by decide)
  have h0 : 0 ≤ x := hx.1
  have h1 : x ≤ 255 := hx.2
  refine ⟨UInt8.ofNat x.toNat :: bs, ?_⟩
  rw [List.map_cons, ← e]
  congr 1
  have : (UInt8.ofNat x.toNat).toNat = x.toNat := by
   rw [UInt8.toNat_ofNat']; omega
  rw [this]; omega
theorem bytesA_val {h : Heap} {a : AV} {l : List Int} {rds : List (Nat × Blk')} (hb : bytesA h a = some (l, rds)) {v : Value} (hv : a.val ι N w v) (hr : ∀ q ∈ rds, ∃ L, ι q.1 = some L ∧ BlkRel ι N w L q.2) :
  SliceOf (fun _ => True) w l.length (l.map (Value.int .u8)) [v] ∧ ∀ x ∈ l, okI .u8 x := by
 unfold bytesA at hb
 split at hb
 ·rename_i l' r' hc
  injection hb with hb; injection hb with h1 h2; subst h1; subst h2
  have := clo_val (N' := fun _ => True) (fun _ _ => trivial) hc hv fun p hp => by
   obtain ⟨L, k1, k2⟩ := hr p hp
   exact ⟨L, k1, k2, fun _ => trivial⟩
  exact this
 ·rename_i r' hc
  injection hb with hb; injection hb with h1 h2; subst h1; subst h2
  have := clo_val (N' := fun _ => True) (fun _ _ => trivial) hc hv fun p hp => by
   obtain ⟨L, k1, k2⟩ := hr p hp
   exact ⟨L, k1, k2, fun _ => trivial⟩
  obtain ⟨e, _⟩ : [v] = [Value.slice none 0 0] ∧ _ := this
  exact ⟨⟨none, 0, e, Nat.le_refl _, fun h => absurd h (by simp)⟩, fun x hx => by cases hx⟩
 ·cases hb
theorem bytesA_gets {h : Heap} {a : AV} {l : List Int} {rds : List (Nat × Blk')} (hb : bytesA h a = some (l, rds)) : ∀ q ∈ rds, getK h q.1 = some q.2 := by
 unfold bytesA at hb
 split at hb
 ·rename_i l' r' hc
  injection hb with hb; injection hb with h1 h2; subst h2
  exact clo_rds hc
 ·rename_i r' hc
  injection hb with hb; injection hb with h1 h2; subst h2
  exact clo_rds hc
 ·cases hb
theorem run_back {P : Program} {src dst e : TypeId} (hs : P.underlying src = some (.slice e)) (he : P.underlying e = some (.int .u8)) (hd : P.underlying dst = some .string) {l : List Int} {v : Value}
  (h : SliceOf (fun _ => True) w l.length (l.map (Value.int .u8)) [v]) (hl : ∀ x ∈ l, okI .u8 x) : ∃ s, (convert src dst v).run P w = .ok (.string s) w ∧ l = bytesOf s := by
 obtain ⟨bs, rfl⟩ := bytes_ok hl
 obtain ⟨A, c, e', hc, hcell⟩ := h
 injection e' with e' _
 subst e'
 rw [List.length_map] at *
 cases A with
 | some ad =>
  refine ⟨⟨bs.toArray⟩, run_convert_bytes_back w src dst e ad c bs hs he hd fun j hj => ?_, by simp [bytesOf]⟩
  obtain ⟨ad', e2, _, hcell⟩ := hcell (by omega)
  injection e2 with e2; subst e2
  exact hcell j _ (by simp [hj])
 | none =>
  rcases Nat.eq_zero_or_pos bs.length with h0 | h0
  ·have : bs = [] := List.eq_nil_of_length_eq_zero h0
   subst this
   refine ⟨.empty, ?_, rfl⟩
   rw [run_convert_bytes_string w src dst e none _ c hs he hd]
   simp [Conv.bytesToString]
  ·obtain ⟨_, e2, _⟩ := hcell h0
   cases e2
theorem sound_conv2 {h : Heap} {src dst : TypeId} {x : Operand} (ho : o.op = .convert src dst x) {a : AV} (hx : ρ x = some a) {k : OpR → Prop} (hk : aConv2 C h src dst a k) :
  ∃ r, OpSound C nx o ρ r ∧ r.Ok ∧ (∀ q ∈ r.rds, getK h q.1 = some q.2) ∧ k r := by
 have mx : x ∈ o.op.operands := by rw [ho]; simp [Op.operands]
 unfold aConv2 at hk
 split at hk
 ·rename_i e hs hd
  replace hk := cond_prop hk
  obtain ⟨he, hk⟩ := hk
  have he := isU8_eq he
  split at hk
  ·rename_i l rds hb
   refine ⟨_, OpSound.of_read rfl rfl fun ι N w act hp hop => ?_, OpR.ok_read rfl, bytesA_gets hb, hk⟩
   obtain ⟨g1, g2⟩ := bytesA_val hb (hop x _ mx hx) fun q hq => by
    obtain ⟨L, k1, k2, _⟩ := hp.rds q hq
    exact ⟨L, k1, k2⟩
   obtain ⟨s, hrun, e1⟩ := run_back (P := C.P) hs he hd g1 g2
   refine ⟨.string s, ?_, s, rfl, e1⟩
   unfold execOp
   simp only [ho, Sem.run_bind, hrun, Result.andThen_ok, Sem.run_pure]
  ·exact hk.elim
 ·rename_i e hs hd
  replace hk := cond_prop hk
  obtain ⟨he, hk⟩ := hk
  have he := isU8_eq he
  split at hk
  ·rename_i l
   refine ⟨_, ?_, ok_fresh, fun q hq => by simp at hq, hk⟩
   intro ι N w act hp hop
   obtain ⟨s, e1, rfl⟩ := val_str (hop x _ mx hx)
   have hrun := run_bytes_of_string (P := C.P) w src dst e s hs hd he
   rw [← e1] at hrun
   refine Outs.value (v := .slice (some ⟨w.heap.size, 0, none⟩) s.size (grownCap w s.size 0 e)) (by unfold execOp; simp only [ho, Sem.run_bind, hrun, Result.andThen_ok, Sem.run_pure]; rfl) ?_
   have hold : ∀ (ob : Obj) k, k < w.heap.size → (w.drew.alloc ob).heap[k]? = w.heap[k]? := fun ob k hk => Below.heap_alloc w.drew ob k hk
   refine ⟨ι, fun k => N k ∨ k = w.heap.size, ⟨fun _ _ h => h, fun _ _ h => .inl h, fun _ h => .inl h, fun k hk => hk.elim .inl fun e => .inr (by omega), fun k hk => ?_, ⟨rfl, rfl, rfl, by simp, fun k hk _ => hold _ k hk⟩, fun b blk h => by simp at h, fun j blk h => by simp at h, fun i j _ _ h => by simp at h⟩, ?_, fun y hy => ?_⟩
   ·rcases hk with hk | rfl
    ·have := hp.env.1 k hk
     simp; omega
    ·simp
   ·rw [size_bytes]
    refine ⟨_, _, rfl, grownCap_ge w s.size 0 e, fun _ => ⟨_, rfl, .inr rfl, fun j u hj => ?_⟩⟩
    rw [Addr.add_lit, Nat.zero_add]
    have hlt : j < s.size := by
     have := (List.getElem?_eq_some_iff.1 hj).1
     rw [List.length_map, size_bytes] at this
     exact this
    have hh : (w.drew.alloc (.cells (bytesRow s (grownCap w s.size 0 e)) e ((bytesRow s (grownCap w s.size 0 e)).size, (bytesRow s (grownCap w s.size 0 e)).size + 1))).heap[w.heap.size]? = some (.cells (bytesRow s (grownCap w s.size 0 e)) e ((bytesRow s (grownCap w s.size 0 e)).size, (bytesRow s (grownCap w s.size 0 e)).size + 1)) := heap_alloc_new w.drew _
    unfold World.cell?
    rw [hh]
    simp only [Option.isSome_none, Bool.false_eq_true, if_false]
    unfold bytesRow
    rw [Array.getElem?_append_left (by rw [Array.size_map]; exact hlt), Array.getElem?_map]
    rw [← hj]
    unfold bytesOf
    rw [List.map_map, List.getElem?_map, Array.getElem?_toList]
    rfl
   ·unfold bytesOf at hy
    obtain ⟨z, _, rfl⟩ := List.mem_map.1 hy
    intro _
    have := z.toNat_lt
    exact ⟨by show (0 : Int) ≤ _; omega, by show ((z.toNat : Nat) : Int) ≤ 255; omega⟩
  ·exact hk.elim
 ·exact sound_conv ho hx hk
theorem sound_min {h : Heap} {mx : Bool} {t t2 : TypeId} {x y : Operand} (ho : o.op = .call { callee := .builtin (cond mx .max .min), args := #[x, y], argTypes := #[t, t2] }) {a b : AV} (hx : ρ x = some a) (hy : ρ y = some b) {k : OpR → Prop} (hk : aMin2 mx a b k) :
  ∃ r, OpSound C nx o ρ r ∧ r.Ok ∧ (∀ q ∈ r.rds, getK h q.1 = some q.2) ∧ k r := by
 have m1 : x ∈ o.op.operands := by rw [ho]; simp [Op.operands, Call.operands]
 have m2 : y ∈ o.op.operands := by rw [ho]; simp [Op.operands, Call.operands]
 unfold aMin2 at hk
 split at hk
 ·rename_i k1 x' k2 y'
  replace hk := cond_prop hk
  obtain ⟨hkk, hk⟩ := hk
  have := of_decide_eq_true hkk; subst this
  refine read_out hk fun ι N w act henv hop => ?_
  obtain ⟨e1, o1⟩ := val_int (hop x _ m1 hx)
  obtain ⟨e2, o2⟩ := val_int (hop y _ m2 hy)
  refine ⟨.int k1 (cond (cond mx (decide (x' < y')) (decide (y' < x'))) y' x'), ?_, rfl, ?_⟩
  ·cases mx with
   | true =>
    refine run_bi (b := .max) (c := { callee := .builtin .max, args := #[x, y], argTypes := #[t, t2] }) ho ?_
    by_cases hlt : x' < y' <;> simp [builtin, Builtin.max_, Builtin.max2, e1, e2, hlt]
   | false =>
    refine run_bi (b := .min) (c := { callee := .builtin .min, args := #[x, y], argTypes := #[t, t2] }) ho ?_
    by_cases hlt : y' < x' <;> simp [builtin, Builtin.min_, Builtin.min2, e1, e2, hlt]
  ·cases (cond mx (decide (x' < y')) (decide (y' < x')))
   ·exact o1
   ·exact o2
 ·exact hk.elim
def intSize (C : Ctx) (e : TypeId) : Bool := match C.P.info? e with
 | some i => Nat.beq i.size 1
 | none => false
def copyL (off n : Nat) (l src : List Int) : List Int := l.take off ++ (src.take n ++ l.drop (off + (src.take n).length))
def aCopy (C : Ctx) (h : Heap) (dt : TypeId) (d s : AV) (k : OpR → Prop) : Prop := match C.P.underlying dt with
 | some (.slice e) => match d with
  | .inn (.l b) i esz off z n => match getK h b with
   | some (.cells ty esz' body) => match elemV body i, bytesA h s with
    | some (.c (.arr .u8 m l)), some (src, r) => match setB body i 0 (.c (.arr .u8 m (copyL off n l src))) with
     | some body' => cond ((Nat.beq esz esz' && Nat.beq z 1) && (Nat.beq m esz && (Nat.ble 1 esz && intSize C e)))
       (k ⟨.c (.int .i64 (src.take n).length), [(b, some (.cells ty esz' body'))], [], (b, .cells ty esz' body) :: r⟩) False
     | none => False
    | _, _ => False
   | _ => False
  | _ => False
 | _ => False
theorem run_copy_any {P : Program} (w : World) (dT sT ty elem : TypeId) (g o dLen dCap : Nat) (A : Addr) (src : Value) (cur : Array Value) (t : TypeId) (xs cs : List Value) {N : Nat → Prop}
  (hu : P.underlying dT = some (.slice elem)) (hs : (P.info? elem).map (·.size) = some 1) (hg : w.heap[g]? = some (.cells cur t (0, 0))) (hsrc : SliceOf N w xs.length xs [src]) (hcs : cs = xs.take dLen)
  (hA : 0 < cs.length → A = ⟨g, o, none⟩) (hfit : o + cs.length ≤ cur.size) (h1 : ∀ v ∈ cs, v.oneCell' = true) :
  (Builtin.copy_ #[dT, sT] ty #[.slice (some A) dLen dCap, src]).run P w = .ok (goInt cs.length) (w.setRow g (cur.toList.take o ++ cs ++ cur.toList.drop (o + cs.length)).toArray) := by
 obtain ⟨B, c, e, hc, hr⟩ := hsrc
 injection e with e; subst e
 have hmin : Nat.min xs.length dLen = cs.length := by rw [hcs, List.length_take, Nat.min_comm]
 rcases Nat.eq_zero_or_pos cs.length with h0 | h0
 ·have hnil : cs = [] := List.eq_nil_of_length_eq_zero h0
  have hself : w.setRow g (cur.toList.take o ++ cs ++ cur.toList.drop (o + cs.length)).toArray = w := by
   rw [hnil]; simp only [List.append_nil, List.length_nil, Nat.add_zero, List.take_append_drop, Array.toArray_toList]
   exact setRow_self w g cur t (0, 0) hg
  rw [hself, h0]
  rw [h0] at hmin
  cases hq : P.info? elem with
  | none => simp [hq] at hs
  | some i =>
   cases B with
   | none => simp [Builtin.copy_, run_underlying hu, Builtin.lenOf, Builtin.firstCells, sizeOf, typeInfo, hq, storeCells, hmin]
   | some ad =>
    have hl := run_loadCells_list (P := P) w ad [] (by simp)
    simp only [List.length_nil] at hl
    simp [Builtin.copy_, run_underlying hu, Builtin.lenOf, Builtin.firstCells, sizeOf, typeInfo, hq, storeCells, hmin, hl]
 ·have hx : 0 < xs.length := by rw [hcs, List.length_take] at h0; omega
  obtain ⟨ad, e, _, hcell⟩ := hr hx
  subst e
  rw [hA h0]
  exact run_copy_row P w dT sT ty elem g o dLen dCap ad xs.length c cur t cs hu hs hg hmin.symm (fun j v hj => hcell j v (by
   rw [hcs, List.getElem?_take] at hj
   split at hj
   ·exact hj
   ·cases hj)) hfit h1
theorem sound_copy {h : Heap} {t t2 : TypeId} {x y : Operand} (ho : o.op = .call { callee := .builtin .copy, args := #[x, y], argTypes := #[t, t2] }) {d s : AV} (hx : ρ x = some d) (hy : ρ y = some s) {k : OpR → Prop} (hk : aCopy C h t d s k) :
  ∃ r, OpSound C nx o ρ r ∧ r.Ok ∧ (∀ q ∈ r.rds, getK h q.1 = some q.2) ∧ k r := by
 have m1 : x ∈ o.op.operands := by rw [ho]; simp [Op.operands, Call.operands]
 have m2 : y ∈ o.op.operands := by rw [ho]; simp [Op.operands, Call.operands]
 unfold aCopy at hk
 split at hk
 ·rename_i e hu
  split at hk
  ·rename_i b i esz off z n
   split at hk
   ·rename_i ty esz' body hb
    split at hk
    ·rename_i m l src r hel hby
     split at hk
     ·rename_i body' hset
      replace hk := cond_prop hk
      obtain ⟨hc, hk⟩ := hk
      simp only [Bool.and_eq_true] at hc
      obtain ⟨⟨c1, c2⟩, c3, c4, c5⟩ := hc
      have := beqN c1; subst this
      have := beqN c2; subst this
      have hm := beqN c3
      have h1 := bleN c4
      have hsz : (C.P.info? e).map (·.size) = some 1 := by
       unfold intSize at c5
       split at c5
       ·rename_i ii hii; rw [hii]; simp; exact beqN c5
       ·cases c5
      refine ⟨_, ?_, ⟨fun q hq => ⟨(b, .cells ty esz body), by simp, by simp at hq; rw [hq]⟩, by simp⟩, fun q hq => ?_, hk⟩
      ·intro ι N w a hp hop
       obtain ⟨L, A, c, hL, hi, hoff, ev, hnc, hAb, hAs, hA⟩ := hop x _ m1 hx
       injection ev with ev _
       have hL : ι b = some L := hL
       obtain ⟨hsl, hok⟩ := bytesA_val hby (hop y _ m2 hy) fun q hq => by
        obtain ⟨L2, k1, k2, _⟩ := hp.rds q (by simp [hq])
        exact ⟨L2, k1, k2⟩
       obtain ⟨L', k1, k2, k3⟩ := hp.rds (b, .cells ty esz body) (by simp)
       rw [hL] at k1; injection k1 with k1; subst k1
       rcases k2 with ⟨_, _, _, k4⟩ | ⟨hph, pre, xs, post, ⟨hl1, hl2, hl3, hl4⟩, htot⟩
       ·omega
       obtain ⟨d1, d2, d3, e0, e1, e2, hv⟩ := elemV_rel hl3 (by omega) hel
       obtain ⟨hd2, hll, hlo⟩ : d2 = l.map (Value.int .u8) ∧ l.length = m ∧ ∀ x ∈ l, okI .u8 x := hv
       have hcl : (copyL off n l src).length = m := by
        unfold copyL
        simp only [List.length_append, List.length_take, List.length_drop]
        omega
       have hur : (AV.c (.arr .u8 m (copyL off n l src))).rel ι N w ((copyL off n l src).map (Value.int .u8)) := by
        refine ⟨rfl, hcl, fun x hx => ?_⟩
        unfold copyL at hx
        rcases List.mem_append.1 hx with hx | hx
        ·exact hlo x (List.mem_of_mem_take hx)
        ·rcases List.mem_append.1 hx with hx | hx
         ·exact hok x (List.mem_of_mem_take hx)
         ·exact hlo x (List.mem_of_mem_drop hx)
       obtain ⟨f1, f2, f3, g0, g1, g2, g3, g4, g5⟩ := setB_rel hl3 hur (by omega) (by omega) (.inr (by rw [List.length_map, hcl]; omega)) hset
       have hdd : d1 = f1 ∧ d2 = f2 ∧ d3 = f3 := by
        rw [e0] at g0
        have q1 := List.append_inj g0 (by omega)
        have q2 := List.append_inj q1.2 (by omega)
        exact ⟨q1.1, q2.1, q2.2⟩
       obtain ⟨rfl, rfl, rfl⟩ := hdd
       subst e0
       have hcs : (src.map (Value.int .u8)).take n = (src.take n).map (Value.int .u8) := by rw [List.map_take]
       have hrun := run_copy_any (P := C.P) w t t2 o.type e L.blk (L.off + (i * esz + off)) n c A (a.eval y) _ ty (src.map (Value.int .u8)) ((src.take n).map (Value.int .u8)) hu hsz hl1 (by rw [List.length_map]; exact hsl) hcs.symm
        (fun h0 => by
         have : 0 < c := by rw [List.length_map, List.length_take] at h0; omega
         exact eta_addr hAb hAs (hA this))
        (by simp only [List.length_map, List.length_take, List.size_toArray, List.length_append]; rw [hl2]; omega)
        (fun u hu => oneCell_ints hu)
       rw [← ev] at hrun
       have hnew : ((pre ++ ((d1 ++ (d2 ++ d3)) ++ post)).toArray.toList.take (L.off + (i * esz + off)) ++ (src.take n).map (Value.int .u8) ++ (pre ++ ((d1 ++ (d2 ++ d3)) ++ post)).toArray.toList.drop (L.off + (i * esz + off) + ((src.take n).map (Value.int .u8)).length)).toArray
         = (pre ++ ((d1 ++ ((d2.take 0 ++ ((copyL off n l src).map (Value.int .u8) ++ d2.drop (0 + ((copyL off n l src).map (Value.int .u8)).length))) ++ d3)) ++ post)).toArray := by
        congr 1
        have q1 : L.off + (i * esz + off) = pre.length + (d1.length + off) := by omega
        have q3 : off + ((src.take n).map (Value.int .u8)).length ≤ d2.length := by
         rw [List.length_map, List.length_take]; omega
        have q4 : d2.drop (0 + ((copyL off n l src).map (Value.int .u8)).length) = [] := List.drop_eq_nil_of_le (by rw [List.length_map, hcl]; omega)
        rw [q1, q4, List.toList_toArray, List.take_zero, List.nil_append, List.append_nil]
        rw [show pre ++ ((d1 ++ (d2 ++ d3)) ++ post) = (pre ++ d1) ++ (d2 ++ (d3 ++ post)) by simp only [List.append_assoc]]
        rw [show pre.length + (d1.length + off) = (pre ++ d1).length + off by rw [List.length_append]; omega]
        rw [List.take_length_add_append, Nat.add_assoc, ← List.drop_drop, List.drop_left, List.take_append_of_le_length (by omega), List.drop_append_of_le_length q3]
        unfold copyL
        simp only [List.map_append, List.map_take, List.map_drop, ← hd2, List.length_map, List.length_take, List.append_assoc]
       rw [hnew] at hrun
       have hnN := k3 hph
       obtain ⟨W, hW⟩ : ∃ W, W = w.setRow L.blk (pre ++ ((d1 ++ ((d2.take 0 ++ ((copyL off n l src).map (Value.int .u8) ++ d2.drop (0 + ((copyL off n l src).map (Value.int .u8)).length))) ++ d3)) ++ post)).toArray := ⟨_, rfl⟩
       have hupd : Upd (fun k => ∃ p ∈ [(b, some (Blk'.cells ty esz body'))], ∃ L, ι p.1 = some L ∧ L.ph = false ∧ k = L.blk) w W := by
        rw [hW]; exact setRow_upd w L.blk _ _ ⟨(b, some (.cells ty esz body')), by simp, L, hL, hph, rfl⟩
       have hkeep : ∀ k, N k → W.heap[k]? = w.heap[k]? := fun k hk => hupd.heap k (hp.env.1 k hk) (by
        rintro ⟨p, hpm, L2, hL2, _, rfl⟩
        simp at hpm; subst hpm
        rw [hL] at hL2; injection hL2 with hL2; subst hL2
        exact hnN hk)
       rw [← hW] at hrun
       refine Outs.value (w' := W) (v := goInt (((src.take n).map (Value.int .u8)).length : Nat)) (run_bi (b := .copy) (c := { callee := .builtin .copy, args := #[x, y], argTypes := #[t, t2] }) ho ?_) ⟨ι, N, ⟨fun _ _ h => h, fun _ _ h => .inl h, fun _ h => h, fun _ h => .inl h, fun k hk => Nat.lt_of_lt_of_le (hp.env.1 k hk) hupd.size, hupd, ?_, fun j blk h => by simp at h, fun i j _ _ h => by simp at h⟩, ?_⟩
       ·simp [builtin, hrun]
       ·intro b' blk hm
        simp at hm
        obtain ⟨rfl, rfl⟩ := hm
        refine ⟨L, hL, .inr ⟨hph, pre, _, post, ⟨by rw [hW]; exact setRow_heap w L.blk _ _ ty (0, 0) hl1, hl2, g4.mono (fun _ _ h => h) (fun _ h => h) hkeep, by omega⟩, ?_⟩⟩
        rw [← htot]
        simp only [List.length_append, List.length_take, List.length_drop, List.length_map, hcl]
        omega
       ·refine ⟨?_, okI_i64 _⟩
        rw [List.length_map]; rfl
      ·rcases List.mem_cons.1 hq with rfl | hq
       ·exact hb
       ·exact bytesA_gets hby q hq
     ·exact hk.elim
    ·exact hk.elim
   ·exact hk.elim
  ·exact hk.elim
 ·exact hk.elim
end
end Go.Ab
/- Handles: pointers that may be nil. -/
namespace Go.Ab
open Go Go.Chr Go.RowKit
def addrOp : Op → Option Operand
 | .load _ x => some x
 | .store _ x _ => some x
 | .fieldAddr _ x _ => some x
 | .indexAddr _ x _ => some x
 | .slice _ x _ _ _ => some x
 | .nilCheck x => some x
 | _ => none
def isTmp (t : Nat) : Operand → Bool
 | .tmp s => Nat.beq s t
 | _ => false
def asOptR (b : Nat) (alive : Bool) (ty : TypeId) (e : Nat) (body : Body) : List (Nat × Blk') → List (Nat × Blk')
 | [] => []
 | (c, x) :: l => (c, bif Nat.beq c b then .opt alive ty e body else x) :: asOptR b alive ty e body l
def asOptB (alive : Bool) : Blk' → Blk'
 | .cells ty e body => .opt alive ty e body
 | x => x
def asOptU (b : Nat) (alive : Bool) : List (Nat × Option Blk') → List (Nat × Option Blk')
 | [] => []
 | (c, some x) :: l => (c, some (bif Nat.beq c b then asOptB alive x else x)) :: asOptU b alive l
 | (c, none) :: l => (c, none) :: asOptU b alive l
def asOpt (b : Nat) (alive : Bool) (ty : TypeId) (e : Nat) (body : Body) (r : OpR) : OpR := match r with
 | ⟨v, u, n, rd⟩ => ⟨v, asOptU b alive u, n, (b, .opt alive ty e body) :: asOptR b alive ty e body rd⟩
def nilTest (C : Ctx) (h : Heap) (op : BinOp) (t : TypeId) (b : Nat) (y : Option AV) (k : OpR → Prop) : Prop := match y with
 | some v => match getK h b with
  | some (.opt alive ty e body) => match C.P.underlying t, eqNil op (!alive) with
   | some (.pointer _), some r => cond (isNilA v) (k ⟨.c (.bool r), [], [], [(b, .opt alive ty e body)]⟩) False
   | _, _ => False
  | _ => False
 | none => False
def optK (C : Ctx) (K : OpK) : OpK := fun h nx o ρ k => match o.op with
 | .binOp op t x y _ => match ρ x with
  | some (.hd (.opt _) b) => nilTest C h op t b (ρ y) k
  | _ => K h nx o ρ k
 | _ => match addrOp o.op with
  | some (.tmp t) => match ρ (.tmp t) with
   | some (.hd (.opt esz) b) => match getK h b with
    | some (.opt alive ty e body) => cond alive (cond (Nat.beq e esz && (Nat.ble 1 body.len && Nat.ble 1 esz)) (K (setK b (.cells ty e body) h) nx o (fun y => bif isTmp t y then some (.ptr (.l b) 0 esz 0) else ρ y) (fun r => k (asOpt b alive ty e body r))) False) False
    | _ => False
   | some (.ptr (.l b) _ _ _) => match getK h b with
    | some (.opt alive ty e body) => cond alive (K (setK b (.cells ty e body) h) nx o ρ (fun r => k (asOpt b alive ty e body r))) False
    | _ => K h nx o ρ k
   | _ => K h nx o ρ k
  | _ => K h nx o ρ k
section
variable {C : Ctx} {ι ι' : Nat → Option Loc} {N N' : Nat → Prop} {w w' : World} {nx : Nat} {o : Oper} {ρ : Operand → Option AV}
theorem opt_cells {L : Loc} {ty : TypeId} {e : Nat} {body : Body} (h : BlkRel ι N w L (.opt true ty e body)) : L.ph = false ∧ BlkRel ι N w L (.cells ty e body) ∧ body.len = L.len := by
 rcases h with ⟨h, _⟩ | ⟨_, hp, pre, xs, post, hl, ht⟩
 ·cases h
 ·exact ⟨hp, .inr ⟨hp, pre, xs, post, hl, ht⟩, hl.2.2.2⟩
theorem cells_opt {L : Loc} (hp : L.ph = false) : ∀ {b : Blk'}, BlkRel ι N w L b → BlkRel ι N w L (asOptB true b)
 | .cells _ _ _, .inl ⟨h, _⟩ => by rw [hp] at h; cases h
 | .cells _ _ _, .inr h => .inr ⟨rfl, h⟩
 | .map _ _, h => h
 | .opt _ _ _ _, h => h
theorem asOptR_mem {b : Nat} {alive : Bool} {ty : TypeId} {e : Nat} {body : Body} : ∀ {l : List (Nat × Blk')} {c : Nat} {x : Blk'}, (c, x) ∈ l → (c, bif Nat.beq c b then .opt alive ty e body else x) ∈ asOptR b alive ty e body l
 | (d, y) :: l, c, x, h => by
  unfold asOptR
  rcases List.mem_cons.1 h with h | h
  ·injection h with h1 h2; subst h1; subst h2; exact List.mem_cons_self
  ·exact List.mem_cons_of_mem _ (asOptR_mem h)
theorem asOptR_of {b : Nat} {alive : Bool} {ty : TypeId} {e : Nat} {body : Body} : ∀ {l : List (Nat × Blk')} {c : Nat} {y : Blk'}, (c, y) ∈ asOptR b alive ty e body l → ∃ x, (c, x) ∈ l ∧ y = bif Nat.beq c b then .opt alive ty e body else x
 | (d, z) :: l, c, y, h => by
  unfold asOptR at h
  rcases List.mem_cons.1 h with h | h
  ·injection h with h1 h2; subst h1; exact ⟨z, List.mem_cons_self, h2⟩
  ·obtain ⟨x, h1, h2⟩ := asOptR_of h
   exact ⟨x, List.mem_cons_of_mem _ h1, h2⟩
theorem asOptU_map (b : Nat) (alive : Bool) : ∀ l : List (Nat × Option Blk'), (asOptU b alive l).map (·.1) = l.map (·.1)
 | [] => rfl
 | (c, some x) :: l => by unfold asOptU; rw [List.map_cons, List.map_cons, asOptU_map b alive l]
 | (c, none) :: l => by unfold asOptU; rw [List.map_cons, List.map_cons, asOptU_map b alive l]
theorem asOptU_some {b : Nat} {alive : Bool} : ∀ {l : List (Nat × Option Blk')} {c : Nat} {y : Blk'}, (c, some y) ∈ asOptU b alive l → ∃ x, (c, some x) ∈ l ∧ y = bif Nat.beq c b then asOptB alive x else x
 | (d, some z) :: l, c, y, h => by
  unfold asOptU at h
  rcases List.mem_cons.1 h with h | h
  ·injection h with h1 h2; injection h2 with h2; subst h1; exact ⟨z, List.mem_cons_self, h2⟩
  ·obtain ⟨x, h1, h2⟩ := asOptU_some h
   exact ⟨x, List.mem_cons_of_mem _ h1, h2⟩
 | (d, none) :: l, c, y, h => by
  unfold asOptU at h
  rcases List.mem_cons.1 h with h | h
  ·injection h with _ h2; cases h2
  ·obtain ⟨x, h1, h2⟩ := asOptU_some h
   exact ⟨x, List.mem_cons_of_mem _ h1, h2⟩
theorem asOptU_none {b : Nat} {alive : Bool} : ∀ {l : List (Nat × Option Blk')} {c : Nat}, (c, none) ∈ l → (c, none) ∈ asOptU b alive l
 | (d, some z) :: l, c, h => by
  unfold asOptU
  rcases List.mem_cons.1 h with h | h
  ·injection h with _ h2; cases h2
  ·exact List.mem_cons_of_mem _ (asOptU_none h)
 | (d, none) :: l, c, h => by
  unfold asOptU
  rcases List.mem_cons.1 h with h | h
  ·injection h with h1 _; subst h1; exact List.mem_cons_self
  ·exact List.mem_cons_of_mem _ (asOptU_none h)
theorem asOptU_names {b : Nat} {alive : Bool} {l : List (Nat × Option Blk')} {p : Nat × Option Blk'} (h : p ∈ l) : ∃ q ∈ asOptU b alive l, q.1 = p.1 := by
 have h1 : p.1 ∈ (asOptU b alive l).map (·.1) := by rw [asOptU_map]; exact List.mem_map_of_mem h
 obtain ⟨q, h2, h3⟩ := List.mem_map.1 h1
 exact ⟨q, h2, h3⟩
theorem asOptU_names' {b : Nat} {alive : Bool} {l : List (Nat × Option Blk')} {q : Nat × Option Blk'} (h : q ∈ asOptU b alive l) : ∃ p ∈ l, p.1 = q.1 := by
 have h1 : q.1 ∈ l.map (·.1) := by rw [← asOptU_map b alive]; exact List.mem_map_of_mem h
 obtain ⟨p, h2, h3⟩ := List.mem_map.1 h1
 exact ⟨p, h2, h3⟩
theorem opt_step {h : Heap} {b : Nat} {ty : TypeId} {e : Nat} {body : Body} {ρ' : Operand → Option AV} {r : OpR} (hb : getK h b = some (.opt true ty e body)) (hs : OpSound C nx o ρ' r) (hok : r.Ok) (hr : ∀ q ∈ r.rds, getK (setK b (Blk'.cells ty e body) h) q.1 = some q.2)
  (hops : ∀ (ι : Nat → Option Loc) (N : Nat → Prop) (w : World) (a : Act) (L : Loc), ι b = some L → BlkRel ι N w L (.opt true ty e body) → (∀ x v, x ∈ o.op.operands → ρ x = some v → v.val ι N w (a.eval x)) → ∀ x v, x ∈ o.op.operands → ρ' x = some v → v.val ι N w (a.eval x)) :
  OpSound C nx o ρ (asOpt b true ty e body r) ∧ (asOpt b true ty e body r).Ok ∧ ∀ q ∈ (asOpt b true ty e body r).rds, getK h q.1 = some q.2 := by
 obtain ⟨v, u, n, rd⟩ := r
 refine ⟨?_, ⟨?_, ?_⟩, ?_⟩
 ·intro ι N w a hp hop
  obtain ⟨L, k1, k2, k3⟩ := hp.rds (b, .opt true ty e body) (List.mem_cons_self)
  obtain ⟨lp, lc, ll⟩ := opt_cells k2
  have hpre : Pre C ι N w nx ⟨v, u, n, rd⟩ := by
   refine ⟨hp.env, ?_, ?_, hp.fresh⟩
   ·rintro ⟨c, x⟩ hx
    have hx := hr _ hx
    by_cases hcb : c = b
    ·subst hcb
     have hx : getK (setK c (Blk'.cells ty e body) h) c = some x := hx
     rw [getK_setK, if_pos rfl] at hx
     injection hx with hx; subst hx
     exact ⟨L, k1, lc, k3⟩
    ·have h1 := asOptR_mem (b := b) (alive := true) (ty := ty) (e := e) (body := body) ‹(c, x) ∈ rd›
     rw [beqF hcb] at h1
     exact hp.rds (c, x) (List.mem_cons_of_mem _ h1)
   ·rintro ⟨c, x⟩ hx ⟨d, y⟩ hy hne L1 L2 e1 e2 p1 p2
    exact hp.apart _ (List.mem_cons_of_mem _ (asOptR_mem hx)) _ (List.mem_cons_of_mem _ (asOptR_mem hy)) hne L1 L2 e1 e2 p1 p2
  have hops := hops ι N w a L k1 k2 hop
  refine (hs ι N w a hpre hops).mono ?_
  rintro z w' ⟨ι', N', hP, hv⟩
  refine ⟨ι', N', ⟨hP.iold, hP.inew, hP.nold, hP.nnew, hP.nsz, ⟨hP.frame.os, hP.frame.tape, hP.frame.output, hP.frame.size, fun k hk hn => hP.frame.heap k hk ?_⟩, ?_, ?_, hP.dist⟩, hv⟩
  ·rintro ⟨p, hpm, L1, q1, q2, q3⟩
   obtain ⟨q, hq, e1⟩ := asOptU_names (b := b) (alive := true) hpm
   exact hn ⟨q, hq, L1, by rw [e1]; exact q1, q2, q3⟩
  ·intro c blk hm
   obtain ⟨x, h1, h2⟩ := asOptU_some hm
   obtain ⟨L1, q1, q2⟩ := hP.upds c x h1
   refine ⟨L1, q1, ?_⟩
   rw [h2]
   by_cases hcb : c = b
   ·subst hcb
    rw [k1] at q1; injection q1 with q1; subst q1
    rw [Nat.beq_refl]
    exact cells_opt lp q2
   ·rw [beqF hcb]; exact q2
  ·intro j blk hj
   obtain ⟨L1, q1, q2, q3⟩ := hP.news j blk hj
   refine ⟨L1, q1, q2, fun hp => ?_⟩
   obtain ⟨q4, q5⟩ := q3 hp
   refine ⟨q4, ?_⟩
   rcases q5 with q5 | ⟨c, L0, m1, m2⟩
   ·exact .inl q5
   ·exact .inr ⟨c, L0, asOptU_none m1, m2⟩
 ·intro p hp
  obtain ⟨p', h1, h2⟩ := asOptU_names' hp
  obtain ⟨q, h3, h4⟩ := hok.sub p' h1
  exact ⟨_, List.mem_cons_of_mem _ (asOptR_mem (c := q.1) (x := q.2) h3), h4.trans h2⟩
 ·show ((asOptU b true u).map (·.1)).Nodup
  rw [asOptU_map]; exact hok.nodup
 ·intro q hq
  rcases List.mem_cons.1 hq with hq | hq
  ·subst hq; exact hb
  ·obtain ⟨x, h1, h2⟩ := asOptR_of (c := q.1) (y := q.2) hq
   have h3 : getK (setK b (Blk'.cells ty e body) h) q.1 = some x := hr _ h1
   by_cases hcb : q.1 = b
   ·rw [hcb, Nat.beq_refl] at h2
    rw [hcb, h2]; exact hb
   ·rw [beqF hcb] at h2
    rw [getK_setK, if_neg (fun e => hcb e.symm)] at h3
    rw [h2]; exact h3
theorem optK_sound {K : OpK} (hK : OpKSound C K) : OpKSound C (optK C K) := by
 intro h nx o ρ k hk
 unfold optK at hk
 split at hk
 ·rename_i op t x y yt ho
  split at hk
  ·rename_i esz b hx
   unfold nilTest at hk
   split at hk
   ·rename_i v hv
    split at hk
    ·rename_i alive ty e body hb
     split at hk
     ·rename_i tp r hu heq
      obtain ⟨hn, hk⟩ := cond_prop hk
      refine ⟨_, OpSound.of_read rfl rfl ?_, OpR.ok_read rfl, fun q hq => by simp at hq; subst hq; exact hb, hk⟩
      intro ι N w a hp hop
      obtain ⟨L, h1, h2⟩ := hop x _ (by rw [ho]; simp [Op.operands]) hx
      have hy := val_nil hn (hop y _ (by rw [ho]; simp [Op.operands]) hv)
      obtain ⟨L', k1, k2, _⟩ := hp.rds (b, .opt alive ty e body) (by simp)
      rw [h1] at k1; injection k1 with k1; subst k1
      have key : ∃ ad, a.eval x = .pointer ad ∧ ad.isNone = !alive := by
       rcases h2 with ⟨p1, e1⟩ | ⟨p1, _, _, e1⟩
       ·injection e1 with e1 _
        refine ⟨none, e1, ?_⟩
        rcases k2 with ⟨ha, _⟩ | ⟨_, p2, _⟩
        ·rw [ha]; rfl
        ·rw [p1] at p2; cases p2
       ·injection e1 with e1 _
        refine ⟨_, e1, ?_⟩
        rcases k2 with ⟨_, p2⟩ | ⟨ha, _⟩
        ·rw [p1] at p2; cases p2
        ·rw [ha]; rfl
      obtain ⟨ad, e1, e2⟩ := key
      have hut : C.P.underlying t = some (.pointer (C.P.pointee t)) := by
       unfold Program.pointee; rw [hu]
      refine ⟨.bool r, run_bin ho (by rw [e1, hy]; exact guard_ptr _ _) ?_, rfl⟩
      rw [e1, hy]
      rcases eqNil_cases heq with ⟨rfl, rfl⟩ | ⟨rfl, rfl⟩
      ·rw [run_eql_pointer_nil w t ad hut, e2]
      ·rw [run_neq_pointer_nil w t ad hut, e2]
     ·exact hk.elim
    ·exact hk.elim
   ·exact hk.elim
  ·exact hK h nx o ρ k hk
 ·rename_i hnb
  split at hk
  ·rename_i t ha
   split at hk
   ·rename_i esz b hx
    split at hk
    ·rename_i alive ty e body hb
     obtain ⟨hal, hk⟩ := cond_prop hk
     subst hal
     obtain ⟨hc, hk⟩ := cond_prop hk
     simp only [Bool.and_eq_true] at hc
     obtain ⟨c1, c2, c3⟩ := hc
     have := beqN c1; subst this
     have c2 := bleN c2
     have c3 := bleN c3
     obtain ⟨r, hs, hok, hr, hk⟩ := hK _ _ _ _ _ hk
     obtain ⟨g1, g2, g3⟩ := opt_step hb hs hok hr fun ι N w a L k1 k2 hop x v hm hv => by
      have lp := (opt_cells k2).1
      cases hi : isTmp t x with
      | false => rw [hi] at hv; exact hop x v hm hv
      | true =>
       rw [hi] at hv
       injection hv with hv; subst hv
       have hxt : x = .tmp t := by
        unfold isTmp at hi
        split at hi
        ·rw [beqN hi]
        ·cases hi
       subst hxt
       obtain ⟨L', j1, j2⟩ := hop _ _ hm hx
       rw [k1] at j1; injection j1 with j1; subst j1
       rcases j2 with ⟨p1, _⟩ | ⟨_, p2, p3, p4⟩
       ·rw [lp] at p1; cases p1
       ·exact ⟨L, k1, by omega, c3, by rw [p4]; simp⟩
     exact ⟨_, g1, g2, g3, hk⟩
    ·exact hk.elim
   ·rename_i b i esz off hx
    split at hk
    ·rename_i alive ty e body hb
     obtain ⟨hal, hk⟩ := cond_prop hk
     subst hal
     obtain ⟨r, hs, hok, hr, hk⟩ := hK _ _ _ _ _ hk
     obtain ⟨g1, g2, g3⟩ := opt_step hb hs hok hr fun ι N w a L k1 k2 hop => hop
     exact ⟨_, g1, g2, g3, hk⟩
    ·exact hK h nx o ρ k hk
   ·exact hK h nx o ρ k hk
  ·exact hK h nx o ρ k hk
end
end Go.Ab
