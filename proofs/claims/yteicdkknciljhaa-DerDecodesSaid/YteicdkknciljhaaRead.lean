/- Contracts of the layer der: what is read. -/
import Derived.Test.YteicdkknciljhaaDer
import Derived.Test.YteicdkknciljhaaConcat
import Derived.Defers
import Derived.Recover
namespace Go.Proofs.Yteicdkknciljhaa
open Go.RowKit Go.Chr

/-- a slice that lies below B, and not in block g -/
def Far (g B : Nat) (v : Value) : Prop := ∀ A n c, v = .slice (some A) n c → A.block ≠ g ∧ A.block < B
/-- a reader at block g, with these bytes to come -/
def IsR (w : World) (g B : Nat) (l : List Int) : Prop := ∃ v, Blk w g 38 #[v] ∧ RI w .u8 v l ∧ Far g B v
/-- all but block g is as it was -/
def But (g : Nat) (w w' : World) : Prop := w.grownBy w' (some g)
/-- what a reader panics with -/
def wrongV : List PanicEntry := [{ v := .iface 42 (.agg #[]), recovered := false }]

def RdYes (g B : Nat) (v : Value) (l : List Int) (w : World) (e : Ending) (w' : World) : Prop := e = .returned v ∧ IsR w' g B l ∧ But g w w'
def RdNo (g : Nat) (w : World) (e : Ending) (w' : World) : Prop := e = .panicked wrongV ∧ But g w w'

theorem ri_but {w w' : World} {g : Nat} {v : Value} {l : List Int} (h : RI w .u8 v l) (hg : ∀ A n c, v = .slice (some A) n c → A.block ≠ g) (hb : But g w w') : RI w' .u8 v l := by
  obtain ⟨A, c, rfl, hc, hr⟩ := h
  refine ⟨A, c, rfl, hc, hr.1, fun hn => ?_⟩
  obtain ⟨ad, rfl, hbl, hcell⟩ := hr.2 hn
  refine ⟨ad, rfl, Nat.lt_of_lt_of_le hbl hb.size, fun j u hj => ?_⟩
  rw [← hcell j u hj]
  refine World.cell?_of_block (hb.block _ (by rw [block_of_add]; exact hbl) ?_)
  rw [block_of_add]
  intro e
  exact hg ad _ _ rfl (by injection e)

set_option maxRecDepth 100000 in
set_option maxHeartbeats 1000000 in
theorem byte_no (g B : Nat) (w : World) (h : IsR w g B []) : Calls Try.prog 13 #[.pointer (some ⟨g, 0, none⟩)] w (RdNo g w) := by
  obtain ⟨v, hb, ⟨A, c, rfl, hc, hr⟩, hne⟩ := h
  have q1 := hb.cell 0
  simp at q1
  have H := Lib.hid hb; clear hb
  go_enter Try.func13, Try.ntmps13
  go_wp2
  exact ⟨rfl, rfl, World.grownBy.refl w _⟩

theorem Far.cut {g B : Nat} {A : Option Addr} {n c i n' c' : Nat} (h : Far g B (.slice A n c)) : Far g B (.slice (if c = i then A else A.map (·.add i)) n' c') := by
  intro D m d e
  injection e with e1 e2 e3
  split at e1
  · subst e1; exact h D n c rfl
  · rcases A with _ | A
    · cases e1
    · injection e1 with e1
      subst e1
      rw [block_of_add]; exact h A n c rfl

set_option maxRecDepth 100000 in
set_option maxHeartbeats 1000000 in
theorem byte_yes (g B : Nat) (x : Int) (r : List Int) (w : World) (h : IsR w g B (x :: r)) (hlen : r.length ≤ 1000000000) :
    Calls Try.prog 13 #[.pointer (some ⟨g, 0, none⟩)] w (RdYes g B (.int .u8 x) r w) := by
  obtain ⟨v, hb, hr, hne⟩ := h
  have hr' := hr
  obtain ⟨A, c, rfl, hc, -⟩ := hr
  obtain ⟨-, ad, x', rfl, hx, cell0⟩ := hr'.at_ (i := 0) (by simp)
  obtain rfl : x' = x := by simpa using hx.symm
  have cell0' : w.cell? ad = some (.int .u8 x') := cell0
  have q1 := hb.cell 0
  have q3 := hb.frozen 0
  obtain ⟨n, hn⟩ : ∃ n, n = r.length := ⟨_, rfl⟩
  have hl : (x' :: r).length = n + 1 := by rw [hn]; rfl
  rw [hl] at hr' hne q1 hb hc
  have hcut := hr'.slice_ (i := 1) (j := n + 1) (by omega) (Nat.le_refl _)
  have e2 : ((x' :: r).drop 1).take (n + 1 - 1) = r := by rw [hn]; simp
  rw [e2, Nat.add_sub_cancel] at hcut
  have i1 : ((n : Int) + 1 == 0) = false := by simp; omega
  have i2 : (0 : Int) < (n : Int) + 1 := by omega
  have hfar := hne.cut (i := 1) (n' := n) (c' := c - 1)
  have hA : (some ad).map (·.add 1) = some ⟨ad.block, ad.off + 1, none⟩ := rfl
  rw [hA] at hcut hfar
  obtain ⟨V, hV⟩ : ∃ V, V = (if c = 1 then some ad else some (⟨ad.block, ad.off + 1, none⟩ : Addr)) := ⟨_, rfl⟩
  rw [← hV] at hcut hfar
  have hset := hb.set_ 0 (.slice V n (c - 1))
  simp at q1
  have HC := Lib.hid hcut; have HF := Lib.hid hfar; have HS := Lib.hid hset
  have hpost : RdYes g B (.int .u8 x') r w (.returned (.int .u8 x')) (w.setCell ⟨g, 0, none⟩ (.slice V n (c - 1))) :=
    ⟨rfl, ⟨_, HS.out, ri_but HC.out (fun A' n' c' e => (HF.out A' n' c' e).1) (gb_set (World.grownBy.refl w _) rfl _), HF.out⟩, gb_set (World.grownBy.refl w _) rfl _⟩
  have HP := Lib.hid hpost
  clear hpost hb hcut hfar hset hx hr' hne e2 hn cell0 hl hA HC HF HS
  by_cases hc1 : c = 1
  · rw [if_pos hc1] at hV
    subst hV
    go_enter Try.func13, Try.ntmps13
    go_wp2
    go_ret
    have := HP.out
    subst hc1
    exact this
  · rw [if_neg hc1] at hV
    subst hV
    go_enter Try.func13, Try.ntmps13
    go_wp2
    go_ret
    exact HP.out

set_option maxRecDepth 100000 in
set_option maxHeartbeats 1000000 in
theorem must_yes (g B : Nat) (x : Int) (r : List Int) (w : World) (h : IsR w g B (x :: r)) (hlen : r.length ≤ 1000000000) :
    Calls Try.prog 12 #[.pointer (some ⟨g, 0, none⟩), .int .u8 x] w (RdYes g B (.tuple #[]) r w) := by
  have hx : (x != x) = false := by simp
  go_enter Try.func12, Try.ntmps12
  go_wp2_with fail
  refine (byte_yes g B x r w h hlen).mono ?_
  rintro e w1 ⟨rfl, hr, hb⟩
  go_wp2
  go_end0
  exact ⟨rfl, hr, hb⟩

set_option maxRecDepth 100000 in
set_option maxHeartbeats 1000000 in
theorem must_no (g B : Nat) (x : Int) (l : List Int) (w : World) (h : IsR w g B l) (hlen : l.length ≤ 1000000000) (hne : l.head? ≠ some x) :
    Calls Try.prog 12 #[.pointer (some ⟨g, 0, none⟩), .int .u8 x] w (RdNo g w) := by
  rcases l with _ | ⟨y, r⟩
  · go_enter Try.func12, Try.ntmps12
    go_wp2_with fail
    refine (byte_no g B w h).mono ?_
    rintro e w1 ⟨rfl, hb⟩
    exact ⟨rfl, rfl, hb⟩
  · have hx : (y != x) = true := by
      simp at hne ⊢; exact hne
    clear hne
    go_enter Try.func12, Try.ntmps12
    go_wp2_with fail
    refine (byte_yes g B y r w h (by simp at hlen; omega)).mono ?_
    rintro e w1 ⟨rfl, hr, hb⟩
    go_wp2
    exact ⟨rfl, rfl, hb⟩

theorem IsR.below {w w' : World} {g B : Nat} {l : List Int} (h : IsR w g B l) (hb : Below w.heap.size w w') : IsR w' g B l := by
  obtain ⟨v, h1, h2, h3⟩ := h
  exact ⟨v, h1.below hb h1.lt, h2.below hb, h3⟩
theorem But.below {w w' : World} {g : Nat} (h : But g w w') {x : World} (hb : Below w'.heap.size w' x) : But g w x := gb_below h hb
theorem But.of_below {w w' : World} (g : Nat) (h : Below w.heap.size w w') : But g w w' := below_gb h _
theorem But.trans {a b c : World} {g : Nat} (h : But g a b) (k : But g b c) : But g a c := World.grownBy.trans h k

theorem IsR.but {w w' : World} {g B q : Nat} {l : List Int} (h : IsR w g B l) (hq : B ≤ q) (hqg : g ≠ q) (hb : w.grownBy w' (some q)) : IsR w' g B l := by
  obtain ⟨v, h1, h2, h3⟩ := h
  refine ⟨v, h1.grown hb (by simpa using hqg), ?_, h3⟩
  exact ri_but (g := q) h2 (fun A n c e => by have := (h3 A n c e).2; omega) hb
theorem But.new {g q : Nat} {w x y : World} (h : But g w x) (hx : x.grownBy y (some q)) (hq : w.heap.size ≤ q) : But g w y :=
  ⟨hx.os.trans h.os, hx.tape.trans h.tape, hx.output.trans h.output, Nat.le_trans h.size hx.size, fun k hk hne =>
    (hx.block k (Nat.lt_of_lt_of_le hk h.size) (by simp; omega)).trans (h.block k hk hne)⟩

set_option maxRecDepth 100000 in
set_option maxHeartbeats 1000000 in
theorem integer_no1 (g B : Nat) (l : List Int) (w : World) (h : IsR w g B l) (hlen : l.length ≤ 1000000000) (hne : l.head? ≠ some 2) :
    Calls Try.prog 14 #[.pointer (some ⟨g, 0, none⟩)] w (RdNo g w) := by
  have HN := Lib.hid hne; clear hne
  go_enter Try.func14, Try.ntmps14
  go_wp2_with fail
  refine (must_no g B 2 l _ (h.below ((Below.refl _ _).alloc (Nat.le_refl _) _)) hlen HN.out).mono ?_
  rintro e w1 ⟨rfl, hb⟩
  exact ⟨rfl, rfl, (But.of_below g ((Below.refl _ _).alloc (Nat.le_refl _) _)).trans hb⟩

set_option maxRecDepth 100000 in
set_option maxHeartbeats 1000000 in
theorem integer_no2 (g B : Nat) (w : World) (h : IsR w g B [2]) :
    Calls Try.prog 14 #[.pointer (some ⟨g, 0, none⟩)] w (RdNo g w) := by
  go_enter Try.func14, Try.ntmps14
  go_wp2_with fail
  refine (must_yes g B 2 [] _ (h.below ((Below.refl _ _).alloc (Nat.le_refl _) _)) (by simp)).mono ?_
  rintro e w1 ⟨rfl, hr, hb⟩
  go_wp2_with fail
  refine (byte_no g B w1 hr).mono ?_
  rintro e w2 ⟨rfl, hb2⟩
  exact ⟨rfl, rfl, ((But.of_below g ((Below.refl _ _).alloc (Nat.le_refl _) _)).trans hb).trans hb2⟩

set_option maxRecDepth 100000 in
set_option maxHeartbeats 2000000 in
theorem integer_no3 (g B : Nat) (n : Int) (r : List Int) (w : World) (h : IsR w g B (2 :: n :: r)) (hn0 : 0 ≤ n) (hn1 : n < 256) (hlen : r.length ≤ 1000000) (hbad : n < 1 ∨ 33 < n ∨ (r.length : Int) < n) :
    Calls Try.prog 14 #[.pointer (some ⟨g, 0, none⟩)] w (RdNo g w) := by
  have HB := Lib.hid hbad; clear hbad
  go_enter Try.func14, Try.ntmps14
  go_wp2_with fail
  refine (must_yes g B 2 (n :: r) _ (h.below ((Below.refl _ _).alloc (Nat.le_refl _) _)) (by simp; omega)).mono ?_
  rintro e w1 ⟨rfl, hr, hb⟩
  go_wp2_with fail
  refine (byte_yes g B n r w1 hr (by omega)).mono ?_
  rintro e w2 ⟨rfl, hr2, hb2⟩
  have hbut := ((But.of_below g ((Below.refl _ _).alloc (Nat.le_refl _) _)).trans hb).trans hb2
  obtain ⟨v, hblk, ⟨A, c, rfl, hc, -⟩, -⟩ := hr2
  have q1 := hblk.cell 0
  simp at q1
  clear hr hb hb2 hblk
  rcases HB.out with h1 | h1 | h1
  · go_wp2
    exact ⟨rfl, rfl, hbut⟩
  · have h2 : ¬ (n < 1) := by omega
    go_wp2
    exact ⟨rfl, rfl, hbut⟩
  · by_cases h2 : n < 1
    · go_wp2
      exact ⟨rfl, rfl, hbut⟩
    · by_cases h3 : 33 < n
      · go_wp2
        exact ⟨rfl, rfl, hbut⟩
      · go_wp2
        exact ⟨rfl, rfl, hbut⟩

set_option maxRecDepth 100000 in
set_option maxHeartbeats 4000000 in
theorem integer_no4 (g B m : Nat) (r : List Int) (w : World) (h : IsR w g B (2 :: (m : Int) :: r)) (hlen : r.length ≤ 1000000) (hm1 : 1 ≤ m) (hm2 : m ≤ 33) (hm3 : m ≤ r.length) (hbad : badI (r.take m)) :
    Calls Try.prog 14 #[.pointer (some ⟨g, 0, none⟩)] w (RdNo g w) := by
  have HB := Lib.hid hbad; clear hbad
  go_enter Try.func14, Try.ntmps14
  go_wp2_with fail
  refine (must_yes g B 2 (m :: r) _ (h.below ((Below.refl _ _).alloc (Nat.le_refl _) _)) (by simp; omega)).mono ?_
  rintro e w1 ⟨rfl, hr, hb⟩
  go_wp2_with fail
  refine (byte_yes g B m r w1 hr (by omega)).mono ?_
  rintro e w2 ⟨rfl, hr2, hb2⟩
  have hbut := ((But.of_below g ((Below.refl _ _).alloc (Nat.le_refl _) _)).trans hb).trans hb2
  obtain ⟨v, hblk, hri, hfar⟩ := hr2
  have hri' := hri
  obtain ⟨A, c, rfl, hc, -⟩ := hri
  have q1 := hblk.cell 0
  have q3 := hblk.frozen 0
  simp at q1
  have t1 := hri'.take (m := m) hm3
  have t2 := hri'.slice_ (i := m) (j := r.length) hm3 (Nat.le_refl _)
  obtain ⟨-, ad, x0, rfl, hx0, c0⟩ := t1.at_ (i := 0) (by simp; omega)
  have c0' : w2.cell? ad = some (.int .u8 x0) := c0
  have g0 : (r.take m).getD 0 0 = x0 := by simp [List.getD, hx0]
  have hadg : ad.block ≠ g := (hfar ad _ _ rfl).1
  have q5 : ∀ X, (w2.setCell ⟨g, 0, none⟩ X).cell? ad = some (.int .u8 x0) := fun X =>
    (World.cell?_setCell_other w2 ⟨g, 0, none⟩ ad X (fun e => hadg (congrArg Addr.block e).symm)).trans c0'
  have q6 : 1 < m → ∃ x1, (r.take m).getD 1 0 = x1 ∧ ∀ X, (w2.setCell ⟨g, 0, none⟩ X).cell? ⟨ad.block, ad.off + 1, none⟩ = some (.int .u8 x1) := by
    intro h1
    obtain ⟨-, ad', x1, e, hx1, c1⟩ := t1.at_ (i := 1) (by simp; omega)
    injection e with e
    subst e
    exact ⟨x1, by simp [List.getD, hx1], fun X => (World.cell?_setCell_other w2 ⟨g, 0, none⟩ ⟨ad.block, ad.off + 1, none⟩ X (fun e => hadg (congrArg Addr.block e).symm)).trans c1⟩
  have i1 : (m : Int) < 1 ↔ False := ⟨fun h => by omega, False.elim⟩
  have i2 : (33 : Int) < m ↔ False := ⟨fun h => by omega, False.elim⟩
  have i3 : (r.length : Int) < m ↔ False := ⟨fun h => by omega, False.elim⟩
  have i4 : (m : Int) ≤ r.length := by omega
  have i5 : (m : Int) ≤ c := by omega
  have i6 : (r.length : Int) ≤ c := by omega
  have i7 : (0 : Int) < m := by omega
  have HB2 := HB.out
  unfold badI at HB2
  rw [g0] at HB2
  have hml : (r.take m).length = m := by simp; omega
  rw [hml] at HB2
  have HBUT := Lib.hid hbut; have HQ6 := Lib.hid q6; have HG0 := Lib.hid g0
  clear t1 t2 hr hri' hb hb2 hbut hblk hfar hx0 g0 c0 q6 hml
  rcases HB2 with h1 | ⟨h1, h2, h3⟩ | ⟨h1, h2⟩
  · have d1 : decide ((128 : Int) ≤ x0) = true := by simpa using h1
    go_wp2_with fail
    all_goals exact ⟨rfl, rfl, gb_set HBUT.out rfl _⟩
  · obtain ⟨x1, g1, q7⟩ := HQ6.out h1
    rw [g1] at h3
    have d1 : decide ((128 : Int) ≤ x0) = false := by simp; omega
    have d2 : (x0 == 0) = true := by simpa using h2
    have d3 : (1 : Int) < m := by omega
    clear h1 h2 g1
    go_wp2_with fail
    all_goals exact ⟨rfl, rfl, gb_set HBUT.out rfl _⟩
  · obtain ⟨x1, g1, q7⟩ := HQ6.out (by omega)
    subst h1
    have d2 : (x0 == 0) = false := by simpa using h2
    have d4 : (x0 != 0) = true := by simpa using h2
    by_cases h128 : (128 : Int) ≤ x0
    · have d1 : decide ((128 : Int) ≤ x0) = true := by simpa using h128
      clear g1 h128
      go_wp2_with fail
      all_goals exact ⟨rfl, rfl, gb_set HBUT.out rfl _⟩
    · have d1 : decide ((128 : Int) ≤ x0) = false := by simpa using h128
      clear g1 h128
      go_wp2_with fail
      all_goals exact ⟨rfl, rfl, gb_set HBUT.out rfl _⟩

end Go.Proofs.Yteicdkknciljhaa
