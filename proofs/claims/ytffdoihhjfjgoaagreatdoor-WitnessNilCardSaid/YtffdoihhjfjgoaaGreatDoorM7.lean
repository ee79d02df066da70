import Derived.Test.YtffdoihhjfjgoaaGreatDoorM6
import Derived.Test.YtffdoihhjfjgoaaGreatDoorM1
/- Loops, as the walks use them. -/
namespace Go.Ab
open Go Go.Chr Go.RowKit
inductive Path : Type 1 where
 | slot (t : Nat) (z : Option (TypeId × Nat × Body) := none)
 | blk (b off : Nat) (z : Option (TypeId × Nat × Body) := none)
 | optr (t esz : Nat) (z : Nat → List Blk')
 | zero (t : Nat) (v : CV)
 | zblk (b off : Nat) (v : CV)
def emptyB (e : Nat) : Body → Bool
 | .ints _ [] => Nat.beq e 1
 | .rows _ [] => true
 | .els [] => true
 | _ => false
def heapD (h : Heap) : Option Nat → Heap
 | some b => delK b h
 | none => h
def reVal (st : St) (z : Option (TypeId × Nat × Body)) : AV → Option (Option (Option Nat × Blk' × AV))
 | .sub b e i n => match getK st.h b with
  | some (.cells ty e' body) => bif Nat.beq e e' then some (some (some b, .cells ty e (cutB i n body), .own st.nx e n)) else none
  | _ => none
 | .c (.raw (.slice none 0 0)) => match z with
  | some (ty, e, body) => bif emptyB e body then some (some (none, .cells ty e body, .own st.nx e 0)) else none
  | none => some none
 | _ => some none
def reS (st : St) (t : Nat) (z : Option (TypeId × Nat × Body)) : Option St := match getK st.sl t with
 | some v => match reVal st z v with
  | some (some (d, nb, u)) => some ⟨setK t u st.sl, setK st.nx nb (heapD st.h d), st.nx + 1, st.nt⟩
  | some none => some st
  | none => none
 | none => none
def isB (b : Nat) : Option Nat → Bool
 | some c => Nat.beq b c
 | none => false
def reB (st : St) (b0 off : Nat) (z : Option (TypeId × Nat × Body)) : Option St := match getK st.h b0 with
 | some (.cells ty0 e0 (.els [v])) => match subT v off 1 with
  | some x => match reVal st z x with
   | some (some (d, nb, u)) => bif !isB b0 d && Nat.ble (off + 1) v.size then (match setT (expandA v) off u with
     | some v' => some ⟨st.sl, setK b0 (.cells ty0 e0 (.els [v'])) (setK st.nx nb (heapD st.h d)), st.nx + 1, st.nt⟩
     | none => none) else none
   | some none => some st
   | none => none
  | none => none
 | some _ => some st
 | none => none
def phB : Blk' → Bool
 | .opt alive _ _ _ => !alive
 | .cells _ e body => emptyB e body
 | .map _ _ => false
def addPh (st : St) : List Blk' → Option St
 | [] => some st
 | b :: l => bif phB b then addPh ⟨st.sl, setK st.nx b st.h, st.nx + 1, st.nt⟩ l else none
def nilL' {α : Type 1} : List α → Bool
 | [] => true
 | _ => false
def reP (st : St) (t esz : Nat) (z : Nat → List Blk') : Option St := match getK st.sl t with
 | some (.ptr (.l b) 0 e 0) => match getK st.h b with
  | some (.cells ty e' body) => bif Nat.beq e e' && (Nat.ble 1 body.len && Nat.ble 1 e) then some ⟨setK t (.hd (.opt e) b) st.sl, setK b (.opt true ty e' body) st.h, st.nx, st.nt⟩ else none
  | _ => none
 | some (.c (.raw (.pointer none))) => bif nilL' (z st.nx) then none else (match addPh st (z st.nx) with
  | some st' => some ⟨setK t (.hd (.opt esz) st.nx) st'.sl, st'.h, st'.nx, st'.nt⟩
  | none => none)
 | some _ => some st
 | none => none
def emptyC : CV → Bool
 | .ints _ [] => true
 | .rows _ _ [] => true
 | _ => false
def reZ (st : St) (t : Nat) (v : CV) : Option St := match getK st.sl t with
 | some (.c (.raw (.slice none 0 0))) => bif emptyC v then some ⟨setK t (.c v) st.sl, st.h, st.nx, st.nt⟩ else none
 | some _ => some st
 | none => none
def reZB (st : St) (b0 off : Nat) (v : CV) : Option St := match getK st.h b0 with
 | some (.cells ty e (.els [u])) => match subT u off 1 with
  | some (.c (.raw (.slice none 0 0))) => bif emptyC v && Nat.ble (off + 1) u.size then (match setT (expandA u) off (.c v) with
   | some u' => some ⟨st.sl, setK b0 (.cells ty e (.els [u'])) st.h, st.nx, st.nt⟩
   | none => none) else none
  | some _ => some st
  | none => none
 | some _ => some st
 | none => none
def re1 (st : St) : Path → Option St
 | .zero t v => reZ st t v
 | .zblk b off v => reZB st b off v
 | .optr t esz z => reP st t esz z
 | .slot t z => reS st t z
 | .blk b0 off z => reB st b0 off z
def reown : List Path → St → Option St
 | [], st => some st
 | p :: ps, st => match re1 st p with
  | some st' => reown ps st'
  | none => none
def canonR (m : Nat) (ps : List Path) (ls : List Nat) (st : St) : Option St := match reown ps st with
 | some st' => canon m ls st'
 | none => none
section
variable {C : Ctx} {X : Snap}
theorem sub_own {ι : Nat → Option Loc} {N : Nat → Prop} {w : World} {b e i n : Nat} {cs : List Value} {L : Loc} {ty : TypeId} {body : Body} (hL : ι b = some L) (hb : BlkRel ι N w L (.cells ty e body)) (hs : (AV.sub b e i n).rel ι N w cs) :
  ∃ L', (L'.ph = false → L.ph = false ∧ L'.blk = L.blk) ∧ BlkRel ι N w L' (.cells ty e (cutB i n body)) ∧ ∀ (ι' : Nat → Option Loc) (k : Nat), ι' k = some L' → (AV.own k e n).rel ι' N w cs := by
 obtain ⟨L2, h1, hin, hs⟩ := hs
 rw [hL] at h1; injection h1 with h1; subst h1
 have hlen := BlkRel.len hb
 have ph : ∀ (A : Option Addr), n = 0 → cs = [.slice A 0 0] → (∃ xs, body.rel ι N w e xs) → ∃ L', (L'.ph = false → L.ph = false ∧ L'.blk = L.blk) ∧ BlkRel ι N w L' (.cells ty e (cutB i n body)) ∧ ∀ (ι' : Nat → Option Loc) (k : Nat), ι' k = some L' → (AV.own k e n).rel ι' N w cs := by
  rintro A rfl rfl ⟨xs, hx⟩
  have h2 := cutB_rel (i := i) (n := 0) hx
  simp only [Nat.zero_mul, List.take_zero] at h2
  exact ⟨⟨0, 0, 0, 0, true⟩, (fun h => by cases h), .inl ⟨rfl, h2, cutB_len (by omega), rfl⟩, fun ι' k hk => ⟨_, hk, rfl, .inl ⟨rfl, rfl, A, rfl⟩⟩⟩
 have hbody : ∃ xs, body.rel ι N w e xs := by
  rcases hb with ⟨_, h, _⟩ | ⟨_, _, xs, _, h, _⟩
  ·exact ⟨[], h⟩
  ·exact ⟨xs, h.2.2.1⟩
 rcases hs with ⟨_, h0, A, rfl⟩ | ⟨hph, A, c, rfl, hc, hAb, hAs, hA⟩
 ·exact ph A h0 rfl hbody
 ·rcases Nat.eq_zero_or_pos c with h0 | h0
  ·subst h0
   have hn : n = 0 := by omega
   subst hn
   exact ph (some A) rfl rfl hbody
  ·obtain ⟨a1, a2⟩ := hA h0
   rcases hb with ⟨hp', _⟩ | ⟨_, pre, xs, post, hl, ht⟩
   ·rw [hph] at hp'; cases hp'
   ·have hx := hl.2.2.1
    have hxl := hx.len
    have hbl := hl.2.2.2
    have hcut := cutB_rel (i := i) (n := n) hx
    have h5 : i * e + n * e ≤ xs.length := by
     rw [hxl, ← Nat.add_mul]
     exact Nat.mul_le_mul_right _ (by omega)
    refine ⟨⟨L.blk, L.off + i * e, L.tot, n, false⟩, fun _ => ⟨hph, rfl⟩, .inr ⟨rfl, pre ++ xs.take (i * e), (xs.drop (i * e)).take (n * e), (xs.drop (i * e)).drop (n * e) ++ post, ⟨?_, ?_, hcut, cutB_len (by omega)⟩, ?_⟩, fun ι' k hk => ⟨_, hk, rfl, .inr ⟨rfl, c, ?_, hc, ?_⟩⟩⟩
    ·have : pre ++ xs.take (i * e) ++ ((xs.drop (i * e)).take (n * e) ++ ((xs.drop (i * e)).drop (n * e) ++ post)) = pre ++ (xs ++ post) := by
      rw [← List.append_assoc ((xs.drop (i * e)).take (n * e)), List.take_append_drop, List.append_assoc, ← List.append_assoc (xs.take (i * e)), List.take_append_drop]
     rw [this]; exact hl.1
    ·rw [List.length_append, hl.2.1, List.length_take]
     show L.off + min (i * e) xs.length = L.off + i * e
     omega
    ·rw [← ht]
     simp only [List.length_append, List.length_take, List.length_drop]
     omega
    ·rw [eta_addr hAb hAs a1]
    ·show L.off + i * e + c * e ≤ L.tot
     omega
theorem rel_new {st : St} {ι : Nat → Option Loc} {N : Nat → Prop} {a : Act} {w : World} (H : Rel C X ι N st a w) (L' : Loc) : (∀ b L, ι b = some L → addι ι st.nx L' b = some L) := by
 intro b L h
 have : b < st.nx := H.fresh b L h
 unfold addι
 rw [if_neg (by omega)]; exact h
theorem empty_rel {ι : Nat → Option Loc} {N : Nat → Prop} {w : World} {e : Nat} : ∀ {b : Body}, emptyB e b = true → b.rel ι N w e [] ∧ b.len = 0
 | .ints _ [], h => ⟨⟨beqN h, rfl, fun x hx => by cases hx⟩, rfl⟩
 | .rows _ [], _ => ⟨rfl, rfl⟩
 | .els [], _ => ⟨rfl, rfl⟩
 | .ints _ (_ :: _), h => by cases h
 | .rows _ (_ :: _), h => by cases h
 | .els (_ :: _), h => by cases h
theorem re_core {st : St} {ι : Nat → Option Loc} {N : Nat → Prop} {a : Act} {w : World} (H : Rel C X ι N st a w) (d : Option Nat) (L' : Loc) (nb : Blk') (hnb : BlkRel ι N w L' nb)
  (hp : L'.ph = false → ∃ b L blk, d = some b ∧ getK st.h b = some blk ∧ ι b = some L ∧ L.ph = false ∧ L'.blk = L.blk) :
  Rel C X (addι ι st.nx L') N ⟨st.sl, setK st.nx nb (heapD st.h d), st.nx + 1, st.nt⟩ a w := by
 have hold := rel_new H L'
 have hdel : ∀ b blk, getK (heapD st.h d) b = some blk → getK st.h b = some blk ∧ d ≠ some b := by
  intro b blk h
  cases d with
  | none => exact ⟨h, fun e => by cases e⟩
  | some c =>
   have h : getK (delK c st.h) b = some blk := h
   rw [getK_delK] at h
   split at h
   ·cases h
   ·rename_i hc; exact ⟨h, fun e => by injection e with e; exact hc e⟩
 have hget : ∀ b blk, getK (setK st.nx nb (heapD st.h d)) b = some blk → (b = st.nx ∧ blk = nb) ∨ (b ≠ st.nx ∧ getK st.h b = some blk ∧ d ≠ some b) := by
  intro b blk h
  rw [getK_setK] at h
  split at h
  ·rename_i e; injection h with h; exact .inl ⟨e.symm, h.symm⟩
  ·rename_i e; obtain ⟨h1, h2⟩ := hdel b blk h; exact .inr ⟨fun e2 => e e2.symm, h1, h2⟩
 refine ⟨fun s v hs => (H.slots s v hs).mono hold (fun _ h => h) (fun _ _ => rfl), ?_, ?_, H.env, ?_, H.n0, H.nN, fun b' L2 h => hold b' L2 (H.i0 b' L2 h), H.upd, H.size, H.ds⟩
 ·intro b blk h
  rcases hget b blk h with ⟨rfl, rfl⟩ | ⟨_, h, _⟩
  ·refine ⟨L', by simp [addι], hnb.mono hold (fun _ h => h) (fun _ _ => rfl) (fun _ => rfl), fun hph => ?_⟩
   obtain ⟨b, L, blk, rfl, h1, h2, h3, h4⟩ := hp hph
   obtain ⟨L2, m1, _, m3⟩ := H.blks b blk h1
   rw [h2] at m1; injection m1 with m1; subst m1
   rw [h4]; exact m3 h3
  ·obtain ⟨L2, m1, m2, m3⟩ := H.blks b blk h
   exact ⟨L2, hold _ _ m1, m2.mono hold (fun _ h => h) (fun _ _ => rfl) (fun _ => rfl), m3⟩
 ·have hnm : ∀ b' blk L2, getK (setK st.nx nb (heapD st.h d)) b' = some blk → addι ι st.nx L' b' = some L2 → L2.ph = false →
    ∃ b'' blk'' L3, getK st.h b'' = some blk'' ∧ ι b'' = some L3 ∧ L3.ph = false ∧ L3.blk = L2.blk ∧ ((b' = st.nx ∧ d = some b'') ∨ (b' ≠ st.nx ∧ d ≠ some b' ∧ b'' = b')) := by
   intro b' blk L2 hg h2 hp2
   rcases hget b' blk hg with ⟨rfl, rfl⟩ | ⟨n1, hg, n3⟩
   ·have h2 : L' = L2 := by simpa [addι] using h2
    subst h2
    obtain ⟨b, L, blk, h0, h1, h2, h3, h4⟩ := hp hp2
    exact ⟨b, blk, L, h1, h2, h3, h4.symm, .inl ⟨rfl, h0⟩⟩
   ·unfold addι at h2
    rw [if_neg n1] at h2
    exact ⟨_, _, L2, hg, h2, hp2, rfl, .inr ⟨n1, n3, rfl⟩⟩
  intro b1 b2 blk1 blk2 L1 L2 hg1 hg2 hne h1 h2 hp1 hp2
  obtain ⟨c1', d1, M1, g1, i1, r1, e1, o1⟩ := hnm b1 blk1 L1 hg1 h1 hp1
  obtain ⟨c2', d2, M2, g2, i2, r2, e2, o2⟩ := hnm b2 blk2 L2 hg2 h2 hp2
  rw [← e1, ← e2]
  refine H.inj c1' c2' d1 d2 M1 M2 g1 g2 ?_ i1 i2 r1 r2
  rcases o1 with ⟨u1, u2⟩ | ⟨u1, u2, u3⟩ <;> rcases o2 with ⟨v1, v2⟩ | ⟨v1, v2, v3⟩
  ·exact absurd (u1.trans v1.symm) hne
  ·rw [v3]; exact fun e => v2 (by rw [← e]; exact u2)
  ·rw [u3]; exact fun e => u2 (by rw [e]; exact v2)
  ·rw [u3, v3]; exact hne
 ·intro b' L2 h2
  unfold addι at h2
  split at h2
  ·rename_i eb; subst eb; show st.nx < st.nx + 1; omega
  ·have := H.fresh b' L2 h2
   show b' < st.nx + 1; omega
theorem slot_core {st : St} {ι : Nat → Option Loc} {N : Nat → Prop} {a : Act} {w : World} (H : Rel C X ι N st a w) {t : Nat} {u : AV} (hu : u.val ι N w (a.tmps.getD t undef)) : Rel C X ι N ⟨setK t u st.sl, st.h, st.nx, st.nt⟩ a w := by
 refine ⟨?_, H.blks, H.inj, H.env, H.fresh, H.n0, H.nN, H.i0, H.upd, H.size, H.ds⟩
 intro s v hs
 have hs : getK (setK t u st.sl) s = some v := hs
 rw [getK_setK] at hs
 split at hs
 ·rename_i e; injection hs with hs; subst hs; subst e; exact hu
 ·exact H.slots s v hs
theorem blk_core {st : St} {ι : Nat → Option Loc} {N : Nat → Prop} {a : Act} {w : World} (H : Rel C X ι N st a w) {b : Nat} {blk blk' : Blk'} (hb : getK st.h b = some blk) (h : ∀ L, ι b = some L → BlkRel ι N w L blk → BlkRel ι N w L blk') : Rel C X ι N ⟨st.sl, setK b blk' st.h, st.nx, st.nt⟩ a w := by
 have hget : ∀ c x, getK (setK b blk' st.h) c = some x → ∃ y, getK st.h c = some y ∧ (c = b ∧ x = blk' ∨ c ≠ b ∧ x = y) := by
  intro c x hx
  rw [getK_setK] at hx
  split at hx
  ·rename_i e; injection hx with hx; subst e; exact ⟨blk, hb, .inl ⟨rfl, hx.symm⟩⟩
  ·rename_i e; exact ⟨x, hx, .inr ⟨fun e2 => e e2.symm, rfl⟩⟩
 refine ⟨H.slots, ?_, ?_, H.env, H.fresh, H.n0, H.nN, H.i0, H.upd, H.size, H.ds⟩
 ·intro c x hx
  obtain ⟨y, hy, hc⟩ := hget c x hx
  obtain ⟨L, m1, m2, m3⟩ := H.blks c y hy
  rcases hc with ⟨rfl, rfl⟩ | ⟨_, rfl⟩
  ·rw [hb] at hy; injection hy with hy; subst hy
   exact ⟨L, m1, h L m1 m2, m3⟩
  ·exact ⟨L, m1, m2, m3⟩
 ·intro b1 b2 x1 x2 L1 L2 h1 h2 hne
  obtain ⟨y1, k1, _⟩ := hget b1 x1 h1
  obtain ⟨y2, k2, _⟩ := hget b2 x2 h2
  exact H.inj b1 b2 y1 y2 L1 L2 k1 k2 hne
theorem reVal_ok {st : St} {ι : Nat → Option Loc} {N : Nat → Prop} {a : Act} {w : World} (H : Rel C X ι N st a w) {z : Option (TypeId × Nat × Body)} {v u : AV} {d : Option Nat} {nb : Blk'} (h : reVal st z v = some (some (d, nb, u))) {x : Value} (hv : v.rel ι N w [x]) :
  (∃ L', BlkRel ι N w L' nb ∧ (L'.ph = false → ∃ b L blk, d = some b ∧ getK st.h b = some blk ∧ ι b = some L ∧ L.ph = false ∧ L'.blk = L.blk) ∧ ∀ (ι' : Nat → Option Loc), ι' st.nx = some L' → u.rel ι' N w [x]) ∧ u.isAgg = false ∧ u.size = 1 ∧ ∃ e n, u = .own st.nx e n := by
 unfold reVal at h
 split at h
 ·rename_i b e i n
  split at h
  ·rename_i ty e' body hb
   cases he : Nat.beq e e' with
   | false => rw [he] at h; cases h
   | true =>
   rw [he] at h
   have := beqN he; subst this
   injection h with h; injection h with h; injection h with h1 h2; injection h2 with h2 h3; subst h1; subst h2; subst h3
   obtain ⟨L, l1, l2, l3⟩ := H.blks b _ hb
   obtain ⟨L', k1, k2, k3⟩ := sub_own l1 l2 hv
   exact ⟨⟨L', k2, fun hph => ⟨b, L, _, rfl, hb, l1, (k1 hph).1, (k1 hph).2⟩, fun ι' hi => k3 ι' _ hi⟩, rfl, rfl, e, n, rfl⟩
  ·cases h
 ·split at h
  ·rename_i ty e body
   cases hem : emptyB e body with
   | false => rw [hem] at h; cases h
   | true =>
   rw [hem] at h
   injection h with h; injection h with h; injection h with h1 h2; injection h2 with h2 h3; subst h1; subst h2; subst h3
   obtain ⟨g1, g2⟩ := empty_rel (ι := ι) (N := N) (w := w) hem
   refine ⟨⟨⟨0, 0, 0, 0, true⟩, .inl ⟨rfl, g1, g2, rfl⟩, (fun hph => by cases hph), fun ι' hi => ⟨_, hi, rfl, .inl ⟨rfl, rfl, none, ?_⟩⟩⟩, rfl, rfl, e, 0, rfl⟩
   obtain ⟨hx, _⟩ : [x] = [Value.slice none 0 0] ∧ _ := hv
   exact hx
  ·cases h
 ·cases h
theorem phB_rel {ι : Nat → Option Loc} {N : Nat → Prop} {w : World} : ∀ {b : Blk'}, phB b = true → BlkRel ι N w ⟨0, 0, 0, 0, true⟩ b
 | .opt alive _ _ _, h => .inl ⟨by unfold phB at h; cases alive <;> simp_all, rfl⟩
 | .cells _ e body, h => .inl ⟨rfl, (empty_rel h).1, (empty_rel (ι := ι) (N := N) (w := w) h).2, rfl⟩
 | .map _ _, h => by cases h
theorem addPh_rel : ∀ {l : List Blk'} {st st' : St} {ι : Nat → Option Loc} {N : Nat → Prop} {a : Act} {w : World}, addPh st l = some st' → Rel C X ι N st a w →
  ∃ ι', Rel C X ι' N st' a w ∧ (∀ b L, ι b = some L → ι' b = some L) ∧ st'.sl = st.sl ∧ (l ≠ [] → ι' st.nx = some ⟨0, 0, 0, 0, true⟩)
 | [], st, st', ι, N, a, w, h, H => by
  injection h with h; subst h
  exact ⟨ι, H, fun _ _ h => h, rfl, fun h => absurd rfl h⟩
 | b :: l, st, st', ι, N, a, w, h, H => by
  unfold addPh at h
  cases hb : phB b with
  | false => rw [hb] at h; cases h
  | true =>
   rw [hb] at h
   simp only [cond_true] at h
   have H' := re_core H none ⟨0, 0, 0, 0, true⟩ b (phB_rel hb) (fun hph => by cases hph)
   obtain ⟨ι', H2, h2, h3, _⟩ := addPh_rel h H'
   refine ⟨ι', H2, fun c L hc => h2 c L (rel_new H _ c L hc), h3, fun _ => h2 _ _ (by simp [addι])⟩
theorem emptyC_val {ι : Nat → Option Loc} {N : Nat → Prop} {w : World} {v : CV} (h : emptyC v = true) : (AV.c v).val ι N w (.slice none 0 0) := by
 unfold emptyC at h
 split at h
 ·exact ⟨⟨none, 0, rfl, Nat.le_refl _, fun h => absurd h (by simp)⟩, fun x hx => by cases hx⟩
 ·exact ⟨[], rfl, none, 0, rfl, Nat.le_refl _, fun h => absurd h (by simp)⟩
 ·cases h
theorem re1_rel {st st' : St} {p : Path} {a : Act} {w : World} (h : re1 st p = some st') (H : SRel C X st a w) : SRel C X st' a w := by
 obtain ⟨ι, N, H⟩ := H
 cases p with
 | zblk b0 off v =>
  have h : reZB st b0 off v = some st' := h
  unfold reZB at h
  split at h
  ·rename_i ty e u hb0
   split at h
   ·rename_i hsub
    cases hc : emptyC v && Nat.ble (off + 1) u.size with
    | false => rw [hc] at h; cases h
    | true =>
    rw [hc] at h
    simp only [cond_true] at h
    simp only [Bool.and_eq_true] at hc
    have hoff := bleN hc.2
    split at h
    ·rename_i u' hset
     injection h with h; subst h
     refine ⟨ι, N, blk_core H hb0 fun L hL hr => ?_⟩
     rcases hr with ⟨_, _, q2, _⟩ | ⟨hph0, pre, xs, post, hl0, ht0⟩
     ·simp [Body.len] at q2
     obtain ⟨c1, c2, rfl, hcl, hv, rfl⟩ := hl0.2.2.1
     have hvr := subT_rel hv hoff hsub
     have hvl := hv.len
     have h1l : ((c1.drop off).take 1).length = 1 := by rw [List.length_take, List.length_drop]; omega
     obtain ⟨y, hy⟩ : ∃ y, (c1.drop off).take 1 = [y] := by
      match (c1.drop off).take 1, h1l with
      | [y], _ => exact ⟨y, rfl⟩
     rw [hy] at hvr
     obtain ⟨e1, _⟩ : [y] = [Value.slice none 0 0] ∧ _ := hvr
     have hz : (AV.c v).rel ι N w [y] := by
      rw [e1]
      have := emptyC_val (ι := ι) (N := N) (w := w) hc.1
      unfold AV.val at this
      have hag : (AV.c v).isAgg = false := by
       have h2 := hc.1
       unfold emptyC at h2
       split at h2
       ·rfl
       ·rfl
       ·cases h2
      rw [hag] at this
      exact this
     have hs1 : (AV.c v).size = 1 := by
      have := hz.len
      simpa using this.symm
     have hv' := setT_rel (expandA_rel hv) hz (by rw [expandA_size, hs1]; exact hoff) hset
     have hcells : c1.take off ++ ([y] ++ c1.drop (off + [y].length)) = c1 := by
      rw [← hy, h1l, ← List.drop_drop, List.take_append_drop, List.take_append_drop]
     rw [hcells] at hv'
     exact .inr ⟨hph0, pre, c1 ++ [], post, ⟨hl0.1, hl0.2.1, ⟨c1, [], rfl, hcl, hv', rfl⟩, hl0.2.2.2⟩, ht0⟩
    ·cases h
   ·injection h with h; subst h; exact ⟨ι, N, H⟩
   ·cases h
  ·injection h with h; subst h; exact ⟨ι, N, H⟩
  ·cases h
 | zero t v =>
  have h : reZ st t v = some st' := h
  unfold reZ at h
  split at h
  ·rename_i ht
   cases hv : emptyC v with
   | false => rw [hv] at h; cases h
   | true =>
    rw [hv] at h
    injection h with h; subst h
    refine ⟨ι, N, slot_core H ?_⟩
    obtain ⟨e1, _⟩ : [a.tmps.getD t undef] = [Value.slice none 0 0] ∧ _ := H.slots t _ ht
    injection e1 with e1 _
    rw [e1]
    exact emptyC_val hv
  ·injection h with h; subst h; exact ⟨ι, N, H⟩
  ·cases h
 | optr t esz z =>
  have h : reP st t esz z = some st' := h
  unfold reP at h
  split at h
  ·rename_i b e ht
   split at h
   ·rename_i ty e' body hb
    cases hc : Nat.beq e e' && (Nat.ble 1 body.len && Nat.ble 1 e) with
    | false => rw [hc] at h; cases h
    | true =>
     rw [hc] at h
     simp only [cond_true] at h
     injection h with h; subst h
     simp only [Bool.and_eq_true] at hc
     have hl := bleN hc.2.1
     obtain ⟨L, l1, l2, l3⟩ := H.blks b _ hb
     have hv := H.slots t _ ht
     obtain ⟨L', m1, m2, m3, m4⟩ := hv
     have m1 : ι b = some L' := m1
     rw [l1] at m1; injection m1 with m1; subst m1
     have hph : L.ph = false ∧ BlkRel ι N w L (.opt true ty e' body) := by
      rcases l2 with ⟨_, _, q, _⟩ | ⟨hp, q⟩
      ·omega
      ·exact ⟨hp, .inr ⟨rfl, hp, q⟩⟩
     refine ⟨ι, N, slot_core (st := ⟨st.sl, setK b (.opt true ty e' body) st.h, st.nx, st.nt⟩) (blk_core H hb fun L2 h2 _ => ?_) ?_⟩
     ·rw [l1] at h2; injection h2 with h2; subst h2; exact hph.2
     ·refine ⟨L, l1, .inr ⟨hph.1, by omega, m3, ?_⟩⟩
      rw [m4]; simp
   ·cases h
  ·rename_i ht
   cases hz : nilL' (z st.nx) with
   | true => rw [hz] at h; cases h
   | false =>
   rw [hz] at h
   simp only [cond_false] at h
   split at h
   ·rename_i s1 h1
    injection h with h; subst h
    obtain ⟨ι', H', h2, h3, h4⟩ := addPh_rel h1 H
    have hne : z st.nx ≠ [] := fun e => by rw [e] at hz; cases hz
    refine ⟨ι', N, slot_core H' ⟨_, h4 hne, .inl ⟨rfl, ?_⟩⟩⟩
    obtain ⟨e1, _⟩ : [a.tmps.getD t undef] = [Value.pointer none] ∧ _ := H.slots t _ ht
    exact e1
   ·cases h
  ·injection h with h; subst h; exact ⟨ι, N, H⟩
  ·cases h
 | slot t z =>
  have h : reS st t z = some st' := h
  unfold reS at h
  split at h
  ·rename_i v ht
   split at h
   ·rename_i d nb u hre
    injection h with h; subst h
    have hv := H.slots t _ ht
    have hag : v.isAgg = false := by
     unfold reVal at hre
     split at hre
     ·rfl
     ·rfl
     ·cases hre
    have hvr : v.rel ι N w [a.tmps.getD t undef] := by unfold AV.val at hv; rw [hag] at hv; exact hv
    obtain ⟨⟨L', k1, k2, k3⟩, hu, _⟩ := reVal_ok H hre hvr
    have H' := re_core H d L' nb k1 k2
    refine ⟨addι ι st.nx L', N, slot_core H' ?_⟩
    unfold AV.val
    rw [hu]
    exact k3 _ (by simp [addι])
   ·injection h with h; subst h; exact ⟨ι, N, H⟩
   ·cases h
  ·cases h
 | blk b0 off z =>
  have h : reB st b0 off z = some st' := h
  unfold reB at h
  split at h
  ·rename_i ty0 e0 v hb0
   split at h
   ·rename_i x hsub
    split at h
    ·rename_i d nb u hre
     cases hc : !isB b0 d && Nat.ble (off + 1) v.size with
     | false => rw [hc] at h; cases h
     | true =>
     rw [hc] at h
     simp only [cond_true] at h
     simp only [Bool.and_eq_true, Bool.not_eq_true'] at hc
     have hoff := bleN hc.2
     split at h
     ·rename_i v' hset
      injection h with h; subst h
      obtain ⟨L0, q1, q2, q3⟩ := H.blks b0 _ hb0
      rcases q2 with ⟨_, _, q2, _⟩ | ⟨hph0, pre, xs, post, hl0, ht0⟩
      ·simp [Body.len] at q2
      have hx := hl0.2.2.1
      obtain ⟨c1, c2, rfl, hcl, hv, rfl⟩ := hx
      have hvr := subT_rel hv hoff hsub
      have hvl := hv.len
      have h1l : ((c1.drop off).take 1).length = 1 := by rw [List.length_take, List.length_drop]; omega
      obtain ⟨y, hy⟩ : ∃ y, (c1.drop off).take 1 = [y] := by
       match (c1.drop off).take 1, h1l with
       | [y], _ => exact ⟨y, rfl⟩
      rw [hy] at hvr
      obtain ⟨⟨L', k1, k2, k3⟩, _, hus, _⟩ := reVal_ok H hre hvr
      have H' := re_core H d L' nb k1 k2
      have hold := rel_new H L'
      have hv2 : v.rel (addι ι st.nx L') N w c1 := hv.mono hold (fun _ h => h) (fun _ _ => rfl)
      have hv' := setT_rel (expandA_rel hv2) (k3 (addι ι st.nx L') (by simp [addι])) (by rw [expandA_size, hus]; exact hoff) hset
      have hcells : c1.take off ++ ([y] ++ c1.drop (off + [y].length)) = c1 := by
       rw [← hy, h1l, ← List.drop_drop, List.take_append_drop, List.take_append_drop]
      rw [hcells] at hv'
      have hb0lt : b0 ≠ st.nx := fun e => by have := H.fresh b0 L0 q1; omega
      have hb0' : getK (setK st.nx nb (heapD st.h d)) b0 = some (.cells ty0 e0 (.els [v])) := by
       rw [getK_setK, if_neg (fun e => hb0lt e.symm)]
       cases d with
       | none => exact hb0
       | some c =>
        show getK (delK c st.h) b0 = _
        rw [getK_delK, if_neg]
        ·exact hb0
        ·rintro rfl
         have h5 : Nat.beq c c = false := hc.1
         rw [Nat.beq_refl] at h5; cases h5
      refine ⟨addι ι st.nx L', N, blk_core H' hb0' fun L hL hr => ?_⟩
      unfold addι at hL
      rw [if_neg hb0lt, q1] at hL
      injection hL with hL; subst hL
      exact .inr ⟨hph0, pre, c1 ++ [], post, ⟨hl0.1, hl0.2.1, ⟨c1, [], rfl, hcl, hv', rfl⟩, hl0.2.2.2⟩, ht0⟩
     ·cases h
    ·injection h with h; subst h; exact ⟨ι, N, H⟩
    ·cases h
   ·cases h
  ·injection h with h; subst h; exact ⟨ι, N, H⟩
  ·cases h
theorem reown_rel : ∀ {ps : List Path} {st st' : St} {a : Act} {w : World}, reown ps st = some st' → SRel C X st a w → SRel C X st' a w
 | [], _, _, _, _, h, H => by injection h with h; subst h; exact H
 | p :: ps, st, st', a, w, h, H => by
  unfold reown at h
  split at h
  ·rename_i s hs; exact reown_rel h (re1_rel hs H)
  ·cases h
theorem canonR_rel {m : Nat} {ps : List Path} {ls : List Nat} {st st' : St} {a : Act} {w : World} (hX : ∀ b L, X.ι b = some L → b < m) (h : canonR m ps ls st = some st') (H : SRel C X st a w) : SRel C X st' a w := by
 unfold canonR at h
 split at h
 ·rename_i s hs; exact canon_rel hX h (reown_rel hs H)
 ·cases h
end
def loopAt (id : Nat) (fn : Func) : Code := (blockAt id (bodyOf' fn)).getD .skip
def rndAt (id : Nat) (fn : Func) : Code := inLoop (blockAt id (bodyOf' fn))
def loopW (m : Nat) (ps : List Path) (lsI : List Nat) (start : St) (p : Prop) (ret : Bool) (fin : St) : LoopC := fun st k => canonR m ps lsI st = some start ∧ p ∧ cond ret (k .ret fin) (k .normal fin)
def endK (m : Nat) (ps : List Path) (lsO lsR : List Nat) (ret : Bool) (fin : St) : Exit → St → Prop
 | .normal, st => ret = false ∧ canonR m ps lsO st = some fin
 | .ret, st => ret = true ∧ canonR m [] lsR st = some fin
 | _, _ => False
section
variable {C : Ctx} {X : Snap}
theorem loopW_ok {Γ : Tab} (hf : C.P.follows .mixedOrders = true) (hΓ : TabOk C Γ) {fn : Func} {id : Nat} (he : loopAt id fn = .loop (rndAt id fn)) {m : Nat} (hX : ∀ b L, X.ι b = some L → b < m)
  {ps : List Path} {lsI : List Nat} (lsO lsR : List Nat) {start fin : St} {p : Prop} {ret : Bool} {α : Type} (I : α → St) (P : α → Prop) (μ : α → Nat) (v0 : α) (hs : p → I v0 = start) (hp : p → P v0)
  (round : p → ∀ v, P v → Facts (I v) → ∃ cut fuel, Ev <| wpL C (opK C Γ) cut X fuel (rndAt id fn) (I v) (thenK (fun st' => ∃ v', canonR m ps lsI st' = some (I v') ∧ μ v' < μ v ∧ P v') (blockK id (endK m ps lsO lsR ret fin)))) :
  LOk C X id (loopAt id fn) (loopW m ps lsI start p ret fin) := by
 rw [he]
 rintro st k ⟨h1, h2, h3⟩
 rw [← hs h2] at h1
 have hw : ∀ v, P v → Walks C X (.block id (.loop (rndAt id fn))) (I v) (endK m ps lsO lsR ret fin) := by
  intro v hv
  refine walks_block ?_
  refine walks_loop (fun n st => ∃ v, μ v = n ∧ P v ∧ ∀ a w, SRel C X st a w → SRel C X (I v) a w) ?_ (μ v) (I v) ⟨v, rfl, hv, fun _ _ H => H⟩
  rintro n st ⟨v, rfl, hP, hrel⟩
  have hr : Walks C X (rndAt id fn) (I v) (thenK (fun st' => ∃ v', canonR m ps lsI st' = some (I v') ∧ μ v' < μ v ∧ P v') (blockK id (endK m ps lsO lsR ret fin))) :=
   walks_facts fun hfa => by
    obtain ⟨cut, fuel, h⟩ := round h2 v hP hfa
    replace h := h.out
    exact wpL_walks hf (opK_sound hΓ) fuel _ _ _ h
  intro a w H
  refine wp_mono (hr a w (hrel a w H)) ?_
  rintro e a' w' ⟨st', H', hk⟩
  refine ⟨st', H', ?_⟩
  cases e with
  | normal =>
   obtain ⟨v', e1, e2, e3⟩ := hk
   exact ⟨μ v', e2, v', rfl, e3, fun a w H => canonR_rel hX e1 H⟩
  | exit i => exact hk
  | goto l => exact hk
  | ret => exact hk
  | panic ch => exact hk
  | outgrown => exact hk
 intro a w H
 refine wp_mono (hw v0 (hp h2) a w (canonR_rel hX h1 H)) ?_
 rintro e a' w' ⟨st', H', hk⟩
 cases e with
 | normal =>
  obtain ⟨e1, e2⟩ := hk
  rw [e1] at h3
  exact ⟨fin, canonR_rel hX e2 H', h3⟩
 | ret =>
  obtain ⟨e1, e2⟩ := hk
  rw [e1] at h3
  exact ⟨fin, canonR_rel hX e2 H', h3⟩
 | exit i => exact hk.elim
 | goto l => exact hk.elim
 | panic ch => exact hk.elim
 | outgrown => exact hk.elim
def loopR (m : Nat) (ps : List Path) (lsI : List Nat) (start : St) (p : Prop) (ret : Bool) (fin finR : St) : LoopC := fun st k => canonR m ps lsI st = some start ∧ p ∧ cond ret (k .ret finR) (k .normal fin)
def endR (m : Nat) (ps psR : List Path) (lsO lsR : List Nat) (ret : Bool) (fin finR : St) : Exit → St → Prop
 | .normal, st => ret = false ∧ canonR m ps lsO st = some fin
 | .ret, st => ret = true ∧ canonR m psR lsR st = some finR
 | _, _ => False
theorem loopR_ok {Γ : Tab} (hf : C.P.follows .mixedOrders = true) (hΓ : TabOk C Γ) {fn : Func} {id : Nat} (he : loopAt id fn = .loop (rndAt id fn)) {m : Nat} (hX : ∀ b L, X.ι b = some L → b < m)
  {ps : List Path} (psR : List Path) {lsI : List Nat} (lsO lsR : List Nat) {start fin finR : St} {p : Prop} {ret : Bool} {α : Type} (I : α → St) (P : α → Prop) (μ : α → Nat) (v0 : α) (hs : p → I v0 = start) (hp : p → P v0)
  (round : p → ∀ v, P v → Facts (I v) → ∃ cut fuel, Ev <| wpL C (opK C Γ) cut X fuel (rndAt id fn) (I v) (thenK (fun st' => ∃ v', canonR m ps lsI st' = some (I v') ∧ μ v' < μ v ∧ P v') (blockK id (endR m ps psR lsO lsR ret fin finR)))) :
  LOk C X id (loopAt id fn) (loopR m ps lsI start p ret fin finR) := by
 rw [he]
 rintro st k ⟨h1, h2, h3⟩
 rw [← hs h2] at h1
 have hw : ∀ v, P v → Walks C X (.block id (.loop (rndAt id fn))) (I v) (endR m ps psR lsO lsR ret fin finR) := by
  intro v hv
  refine walks_block ?_
  refine walks_loop (fun n st => ∃ v, μ v = n ∧ P v ∧ ∀ a w, SRel C X st a w → SRel C X (I v) a w) ?_ (μ v) (I v) ⟨v, rfl, hv, fun _ _ H => H⟩
  rintro n st ⟨v, rfl, hP, hrel⟩
  have hr : Walks C X (rndAt id fn) (I v) (thenK (fun st' => ∃ v', canonR m ps lsI st' = some (I v') ∧ μ v' < μ v ∧ P v') (blockK id (endR m ps psR lsO lsR ret fin finR))) :=
   walks_facts fun hfa => by
    obtain ⟨cut, fuel, h⟩ := round h2 v hP hfa
    replace h := h.out
    exact wpL_walks hf (opK_sound hΓ) fuel _ _ _ h
  intro a w H
  refine wp_mono (hr a w (hrel a w H)) ?_
  rintro e a' w' ⟨st', H', hk⟩
  refine ⟨st', H', ?_⟩
  cases e with
  | normal =>
   obtain ⟨v', e1, e2, e3⟩ := hk
   exact ⟨μ v', e2, v', rfl, e3, fun a w H => canonR_rel hX e1 H⟩
  | exit i => exact hk
  | goto l => exact hk
  | ret => exact hk
  | panic ch => exact hk
  | outgrown => exact hk
 intro a w H
 refine wp_mono (hw v0 (hp h2) a w (canonR_rel hX h1 H)) ?_
 rintro e a' w' ⟨st', H', hk⟩
 cases e with
 | normal =>
  obtain ⟨e1, e2⟩ := hk
  rw [e1] at h3
  exact ⟨fin, canonR_rel hX e2 H', h3⟩
 | ret =>
  obtain ⟨e1, e2⟩ := hk
  rw [e1] at h3
  exact ⟨finR, canonR_rel hX e2 H', h3⟩
 | exit i => exact hk.elim
 | goto l => exact hk.elim
 | panic ch => exact hk.elim
 | outgrown => exact hk.elim
def exitR (C : Ctx) (fn : Func) (m : Nat) (ps : List Path) (o : Out) (e : Exit) (st : St) : Prop := match reown ps st with
 | some st' => exitK C fn m o e st'
 | none => False
theorem fnOkR {f : FuncId} {F : FSpec} {Γ : Tab} {fn : Func} {c : Code} (ps : List Path) (hf : C.P.follows .mixedOrders = true) (hΓ : TabOk C Γ) (h1 : C.P.funcs[f]? = some fn) (h2 : fn.body = some c) (h3 : (fn.name == "runtime.NumGoroutine") = false)
  (h : ∀ as bl p o, F as bl = some (p, o) → Asked p → as.length ≤ fn.ntmps ∧ ∀ X : Snap, (∀ b L, X.ι b = some L → b < bl.length) → Facts (entry fn as bl) → ∃ cut fuel, Ev <| wpL C (opK C Γ) cut X fuel c (entry fn as bl) (exitR C fn bl.length ps o)) : FnOk C f F :=
 ⟨fn, c, h1, h2, h3, fun as bl p o hF hp => by
  obtain ⟨g1, g2⟩ := h as bl p o hF hp
  refine ⟨g1, fun X _ hX => walks_facts fun hfa => ?_⟩
  obtain ⟨cut, fuel, h⟩ := g2 X hX hfa
  replace h := h.out
  have hw := wpL_walks hf (opK_sound hΓ) fuel _ _ _ h
  intro a w H
  refine wp_mono (hw a w H) ?_
  rintro e a' w' ⟨st', H', hk⟩
  unfold exitR at hk
  split at hk
  ·rename_i st2 hre
   exact ⟨st2, reown_rel hre H', hk⟩
  ·exact hk.elim⟩
theorem fnOkP {f : FuncId} {F : FSpec} {Γ : Tab} {fn : Func} {c : Code} (hf : C.P.follows .mixedOrders = true) (hΓ : TabOk C Γ) (h1 : C.P.funcs[f]? = some fn) (h2 : fn.body = some c) (h3 : (fn.name == "runtime.NumGoroutine") = false)
  (h : ∀ as bl p o, F as bl = some (p, o) → Asked p → as.length ≤ fn.ntmps ∧ ∀ X : Snap, (∀ b L, X.ι b = some L → b < bl.length) → Facts (entry fn as bl) → ∃ ps cut fuel, Ev <| wpL C (opK C Γ) cut X fuel c (entry fn as bl) (exitR C fn bl.length ps o)) : FnOk C f F :=
 ⟨fn, c, h1, h2, h3, fun as bl p o hF hp => by
  obtain ⟨g1, g2⟩ := h as bl p o hF hp
  refine ⟨g1, fun X _ hX => walks_facts fun hfa => ?_⟩
  obtain ⟨ps, cut, fuel, h⟩ := g2 X hX hfa
  replace h := h.out
  have hw := wpL_walks hf (opK_sound hΓ) fuel _ _ _ h
  intro a w H
  refine wp_mono (hw a w H) ?_
  rintro e a' w' ⟨st', H', hk⟩
  unfold exitR at hk
  split at hk
  ·rename_i st2 hre
   exact ⟨st2, reown_rel hre H', hk⟩
  ·exact hk.elim⟩
end
end Go.Ab
/- Contracts that rest on what was proved without the abstract machine: closed values in, a new slice of numbers out. -/
namespace Go.Ab
open Go Go.Chr Go.RowKit
abbrev OSpec := List CV → Option (Option Prop × List Int)
def flatO (t : TypeId) (kd : IntKind) (F : OSpec) : Contract := fun as h nx k => match closeL h (trues as) as with
 | none => False
 | some (as1, rdc) => match cvArgs as1 with
  | none => False
  | some cs => match F cs with
   | none => False
   | some (p, l) => asking p (k ⟨.own nx 1 l.length, [], [.cells t 1 (.ints kd l)], rdc⟩)
def CallOkO (C : Ctx) (t : TypeId) (kd : IntKind) (f : FuncId) (F : OSpec) : Prop := ∀ cs p l, F cs = some (p, l) → Asked p → ∀ (N : Nat → Prop) (w : World) (vs : List Value), Env C N w → cvsRel N w cs vs →
 CallOuts C.P f vs w fun u w' => Below w.heap.size w w' ∧ OI w' w.heap.size t kd u l ∧ ∀ x ∈ l, okI kd x
section
variable {C : Ctx}
theorem Post.ofOwn {ι : Nat → Option Loc} {N : Nat → Prop} {w w' : World} {nx : Nat} {r : OpR} {t : TypeId} {kd : IntKind} {l : List Int} {u : Value} (hp : Pre C ι N w nx r) (hu : r.upd = []) (hn : r.news = [.cells t 1 (.ints kd l)]) (hb : Below w.heap.size w w')
  (ho : OI w' w.heap.size t kd u l) (hl : ∀ x ∈ l, okI kd x) : ∃ ι', Post ι N w ι' N w' nx r ∧ (AV.own nx 1 l.length).val ι' N w' u := by
 have hfree : ι nx = none := by simpa using hp.fresh 0 (by rw [hn]; simp)
 obtain ⟨hlen, ho⟩ := ho
 simp only [List.length_map, Nat.mul_one] at hlen
 rcases ho with ⟨rfl, h0⟩ | ⟨g, cap, cur, rfl, hg, hh, hc, _, hsz, htk⟩
 ·refine ⟨addι ι nx ⟨0, 0, 0, 0, true⟩, ?_, ?_⟩
  ·refine ⟨addι_old hfree, ?_, fun _ h => h, fun _ h => .inl h, fun k hk => Nat.lt_of_lt_of_le (hp.env.1 k hk) hb.size, Upd.below hb _, (fun b blk h => by rw [hu] at h; cases h), ?_, ?_⟩
   ·intro b L' h
    unfold addι at h
    split at h
    ·rename_i e; subst e; exact .inr ⟨Nat.le_refl _, by rw [hn]; simp⟩
    ·exact .inl h
   ·intro j blk h
    rw [hn] at h
    cases j with
    | zero =>
     simp at h; subst h
     have : l = [] := List.length_eq_zero_iff.1 h0
     subst this
     exact ⟨⟨0, 0, 0, 0, true⟩, by simp [addι], .inl ⟨rfl, ⟨rfl, rfl, by simp⟩, rfl, rfl⟩, fun h => by cases h⟩
    | succ j => simp at h
   ·intro i j Li Lj hi hj hne
    rw [hn] at hi hj
    simp at hi hj; omega
  ·exact ⟨⟨0, 0, 0, 0, true⟩, by simp [addι], h0.symm, .inl ⟨rfl, h0, none, rfl⟩⟩
 ·have hlt : g < w'.heap.size := (Array.getElem?_eq_some_iff.1 hh).1
  refine ⟨addι ι nx ⟨g, 0, cap * 1, l.length, false⟩, ?_, ?_⟩
  ·refine ⟨addι_old hfree, ?_, fun _ h => h, fun _ h => .inl h, fun k hk => Nat.lt_of_lt_of_le (hp.env.1 k hk) hb.size, Upd.below hb _, (fun b blk h => by rw [hu] at h; cases h), ?_, ?_⟩
   ·intro b L' h
    unfold addι at h
    split at h
    ·rename_i e; subst e; exact .inr ⟨Nat.le_refl _, by rw [hn]; simp⟩
    ·exact .inl h
   ·intro j blk h
    rw [hn] at h
    cases j with
    | zero =>
     simp at h; subst h
     refine ⟨⟨g, 0, cap * 1, l.length, false⟩, by simp [addι], .inr ⟨rfl, [], l.map (.int kd), cur.toList.drop l.length, ⟨?_, rfl, ⟨rfl, rfl, hl⟩, rfl⟩, ?_⟩, fun _ => ⟨fun hN => ?_, .inl hg⟩⟩
     ·rw [List.nil_append]
      rw [Nat.mul_one] at htk
      show w'.heap[g]? = _
      rw [hh, ← htk, List.take_append_drop]
     ·simp; omega
     ·have := hp.env.1 _ hN
      simp at this; omega
    | succ j => simp at h
   ·intro i j Li Lj hi hj hne
    rw [hn] at hi hj
    simp at hi hj; omega
  ·exact ⟨⟨g, 0, cap * 1, l.length, false⟩, by simp [addι], rfl, .inr ⟨rfl, cap, rfl, hc, by simp⟩⟩
theorem env_more {ι : Nat → Option Loc} {N : Nat → Prop} {w : World} {nx : Nat} {r : OpR} (hpre : Pre C ι N w nx r) {rdc : List (Nat × Blk')} (hr : ∀ q ∈ rdc, q ∈ r.rds) : Env C (fun k => N k ∨ ∃ q ∈ rdc, ∃ L, ι q.1 = some L ∧ L.ph = false ∧ k = L.blk) w := by
 refine ⟨?_, fun g blk hg => ?_⟩
 ·rintro k (hk | ⟨q, hq, L, hL, hph, rfl⟩)
  ·exact hpre.env.1 k hk
  ·obtain ⟨L', h1, h2, _⟩ := hpre.rds q (hr q hq)
   rw [hL] at h1; injection h1 with h1; subst h1
   exact h2.lt hph
 ·obtain ⟨h1, ty, esz, body, xs, post, e, hl⟩ := hpre.env.2 g blk hg
  exact ⟨.inl h1, ty, esz, body, xs, post, e, hl.mono (fun _ _ h => h) (fun _ h => .inl h) (fun _ _ => rfl) rfl⟩
theorem flatO_ok {t : TypeId} {kd : IntKind} {f : FuncId} {F : OSpec} (hF : CallOkO C t kd f F) : ContractOk C f (flatO t kd F) := by
 refine ⟨fun args h nx k hk => ?_⟩
 unfold flatO at hk
 split at hk
 ·exact hk.elim
 rename_i as1 rdc hcl
 split at hk
 ·exact hk.elim
 rename_i cs hcs
 split at hk
 ·exact hk.elim
 rename_i p l hv
 obtain ⟨hp, hk⟩ := asking_split hk
 refine ⟨_, ?_, OpR.ok_read rfl, ?_, hk⟩
 ·intro ι N w vs hpre hvals
  have hvals1 := (closeL_ok hcl).2 (N' := fun k => N k ∨ ∃ q ∈ rdc, ∃ L, ι q.1 = some L ∧ L.ph = false ∧ k = L.blk) (fun k hk => .inl hk) (fun q hq => by
   obtain ⟨L, h1, h2, _⟩ := hpre.rds q hq
   exact ⟨L, h1, h2, fun hph => .inr ⟨q, hq, L, h1, hph, rfl⟩⟩) vs hvals
  refine (hF cs p l hv hp _ w vs (env_more hpre fun q hq => hq) (cvArgs_rel hcs hvals1)).mono ?_
  rintro u w' ⟨hb, hu, hl⟩
  obtain ⟨ι', h1, h2⟩ := Post.ofOwn hpre rfl rfl hb hu hl
  exact ⟨ι', N, h1, h2⟩
 ·intro q hq
  exact (closeL_ok (ι := fun _ => none) (w := default) hcl).1 q hq
end
theorem ints_ri {N : Nat → Prop} {w : World} {k : IntKind} {l : List Int} {v : Value} (hN : ∀ k, N k → k < w.heap.size) (h : asVal (CV.ints k l).isAgg ((CV.ints k l).rel N w) v) : RI w k v l ∧ ∀ x ∈ l, okI k x := by
 obtain ⟨⟨A, c, e, hc, h⟩, hl⟩ := h
 injection e with e
 refine ⟨⟨A, c, e, hc, ⟨by simp, fun h0 => ?_⟩⟩, hl⟩
 obtain ⟨ad, e, hb, hr⟩ := h h0
 exact ⟨ad, e, hN _ hb, hr⟩
end Go.Ab
/- A loop that is come to in two makes of one slot. -/
namespace Go.Ab
open Go Go.Chr Go.RowKit
end Go.Ab
/- Bytes and numbers, plain. -/
namespace Go.Chr
open Go Go.Ab
theorem okI_of {k : IntKind} {lo hi : Int} (hk : k ≠ .i64) (h1 : k.min = lo) (h2 : k.max = hi) {x : Int} : okI k x ↔ lo ≤ x ∧ x ≤ hi := by
 unfold okI IntKind.has
 rw [h1, h2]
 exact ⟨fun h => h hk, fun h _ => h⟩
theorem okI_u8 {x : Int} : okI .u8 x ↔ 0 ≤ x ∧ x < 256 := (okI_of (by decide) (by decide : IntKind.u8.min = 0) (by decide : IntKind.u8.max = 255)).trans (by omega)
theorem okI_u32 {x : Int} : okI .u32 x ↔ 0 ≤ x ∧ x < 4294967296 := (okI_of (by decide) (by decide : IntKind.u32.min = 0) (by decide : IntKind.u32.max = 4294967295)).trans (by omega)
theorem okI_u64 {x : Int} : okI .u64 x ↔ 0 ≤ x ∧ x < 18446744073709551616 := (okI_of (by decide) (by decide : IntKind.u64.min = 0) (by decide : IntKind.u64.max = 18446744073709551615)).trans (by omega)
def leL (x : Nat) : List Int := (List.range 32).map fun i => ((x / 256 ^ i % 256 : Nat) : Int)
def beL (x : Nat) : List Int := (leL x).reverse
def leN' : List Int → Nat
 | [] => 0
 | b :: l => b.toNat + 256 * leN' l
def leK (x : Nat) : List Int := (List.range 32).map fun i => IntKind.u8.wrap (Int.fdiv (lb x (i / 8)) (2 ^ (min (8 * (i % 8)) 64)))
theorem lb_byte (x : Nat) {i : Nat} (hi : i < 32) : IntKind.u8.wrap (Int.fdiv (lb x (i / 8)) (2 ^ (min (8 * (i % 8)) 64))) = ((x / 256 ^ i % 256 : Nat) : Int) := by
 rw [Nat.min_eq_left (by omega)]
 have h1 : lb x (i / 8) = ((x / 18446744073709551616 ^ (i / 8) % 18446744073709551616 : Nat) : Int) := by
  unfold lb; rw [Nat.pow_mul]
 rw [h1, Int.fdiv_eq_ediv_of_nonneg _ (by exact_mod_cast Nat.zero_le _)]
 have h2 : IntKind.u8.wrap = fun n => n % 256 := by
  funext n; unfold IntKind.wrap; simp [IntKind.signed, IntKind.bits]
 rw [h2]
 have h3 : (2 : Int) ^ (8 * (i % 8)) = ((256 ^ (i % 8) : Nat) : Int) := by
  rw [show (256 : Nat) = 2 ^ 8 from rfl, ← Nat.pow_mul]; simp
 have h4 : (18446744073709551616 : Nat) ^ (i / 8) * 256 ^ (i % 8) = 256 ^ i := by
  have : (18446744073709551616 : Nat) = 256 ^ 8 := by decide
  rw [this, ← Nat.pow_mul, ← Nat.pow_add]; congr 1; omega
 have h5 : (18446744073709551616 : Nat) = 256 ^ (i % 8) * 256 ^ (8 - i % 8) := by
  rw [← Nat.pow_add, show i % 8 + (8 - i % 8) = 8 by omega]
 rw [h3]
 show ((((x / 18446744073709551616 ^ (i / 8) % 18446744073709551616 : Nat) : Int) / ((256 ^ (i % 8) : Nat) : Int)) % ((256 : Nat) : Int)) = _
 rw [← Int.natCast_ediv, ← Int.natCast_emod]
 congr 1
 rw [← h4, ← Nat.div_div_eq_div_mul]
 generalize x / 18446744073709551616 ^ (i / 8) = y
 rw [h5, Nat.mod_mul_right_div_self]
 exact Nat.mod_mod_of_dvd _ ⟨256 ^ (8 - i % 8 - 1), by rw [← Nat.pow_succ']; congr 1; omega⟩
theorem leK_eq (x : Nat) : leK x = leL x := List.map_congr_left fun i hi => lb_byte x (List.mem_range.1 hi)
theorem leL_len (x : Nat) : (leL x).length = 32 := by simp [leL]
theorem beL_len (x : Nat) : (beL x).length = 32 := by simp [beL, leL]
end Go.Chr
namespace Go.Chr
open Go Go.Ab
theorem wi {x : Int} (h : -9223372036854775808 ≤ x ∧ x < 9223372036854775808) : IntKind.i64.wrap x = x := by
 have e : (2 : Int) ^ 64 = 18446744073709551616 := by decide
 have e' : (2 : Int) ^ (64 - 1) = 9223372036854775808 := by decide
 simp only [IntKind.wrap, IntKind.bits, IntKind.signed, e, e', Bool.true_and, decide_eq_true_eq, ge_iff_le]
 split <;> omega
theorem wu64 {x : Int} (h : 0 ≤ x ∧ x < 18446744073709551616) : IntKind.u64.wrap x = x := by
 have e : (2 : Int) ^ 64 = 18446744073709551616 := by decide
 simp only [IntKind.wrap, IntKind.bits, IntKind.signed, e, Bool.false_and]
 simp; omega
theorem wu32 {x : Int} (h : 0 ≤ x ∧ x < 4294967296) : IntKind.u32.wrap x = x := by
 have e : (2 : Int) ^ 32 = 4294967296 := by decide
 simp only [IntKind.wrap, IntKind.bits, IntKind.signed, e, Bool.false_and]
 simp; omega
theorem wu8_mod (x : Int) : IntKind.u8.wrap x = x % 256 := by
 have e : (2 : Int) ^ 8 = 256 := by decide
 simp only [IntKind.wrap, IntKind.bits, IntKind.signed, e, Bool.false_and]
 simp
theorem wu32_mod (x : Int) : IntKind.u32.wrap x = x % 4294967296 := by
 have e : (2 : Int) ^ 32 = 4294967296 := by decide
 simp only [IntKind.wrap, IntKind.bits, IntKind.signed, e, Bool.false_and]
 simp
theorem wu64_mod (x : Int) : IntKind.u64.wrap x = x % 18446744073709551616 := by
 have e : (2 : Int) ^ 64 = 18446744073709551616 := by decide
 simp only [IntKind.wrap, IntKind.bits, IntKind.signed, e, Bool.false_and]
 simp
end Go.Chr
/- Montgomery's product: plain arithmetic. -/
namespace Go.Chr
def mc (T b : Nat) (y : Int) : Nat → Int
 | 0 => 0
 | i + 1 => (lb T i + y * lb b i + mc T b y i) / 18446744073709551616
def ms (T b : Nat) (y : Int) (i : Nat) : Int := (lb T i + y * lb b i + mc T b y i) % 18446744073709551616
def nc (T b m : Nat) (y q : Int) : Nat → Int
 | 0 => 0
 | i + 1 => (ms T b y i + q * lb m i + nc T b m y q i) / 18446744073709551616
def ns (T b m : Nat) (y q : Int) (i : Nat) : Int := (ms T b y i + q * lb m i + nc T b m y q i) % 18446744073709551616
theorem prod_bd {a b : Int} (a0 : 0 ≤ a) (a1 : a < 18446744073709551616) (b0 : 0 ≤ b) (b1 : b < 18446744073709551616) : 0 ≤ a * b ∧ a * b ≤ 340282366920938463426481119284349108225 := by
 refine ⟨Int.mul_nonneg a0 b0, ?_⟩
 have := Int.mul_le_mul (show a ≤ 18446744073709551615 by omega) (show b ≤ 18446744073709551615 by omega) b0 (by omega)
 omega
theorem carry_bd {s p c : Int} (s0 : 0 ≤ s) (s1 : s < 18446744073709551616) (p0 : 0 ≤ p) (p1 : p ≤ 340282366920938463426481119284349108225) (c0 : 0 ≤ c) (c1 : c < 18446744073709551616) :
  0 ≤ (s + p + c) / 18446744073709551616 ∧ (s + p + c) / 18446744073709551616 < 18446744073709551616 := by omega
theorem mod_bd (s : Int) : 0 ≤ s % 18446744073709551616 ∧ s % 18446744073709551616 < 18446744073709551616 := by omega
theorem mc_bd (T b : Nat) {y : Int} (y0 : 0 ≤ y) (y1 : y < 18446744073709551616) (i : Nat) : 0 ≤ mc T b y i ∧ mc T b y i < 18446744073709551616 := by
 induction i with
 | zero => simp [mc]
 | succ i ih =>
  obtain ⟨p0, p1⟩ := prod_bd y0 y1 (lb_nn b i) (lb_lt b i)
  exact carry_bd (lb_nn T i) (lb_lt T i) p0 p1 ih.1 ih.2
theorem ms_bd (T b : Nat) (y : Int) (i : Nat) : 0 ≤ ms T b y i ∧ ms T b y i < 18446744073709551616 := mod_bd _
theorem nc_bd (T b m : Nat) {y q : Int} (q0 : 0 ≤ q) (q1 : q < 18446744073709551616) (i : Nat) : 0 ≤ nc T b m y q i ∧ nc T b m y q i < 18446744073709551616 := by
 induction i with
 | zero => simp [nc]
 | succ i ih =>
  obtain ⟨p0, p1⟩ := prod_bd q0 q1 (lb_nn m i) (lb_lt m i)
  exact carry_bd (ms_bd T b y i).1 (ms_bd T b y i).2 p0 p1 ih.1 ih.2
theorem ns_bd (T b m : Nat) (y q : Int) (i : Nat) : 0 ≤ ns T b m y q i ∧ ns T b m y q i < 18446744073709551616 := mod_bd _
theorem div_split (s : Int) : s = s % 18446744073709551616 + 18446744073709551616 * (s / 18446744073709551616) := by omega
theorem ms_eq (T b : Nat) (y : Int) (i : Nat) : lb T i + y * lb b i + mc T b y i = ms T b y i + 18446744073709551616 * mc T b y (i + 1) := div_split _
theorem ns_eq (T b m : Nat) (y q : Int) (i : Nat) : ms T b y i + q * lb m i + nc T b m y q i = ns T b m y q i + 18446744073709551616 * nc T b m y q (i + 1) := div_split _
theorem num5 (T : Nat) :
  (T : Int) = lb T 0 + 18446744073709551616 * lb T 1 + 340282366920938463463374607431768211456 * lb T 2 + 6277101735386680763835789423207666416102355444464034512896 * lb T 3 + 115792089237316195423570985008687907853269984665640564039457584007913129639936 * ((T / 115792089237316195423570985008687907853269984665640564039457584007913129639936 : Nat) : Int) := by
 have h1 := num_digits (x := T % 115792089237316195423570985008687907853269984665640564039457584007913129639936) (Nat.mod_lt _ (by decide))
 rw [lb_modK T (i := 0) (by omega), lb_modK T (i := 1) (by omega), lb_modK T (i := 2) (by omega), lb_modK T (i := 3) (by omega)] at h1
 rw [← h1]
 have := Nat.mod_add_div T 115792089237316195423570985008687907853269984665640564039457584007913129639936
 omega
theorem comb_m {T Y l0 l1 l2 l3 t4 b0 b1 b2 b3 r0 r1 r2 r3 c1 c2 c3 c4 u4 u5 : Int}
  (hT : T = l0 + 18446744073709551616 * l1 + 340282366920938463463374607431768211456 * l2 + 6277101735386680763835789423207666416102355444464034512896 * l3 + 115792089237316195423570985008687907853269984665640564039457584007913129639936 * t4)
  (hY : Y = b0 + 18446744073709551616 * b1 + 340282366920938463463374607431768211456 * b2 + 6277101735386680763835789423207666416102355444464034512896 * b3)
  (f0 : l0 + b0 + 0 = r0 + 18446744073709551616 * c1) (f1 : l1 + b1 + c1 = r1 + 18446744073709551616 * c2) (f2 : l2 + b2 + c2 = r2 + 18446744073709551616 * c3) (f3 : l3 + b3 + c3 = r3 + 18446744073709551616 * c4)
  (f4 : t4 + c4 = u4 + 18446744073709551616 * u5) :
  T + Y = r0 + 18446744073709551616 * r1 + 340282366920938463463374607431768211456 * r2 + 6277101735386680763835789423207666416102355444464034512896 * r3 + 115792089237316195423570985008687907853269984665640564039457584007913129639936 * u4 + 2135987035920910082395021706169552114602704522356652769947041607822219725780640550022962086936576 * u5 := by omega
theorem comb_n {U Q r0 r1 r2 r3 u4 u5 p0 p1 p2 p3 n1 n2 n3 d1 d2 d3 d4 c3 cc : Int}
  (hU : U = r0 + 18446744073709551616 * r1 + 340282366920938463463374607431768211456 * r2 + 6277101735386680763835789423207666416102355444464034512896 * r3 + 115792089237316195423570985008687907853269984665640564039457584007913129639936 * u4 + 2135987035920910082395021706169552114602704522356652769947041607822219725780640550022962086936576 * u5)
  (hQ : Q = p0 + 18446744073709551616 * p1 + 340282366920938463463374607431768211456 * p2 + 6277101735386680763835789423207666416102355444464034512896 * p3)
  (f0 : r0 + p0 + 0 = 0 + 18446744073709551616 * d1) (f1 : r1 + p1 + d1 = n1 + 18446744073709551616 * d2) (f2 : r2 + p2 + d2 = n2 + 18446744073709551616 * d3) (f3 : r3 + p3 + d3 = n3 + 18446744073709551616 * d4)
  (f4 : u4 + d4 = c3 + 18446744073709551616 * cc) :
  U + Q = 18446744073709551616 * (n1 + 18446744073709551616 * n2 + 340282366920938463463374607431768211456 * n3 + 6277101735386680763835789423207666416102355444464034512896 * c3 + 115792089237316195423570985008687907853269984665640564039457584007913129639936 * (u5 + cc)) := by omega
theorem mul_digits (y : Int) {b : Nat} (hb : b < 115792089237316195423570985008687907853269984665640564039457584007913129639936) :
  y * (b : Int) = y * lb b 0 + 18446744073709551616 * (y * lb b 1) + 340282366920938463463374607431768211456 * (y * lb b 2) + 6277101735386680763835789423207666416102355444464034512896 * (y * lb b 3) := by
 rw [num_digits hb]
 grind
theorem low_zero {r v m0 : Int} (hv : (m0 * v + 1) % 18446744073709551616 = 0) : (r + (r * v % 18446744073709551616) * m0 + 0) % 18446744073709551616 = 0 := by
 have e : r + (r * v % 18446744073709551616) * m0 + 0 = r * (m0 * v + 1) + 18446744073709551616 * (-(r * v / 18446744073709551616) * m0) := by
  have := Int.emod_add_mul_ediv (r * v) 18446744073709551616
  have e2 : r * v % 18446744073709551616 = r * v - 18446744073709551616 * (r * v / 18446744073709551616) := by omega
  rw [e2]
  grind
 rw [e, Int.add_mul_emod_self_left, Int.mul_emod, hv]
 simp
theorem bound_T {T' T b m : Int} {Y Q : Int} (h : T + Y + Q = 18446744073709551616 * T') (hY : Y ≤ 18446744073709551615 * b) (hQ : Q ≤ 18446744073709551615 * m) (hT : T < 2 * m) (hb : b < m) : T' < 2 * m := by omega
theorem mont_step {T b m : Nat} {y v : Int} (hT : T < 2 * m) (hb : b < m) (hm : m < 115792089237316195423570985008687907853269984665640564039457584007913129639936)
  (y0 : 0 ≤ y) (y1 : y < 18446744073709551616) (hv : (lb m 0 * v + 1) % 18446744073709551616 = 0) {t4 q u4 u5 c3 cc : Int}
  (ht4 : t4 = ((T / 115792089237316195423570985008687907853269984665640564039457584007913129639936 : Nat) : Int)) (hq : q = ms T b y 0 * v % 18446744073709551616)
  (hu4 : u4 = (t4 + mc T b y 4) % 18446744073709551616) (hu5 : u5 = (t4 + mc T b y 4) / 18446744073709551616) (hc3 : c3 = (u4 + nc T b m y q 4) % 18446744073709551616) (hcc : cc = (u4 + nc T b m y q 4) / 18446744073709551616) :
  ∃ T' : Nat, T' < 2 * m ∧ 18446744073709551616 * (T' : Int) = T + y * b + q * m ∧ lb T' 0 = ns T b m y q 1 ∧ lb T' 1 = ns T b m y q 2 ∧ lb T' 2 = ns T b m y q 3 ∧ lb T' 3 = c3 ∧ u5 + cc = ((T' / 115792089237316195423570985008687907853269984665640564039457584007913129639936 : Nat) : Int) := by
 have q0 : 0 ≤ q ∧ q < 18446744073709551616 := by rw [hq]; exact mod_bd _
 have hT5 := num5 T
 rw [← ht4] at hT5
 have hY := mul_digits y (Nat.lt_trans hb hm)
 have hQ := mul_digits q hm
 have f4 := div_split (t4 + mc T b y 4)
 rw [← hu4, ← hu5] at f4
 have hU := comb_m hT5 hY (ms_eq T b y 0) (ms_eq T b y 1) (ms_eq T b y 2) (ms_eq T b y 3) f4
 have g0 := ns_eq T b m y q 0
 have z : ns T b m y q 0 = 0 := by
  unfold ns
  rw [hq]
  exact low_zero hv
 rw [z] at g0
 have g4 := div_split (u4 + nc T b m y q 4)
 rw [← hc3, ← hcc] at g4
 have hS := comb_n hU hQ g0 (ns_eq T b m y q 1) (ns_eq T b m y q 2) (ns_eq T b m y q 3) g4
 have hc3b : 0 ≤ c3 ∧ c3 < 18446744073709551616 := by rw [hc3]; exact mod_bd _
 have hmc := mc_bd T b y0 y1 4
 have hnc := nc_bd T b m (y := y) q0.1 q0.2 4
 have hu4b : 0 ≤ u4 ∧ u4 < 18446744073709551616 := by rw [hu4]; exact mod_bd _
 have ht40 : 0 ≤ t4 := by rw [ht4]; exact Int.natCast_nonneg _
 have hu50 : 0 ≤ u5 := by rw [hu5]; omega
 have hcc0 : 0 ≤ cc := by rw [hcc]; omega
 have b1 := ns_bd T b m y q 1
 have b2 := ns_bd T b m y q 2
 have b3 := ns_bd T b m y q 3
 have hYle : y * (b : Int) ≤ 18446744073709551615 * b := Int.mul_le_mul_of_nonneg_right (by omega) (Int.natCast_nonneg _)
 have hQle : q * (m : Int) ≤ 18446744073709551615 * m := Int.mul_le_mul_of_nonneg_right (by omega) (Int.natCast_nonneg _)
 generalize ns T b m y q 1 = n1 at *
 generalize ns T b m y q 2 = n2 at *
 generalize ns T b m y q 3 = n3 at *
 have hlt := bound_T hS hYle hQle (show (T : Int) < 2 * m by omega) (show (b : Int) < m by omega)
 have tb := top_bd b1.1 b1.2 b2.1 b2.2 b3.1 b3.2 hc3b.1 hc3b.2
 obtain ⟨X, hX⟩ : ∃ X : Int, X = n1 + 18446744073709551616 * n2 + 340282366920938463463374607431768211456 * n3 + 6277101735386680763835789423207666416102355444464034512896 * c3 + 115792089237316195423570985008687907853269984665640564039457584007913129639936 * (u5 + cc) := ⟨_, rfl⟩
 rw [← hX] at hS hlt
 have hX0 : 0 ≤ X := by
  rw [hX]
  have : 0 ≤ 115792089237316195423570985008687907853269984665640564039457584007913129639936 * (u5 + cc) := Int.mul_nonneg (by decide) (by omega)
  omega
 obtain ⟨T', hT'⟩ := Int.eq_ofNat_of_zero_le hX0
 rw [hT'] at hS hlt hX
 obtain ⟨k0, k1, k2, k3⟩ := lb_is hX b1.1 b1.2 b2.1 b2.2 b3.1 b3.2 hc3b.1 hc3b.2
 exact ⟨T', by omega, hS.symm, k0, k1, k2, k3, div_top hX tb.1 tb.2⟩
theorem lb_pow (a i : Nat) : lb a i = ((a / 18446744073709551616 ^ i % 18446744073709551616 : Nat) : Int) := by
 unfold lb
 rw [Nat.pow_mul]
theorem inv_step {T T' a b m i : Nat} {q Q : Int} (h : (T : Int) * ((18446744073709551616 ^ i : Nat) : Int) = ((a % 18446744073709551616 ^ i : Nat) : Int) * b + Q * m)
  (hs : 18446744073709551616 * (T' : Int) = T + lb a i * b + q * m) :
  (T' : Int) * ((18446744073709551616 ^ (i + 1) : Nat) : Int) = ((a % 18446744073709551616 ^ (i + 1) : Nat) : Int) * b + (Q + q * ((18446744073709551616 ^ i : Nat) : Int)) * m := by
 rw [Nat.mod_pow_succ, Nat.pow_succ]
 have e := lb_pow a i
 generalize a / 18446744073709551616 ^ i % 18446744073709551616 = d at *
 rw [e] at hs
 generalize (18446744073709551616 ^ i : Nat) = P at *
 rw [Int.natCast_mul, Int.natCast_add, Int.natCast_mul]
 have k : ((18446744073709551616 : Nat) : Int) = 18446744073709551616 := rfl
 rw [k]
 generalize (18446744073709551616 : Int) = B at *
 have e1 : (T' : Int) * ((P : Int) * B) = (P : Int) * (B * T') := by grind
 rw [e1, hs]
 grind
theorem mont_top {T m a b : Nat} {Q : Int} (hm : 0 < m) (h : (T : Int) * ((18446744073709551616 ^ 4 : Nat) : Int) = ((a % 18446744073709551616 ^ 4 : Nat) : Int) * b + Q * m) (ha : a < 115792089237316195423570985008687907853269984665640564039457584007913129639936) :
  T % m < m ∧ (T % m * 115792089237316195423570985008687907853269984665640564039457584007913129639936) % m = (a * b) % m := by
 refine ⟨Nat.mod_lt _ hm, ?_⟩
 rw [show (18446744073709551616 ^ 4 : Nat) = 115792089237316195423570985008687907853269984665640564039457584007913129639936 by decide, Nat.mod_eq_of_lt ha] at h
 generalize (115792089237316195423570985008687907853269984665640564039457584007913129639936 : Nat) = K at *
 rw [Nat.mod_mul_mod]
 have h2 : ((T * K : Nat) : Int) = ((a * b : Nat) : Int) + (m : Int) * Q := by
  rw [Int.natCast_mul, Int.natCast_mul, h]; grind
 have h3 : ((T * K : Nat) : Int) % (m : Int) = ((a * b : Nat) : Int) % (m : Int) := by
  rw [h2, Int.add_mul_emod_self_left]
 exact_mod_cast h3
theorem pow_zero_inv (a b m : Nat) : ((0 : Nat) : Int) * ((18446744073709551616 ^ 0 : Nat) : Int) = ((a % 18446744073709551616 ^ 0 : Nat) : Int) * b + 0 * m := by simp [Nat.mod_one]
end Go.Chr
/- The four moduli, and what is reckoned modulo them: plain, sealed against evaluation. -/
namespace Go.Chr
open Go Go.Ab
set_option maxRecDepth 100000
abbrev KK : Nat := 115792089237316195423570985008687907853269984665640564039457584007913129639936
theorem two_KK : two256 = KK := rfl
abbrev p0 : Nat := 115792089210356248762697446949407573530086143415290314195533631308867097853951
abbrev q0 : Nat := 134799733323198995502561713907086292154532538166959272814710328655875
abbrev v0 : Int := 1
abbrev p1 : Nat := 115792089210356248762697446949407573529996955224135760342422259061068512044369
abbrev q1 : Nat := 46533765739406314298121036767150998762426774378559716911348521029833835802274
abbrev v1 : Int := 14758798090332847183
abbrev p2 : Nat := 57896044618658097711785492504343953926634992332820282019728792003956564819949
abbrev q2 : Nat := 1444
abbrev v2 : Int := 9708812670373448219
abbrev p3 : Nat := 7237005577332262213973186563042994240857116359379907606001950938285454250989
abbrev q3 : Nat := 1627715501170711445284395025044413883736156588369414752970002579683115011841
abbrev v3 : Int := 15183074304973897243
structure ModOK (m s : Nat) (v : Int) : Prop where
 pos : 0 < m
 lt : m < KK
 inv : (lb m 0 * v + 1) % 18446744073709551616 = 0
 sq : s = KK * KK % m
 co : ∃ u, KK * u % m = 1 % m
theorem ok0 : ModOK p0 q0 v0 := ⟨by decide, by decide, by decide +kernel, by decide +kernel, ⟨115792089183396302114378112356516095823261736990586219612555396166510339686400, by decide +kernel⟩⟩
theorem ok1 : ModOK p1 q1 v1 := ⟨by decide, by decide, by decide +kernel, by decide +kernel, ⟨43790243014242295660885426880012836369732278457577312309071968676491870960761, by decide +kernel⟩⟩
theorem ok2 : ModOK p2 q2 v2 := ⟨by decide, by decide, by decide +kernel, by decide +kernel, ⟨10665060850805439052171011777115991512801182798151104582581619579676209308938, by decide +kernel⟩⟩
theorem ok3 : ModOK p3 q3 v3 := ⟨by decide, by decide, by decide +kernel, by decide +kernel, ⟨4458503529701987551646482192314240623644693141688353256590997718326214331684, by decide +kernel⟩⟩
def pK : Nat → Nat
 | 0 => p0
 | 1 => p1
 | 2 => p2
 | _ => p3
def qK : Nat → Nat
 | 0 => q0
 | 1 => q1
 | 2 => q2
 | _ => q3
def vK : Nat → Int
 | 0 => v0
 | 1 => v1
 | 2 => v2
 | _ => v3
theorem okK (k : Nat) : ModOK (pK k) (qK k) (vK k) := by
 rcases k with _ | _ | _ | k
 ·exact ok0
 ·exact ok1
 ·exact ok2
 ·exact ok3
def pI (k : Int) : Nat := pK k.toNat
theorem pI_pos (k : Int) : 0 < pI k := (okK _).pos
def kB (k : Int) : Prop := 0 ≤ k ∧ k < 4
def subM (m x y : Nat) : Nat := (m + x % m - y % m) % m
def cmpN (x y : Nat) : Int := if x < y then -1 else if y < x then 1 else 0
def subI (k : Int) (x y : Nat) : Nat := subM (pI k) x y
def invI (k : Int) (x : Nat) : Nat := x ^ (pI k - 2) % pI k
noncomputable def fadd (k : Int) (x y : Nat) : Nat := shut ((x + y) % pI k)
noncomputable def fsub (k : Int) (x y : Nat) : Nat := shut (subI k x y)
noncomputable def fmul (k : Int) (x y : Nat) : Nat := shut (x * y % pI k)
noncomputable def ffold (k : Int) (x : Nat) : Nat := shut (x % pI k)
noncomputable def finv (k : Int) (x : Nat) : Nat := shut (invI k x)
noncomputable def fpow (k : Int) (x e : Nat) : Nat := shut (x ^ e % pI k)
noncomputable def fmod (k : Int) : Nat := shut (pI k)
noncomputable def fsq (k : Int) : Nat := shut (qK k.toNat)
noncomputable def fiv (k : Int) : Int := shut (vK k.toNat)
noncomputable def fbelow (k : Int) (x : Nat) : Bool := shut (decide (x < pI k))
theorem fadd_eq (k : Int) (x y : Nat) : fadd k x y = (x + y) % pI k := shut_eq _
theorem fsub_eq (k : Int) (x y : Nat) : fsub k x y = subI k x y := shut_eq _
theorem fmul_eq (k : Int) (x y : Nat) : fmul k x y = x * y % pI k := shut_eq _
theorem ffold_eq (k : Int) (x : Nat) : ffold k x = x % pI k := shut_eq _
theorem finv_eq (k : Int) (x : Nat) : finv k x = invI k x := shut_eq _
theorem fpow_eq (k : Int) (x e : Nat) : fpow k x e = x ^ e % pI k := shut_eq _
theorem fmod_eq (k : Int) : fmod k = pI k := shut_eq _
theorem fsq_eq (k : Int) : fsq k = qK k.toNat := shut_eq _
theorem fiv_eq (k : Int) : fiv k = vK k.toNat := shut_eq _
theorem fbelow_eq (k : Int) (x : Nat) : fbelow k x = decide (x < pI k) := shut_eq _
noncomputable def bitI (x : Nat) (i : Int) : Int := shut ((x / 2 ^ i.toNat % 2 : Nat) : Int)
theorem bitI_eq (x : Nat) (i : Int) : bitI x i = ((x / 2 ^ i.toNat % 2 : Nat) : Int) := shut_eq _
noncomputable def ladd (x y : Nat) : Nat := shut ((x + y) % two256)
noncomputable def lover (x y : Nat) : Bool := shut (decide (two256 ≤ x + y))
noncomputable def lsub (x y : Nat) : Nat := shut ((two256 + x - y) % two256)
noncomputable def lless (x y : Nat) : Bool := shut (decide (x < y))
noncomputable def lcmp (x y : Nat) : Int := shut (cmpN x y)
noncomputable def lpick (c : Bool) (x y : Nat) : Nat := shut (bif c then x else y)
theorem ladd_eq (x y : Nat) : ladd x y = (x + y) % two256 := shut_eq _
theorem lover_eq (x y : Nat) : lover x y = decide (two256 ≤ x + y) := shut_eq _
theorem lsub_eq (x y : Nat) : lsub x y = (two256 + x - y) % two256 := shut_eq _
theorem lless_eq (x y : Nat) : lless x y = decide (x < y) := shut_eq _
theorem lcmp_eq (x y : Nat) : lcmp x y = cmpN x y := shut_eq _
theorem lpick_eq (c : Bool) (x y : Nat) : lpick c x y = bif c then x else y := shut_eq _
noncomputable def mfold (m x : Nat) : Nat := shut (x % m)
noncomputable def madd (m x y : Nat) : Nat := shut ((x + y) % m)
noncomputable def msub (m x y : Nat) : Nat := shut ((m + x - y) % m)
noncomputable def mmul (m x y : Nat) : Nat := shut (x * y % m)
noncomputable def mpow (m x e : Nat) : Nat := shut (x ^ e % m)
theorem mfold_eq (m x : Nat) : mfold m x = x % m := shut_eq _
theorem madd_eq (m x y : Nat) : madd m x y = (x + y) % m := shut_eq _
theorem msub_eq (m x y : Nat) : msub m x y = (m + x - y) % m := shut_eq _
theorem mmul_eq (m x y : Nat) : mmul m x y = x * y % m := shut_eq _
theorem mpow_eq (m x e : Nat) : mpow m x e = x ^ e % m := shut_eq _
theorem add_pick {m a b : Nat} (ha : a < m) (hb : b < m) (hm : m < KK) : lpick (lover a b || !lless (ladd a b) m) (lsub (ladd a b) m) (ladd a b) = madd m a b := by
 rw [lpick_eq, lover_eq, lless_eq, lsub_eq, ladd_eq, madd_eq, two_KK]
 by_cases h1 : m ≤ a + b
 ·have e : (a + b) % m = a + b - m := by rw [Nat.mod_eq_sub_mod h1, Nat.mod_eq_of_lt (by (simp only [KK] at *; omega))]
  have hc : (decide (KK ≤ a + b) || !decide ((a + b) % KK < m)) = true := by simp; (simp only [KK] at *; omega)
  rw [hc, e]
  show (KK + (a + b) % KK - m) % KK = a + b - m
  (simp only [KK] at *; omega)
 ·have e : (a + b) % m = a + b := Nat.mod_eq_of_lt (by (simp only [KK] at *; omega))
  have hc : (decide (KK ≤ a + b) || !decide ((a + b) % KK < m)) = false := by simp; (simp only [KK] at *; omega)
  rw [hc, e]
  show (a + b) % KK = a + b
  (simp only [KK] at *; omega)
theorem sub_pick {m a b : Nat} (ha : a < m) (hb : b < m) (hm : m < KK) : lpick (lless a b) (ladd (lsub a b) m) (lsub a b) = msub m a b := by
 rw [lpick_eq, lless_eq, lsub_eq, ladd_eq, msub_eq, two_KK]
 by_cases h1 : a < b
 ·have e : (m + a - b) % m = m + a - b := Nat.mod_eq_of_lt (by (simp only [KK] at *; omega))
  have hc : decide (a < b) = true := by simpa using h1
  rw [hc, e]
  show ((KK + a - b) % KK + m) % KK = m + a - b
  (simp only [KK] at *; omega)
 ·have e : (m + a - b) % m = a - b := by rw [show m + a - b = (a - b) + m by (simp only [KK] at *; omega), Nat.add_mod_right, Nat.mod_eq_of_lt (by (simp only [KK] at *; omega))]
  have hc : decide (a < b) = false := by simpa using h1
  rw [hc, e]
  show (KK + a - b) % KK = a - b
  (simp only [KK] at *; omega)
theorem top_pick {m T : Nat} (hT : T < 2 * m) (hm : m < KK) : lpick (((T / KK : Nat) : Int) != 0 || !lless (T % KK) m) (lsub (T % KK) m) (T % KK) = T % m := by
 rw [lpick_eq, lless_eq, lsub_eq, two_KK]
 by_cases h1 : m ≤ T
 ·have e : T % m = T - m := by rw [Nat.mod_eq_sub_mod h1, Nat.mod_eq_of_lt (by (simp only [KK] at *; omega))]
  have hc : (((T / KK : Nat) : Int) != 0 || !decide (T % KK < m)) = true := by simp; (simp only [KK] at *; omega)
  rw [hc, e]
  show (KK + T % KK - m) % KK = T - m
  (simp only [KK] at *; omega)
 ·have e : T % m = T := Nat.mod_eq_of_lt (by (simp only [KK] at *; omega))
  have hc : (((T / KK : Nat) : Int) != 0 || !decide (T % KK < m)) = false := by simp; (simp only [KK] at *; omega)
  rw [hc, e]
  show T % KK = T
  (simp only [KK] at *; omega)
theorem cancelK {m K u x y : Nat} (hu : K * u % m = 1 % m) (h : (x * K) % m = (y * K) % m) : x % m = y % m := by
 have e : ∀ z, z % m = (z * K % m * u) % m := fun z => by
  rw [Nat.mod_mul_mod, Nat.mul_assoc, Nat.mul_mod, hu, ← Nat.mul_mod, Nat.mul_one]
 rw [e x, e y, h]
theorem mont_mul {m s a b r1 r2 K u : Nat} (hu : K * u % m = 1 % m) (hs : s = K * K % m) (h1 : (r1 * K) % m = (a * b) % m) (h2 : (r2 * K) % m = (r1 * s) % m) (hr : r2 < m) : r2 = a * b % m := by
 have e1 : (r2 * K) % m = (r1 * K * K) % m := by
  rw [h2, hs, Nat.mul_mod_mod, Nat.mul_assoc]
 have e2 := cancelK hu e1
 rw [Nat.mod_eq_of_lt hr, h1] at e2
 exact e2
def hN (m : Nat) (v : Int) (a b : Nat) : Nat → Nat
 | 0 => 0
 | i + 1 => (((hN m v a b i : Nat) + lb a i * b + (ms (hN m v a b i) b (lb a i) 0 * v % 18446744073709551616) * m) / 18446744073709551616).toNat
noncomputable def halfM (m : Nat) (v : Int) (a b : Nat) : Nat := shut (hN m v a b 4 % m)
theorem halfM_eq (m : Nat) (v : Int) (a b : Nat) : halfM m v a b = hN m v a b 4 % m := shut_eq _
theorem hN_step {m : Nat} {v : Int} {a b i : Nat} (hT : hN m v a b i < 2 * m) (hb : b < m) (hm : m < KK) (hv : (lb m 0 * v + 1) % 18446744073709551616 = 0) {t4 q u4 u5 c3 cc : Int}
  (ht4 : t4 = ((hN m v a b i / KK : Nat) : Int)) (hq : q = ms (hN m v a b i) b (lb a i) 0 * v % 18446744073709551616)
  (hu4 : u4 = (t4 + mc (hN m v a b i) b (lb a i) 4) % 18446744073709551616) (hu5 : u5 = (t4 + mc (hN m v a b i) b (lb a i) 4) / 18446744073709551616)
  (hc3 : c3 = (u4 + nc (hN m v a b i) b m (lb a i) q 4) % 18446744073709551616) (hcc : cc = (u4 + nc (hN m v a b i) b m (lb a i) q 4) / 18446744073709551616) :
  hN m v a b (i + 1) < 2 * m ∧ 18446744073709551616 * (hN m v a b (i + 1) : Int) = hN m v a b i + lb a i * b + q * m ∧
  lb (hN m v a b (i + 1)) 0 = ns (hN m v a b i) b m (lb a i) q 1 ∧ lb (hN m v a b (i + 1)) 1 = ns (hN m v a b i) b m (lb a i) q 2 ∧ lb (hN m v a b (i + 1)) 2 = ns (hN m v a b i) b m (lb a i) q 3 ∧ lb (hN m v a b (i + 1)) 3 = c3 ∧ u5 + cc = ((hN m v a b (i + 1) / KK : Nat) : Int) := by
 obtain ⟨T', h1, h2, h3⟩ := mont_step hT hb hm (lb_nn a i) (lb_lt a i) hv ht4 hq hu4 hu5 hc3 hcc
 have e : hN m v a b (i + 1) = T' := by
  show (((hN m v a b i : Nat) + lb a i * b + (ms (hN m v a b i) b (lb a i) 0 * v % 18446744073709551616) * m) / 18446744073709551616).toNat = T'
  rw [← hq, ← h2]
  omega
 rw [e]
 exact ⟨h1, h2, h3⟩
theorem hN_lt {m : Nat} {v : Int} {a b : Nat} (hb : b < m) (hm : m < KK) (hv : (lb m 0 * v + 1) % 18446744073709551616 = 0) : ∀ i, hN m v a b i < 2 * m ∧ ∃ Q : Int, (hN m v a b i : Int) * ((18446744073709551616 ^ i : Nat) : Int) = ((a % 18446744073709551616 ^ i : Nat) : Int) * b + Q * m := by
 intro i
 induction i with
 | zero => exact ⟨by show 0 < 2 * m; omega, 0, pow_zero_inv a b m⟩
 | succ i ih =>
  obtain ⟨h1, Q, hQ⟩ := ih
  obtain ⟨g1, g2, _⟩ := hN_step (i := i) h1 hb hm hv rfl rfl rfl rfl rfl rfl
  exact ⟨g1, _, inv_step hQ g2⟩
theorem halfM_spec {m : Nat} {v : Int} {a b : Nat} (ha : a < KK) (hb : b < m) (hm : m < KK) (hv : (lb m 0 * v + 1) % 18446744073709551616 = 0) : halfM m v a b < m ∧ (halfM m v a b * KK) % m = (a * b) % m := by
 obtain ⟨_, Q, hQ⟩ := hN_lt (a := a) hb hm hv 4
 rw [halfM_eq]
 exact mont_top (by omega) hQ ha
theorem mul_half {m s : Nat} {v : Int} (ok : ModOK m s v) {a b : Nat} (ha : a < m) (hb : b < m) : halfM m v (halfM m v a b) s = mmul m a b := by
 have hs : s < m := by rw [ok.sq]; exact Nat.mod_lt _ ok.pos
 obtain ⟨h1, h2⟩ := halfM_spec (a := a) (Nat.lt_trans ha ok.lt) hb ok.lt ok.inv
 obtain ⟨h3, h4⟩ := halfM_spec (a := halfM m v a b) (b := s) (Nat.lt_trans h1 ok.lt) hs ok.lt ok.inv
 obtain ⟨u, hu⟩ := ok.co
 rw [mmul_eq]
 exact mont_mul hu ok.sq h2 h4 h3
theorem natL_bd (x : Nat) : ∀ b ∈ [lb x 0, lb x 1, lb x 2, lb x 3], 0 ≤ b ∧ b < 2 ^ 64 := by
 intro b hb
 simp only [List.mem_cons, List.not_mem_nil, or_false] at hb
 rcases hb with rfl | rfl | rfl | rfl <;> exact ⟨lb_nn _ _, lb_lt _ _⟩
theorem natOf_mod {l : List Int} (hl : l.length = 4) (hr : ∀ x ∈ l, okI .u64 x) {z : Nat} (h : l = natL z) : natOf l = z % two256 := by
 obtain ⟨h1, h2⟩ := natOf_rel hl hr
 have hm : z % two256 < two256 := Nat.mod_lt _ (by decide)
 have e : natL (natOf l) = natL (z % two256) := by
  rw [h2, h]; unfold natL two256
  rw [lb_modK z (i := 0) (by omega), lb_modK z (i := 1) (by omega), lb_modK z (i := 2) (by omega), lb_modK z (i := 3) (by omega)]
 have := natL_inj h1 hm
 rw [e] at this
 simp at this
 exact this
theorem natOf_limbs (z : Nat) : natOf [lb z 0, lb z 1, lb z 2, lb z 3] = z % two256 :=
 natOf_mod rfl (fun v hv => okI_u64.2 (by have := natL_bd z v hv; omega)) rfl
theorem natOf_natL {x : Nat} (h : x < two256) : natOf (natL x) = x := by
 have := natOf_limbs x
 rw [Nat.mod_eq_of_lt h] at this; exact this
def a64 (x y c : Int) : Int := (x + y + c) % 18446744073709551616
def k64 (x y c : Int) : Int := (x + y + c) / 18446744073709551616
def s64 (x y c : Int) : Int := (x - y - c) % 18446744073709551616
def b64 (x y c : Int) : Int := bor x (y + c)
theorem add_limbs {x y : Nat} (hx : x < two256) (hy : y < two256) :
  natOf [a64 (lb x 0) (lb y 0) 0, a64 (lb x 1) (lb y 1) (k64 (lb x 0) (lb y 0) 0), a64 (lb x 2) (lb y 2) (k64 (lb x 1) (lb y 1) (k64 (lb x 0) (lb y 0) 0)), a64 (lb x 3) (lb y 3) (k64 (lb x 2) (lb y 2) (k64 (lb x 1) (lb y 1) (k64 (lb x 0) (lb y 0) 0)))] = ladd x y ∧
  (k64 (lb x 3) (lb y 3) (k64 (lb x 2) (lb y 2) (k64 (lb x 1) (lb y 1) (k64 (lb x 0) (lb y 0) 0))) != 0) = lover x y := by
 have e0 : lb x 0 + lb y 0 + 0 = lb x 0 + lb y 0 := Int.add_zero _
 obtain ⟨⟨r0, r1, r2, r3⟩, r4⟩ := lb_add hx hy (c1 := k64 (lb x 0) (lb y 0) 0) (c2 := k64 (lb x 1) (lb y 1) (k64 (lb x 0) (lb y 0) 0)) (c3 := k64 (lb x 2) (lb y 2) (k64 (lb x 1) (lb y 1) (k64 (lb x 0) (lb y 0) 0))) (c4 := k64 (lb x 3) (lb y 3) (k64 (lb x 2) (lb y 2) (k64 (lb x 1) (lb y 1) (k64 (lb x 0) (lb y 0) 0)))) (by unfold k64; rw [e0]) rfl rfl rfl
 refine ⟨?_, ?_⟩
 ·have h0 : a64 (lb x 0) (lb y 0) 0 = lb (x + y) 0 := by rw [r0]; unfold a64; rw [e0]
  rw [h0, show a64 (lb x 1) (lb y 1) (k64 (lb x 0) (lb y 0) 0) = lb (x + y) 1 from r1.symm, show a64 (lb x 2) (lb y 2) _ = lb (x + y) 2 from r2.symm, show a64 (lb x 3) (lb y 3) _ = lb (x + y) 3 from r3.symm, natOf_limbs, ladd_eq]
 ·rw [r4, lover_eq]; exact carry_dec _
theorem sub_limbs {x y : Nat} (hx : x < two256) (hy : y < two256) :
  natOf [s64 (lb x 0) (lb y 0) 0, s64 (lb x 1) (lb y 1) (b64 (lb x 0) (lb y 0) 0), s64 (lb x 2) (lb y 2) (b64 (lb x 1) (lb y 1) (b64 (lb x 0) (lb y 0) 0)), s64 (lb x 3) (lb y 3) (b64 (lb x 2) (lb y 2) (b64 (lb x 1) (lb y 1) (b64 (lb x 0) (lb y 0) 0)))] = lsub x y ∧
  (b64 (lb x 3) (lb y 3) (b64 (lb x 2) (lb y 2) (b64 (lb x 1) (lb y 1) (b64 (lb x 0) (lb y 0) 0))) != 0) = lless x y := by
 have hz : ((two256 + x - y : Nat) : Int) = 115792089237316195423570985008687907853269984665640564039457584007913129639936 + ((x : Int) - y) := by unfold two256 at *; omega
 have e0 : lb x 0 - lb y 0 - 0 = lb x 0 - lb y 0 := Int.sub_zero _
 have e1 : lb y 0 + 0 = lb y 0 := Int.add_zero _
 obtain ⟨⟨r0, r1, r2, r3⟩, r4⟩ := lb_sub hx hy (z := two256 + x - y) (c1 := b64 (lb x 0) (lb y 0) 0) (c2 := b64 (lb x 1) (lb y 1) (b64 (lb x 0) (lb y 0) 0)) (c3 := b64 (lb x 2) (lb y 2) (b64 (lb x 1) (lb y 1) (b64 (lb x 0) (lb y 0) 0))) (c4 := b64 (lb x 3) (lb y 3) (b64 (lb x 2) (lb y 2) (b64 (lb x 1) (lb y 1) (b64 (lb x 0) (lb y 0) 0)))) (by unfold b64; rw [e1]) rfl rfl rfl hz
 refine ⟨?_, ?_⟩
 ·have h0 : s64 (lb x 0) (lb y 0) 0 = lb (two256 + x - y) 0 := by rw [r0]; unfold s64; rw [e0]
  rw [h0, show s64 (lb x 1) (lb y 1) (b64 (lb x 0) (lb y 0) 0) = lb (two256 + x - y) 1 from r1.symm, show s64 (lb x 2) (lb y 2) _ = lb (two256 + x - y) 2 from r2.symm, show s64 (lb x 3) (lb y 3) _ = lb (two256 + x - y) 3 from r3.symm, natOf_limbs, lsub_eq]
 ·rw [r4, lless_eq]
  by_cases h : x < y
  ·rw [if_pos h]; simp [h]
  ·rw [if_neg h]; simp [h]
def cmp64 (x y : Int) : Int := if x < y then -1 else if y < x then 1 else 0
theorem cmp_limbs {x y : Nat} (hx : x < two256) (hy : y < two256) :
  (bif lb x 3 != lb y 3 then cmp64 (lb x 3) (lb y 3) else bif lb x 2 != lb y 2 then cmp64 (lb x 2) (lb y 2) else bif lb x 1 != lb y 1 then cmp64 (lb x 1) (lb y 1) else bif lb x 0 != lb y 0 then cmp64 (lb x 0) (lb y 0) else 0) = lcmp x y := by
 rw [lcmp_eq]
 obtain ⟨a1, a2, a3, a4⟩ := lb_lt_iff hx hy
 obtain ⟨b1, b2, b3, b4⟩ := lb_lt_iff hy hx
 have key : ∀ {u v : Int}, u ≠ v → (u < v → x < y) → (v < u → y < x) → cmp64 u v = cmpN x y := by
  intro u v hne h1 h2
  unfold cmp64 cmpN
  by_cases h : u < v
  ·have := h1 h
   rw [if_pos h, if_pos this]
  ·have h3 : v < u := by omega
   have h4 := h2 h3
   rw [if_neg h, if_pos h3, if_neg (by omega), if_pos h4]
 by_cases h3 : lb x 3 = lb y 3
 ·by_cases h2 : lb x 2 = lb y 2
  ·by_cases h1 : lb x 1 = lb y 1
   ·by_cases h0 : lb x 0 = lb y 0
    ·have e : x = y := by
      have h := natL_inj hx hy
      rw [show natL x = natL y by unfold natL; rw [h0, h1, h2, h3]] at h
      simp at h; exact h
     subst e
     simp [cmpN]
    ·simp only [h3, h2, h1, bne_self_eq_false, cond_false]
     rw [show (lb x 0 != lb y 0) = true by simpa using h0]
     exact key h0 (fun h => a4 h3 h2 h1 h) (fun h => b4 h3.symm h2.symm h1.symm h)
   ·simp only [h3, h2, bne_self_eq_false, cond_false]
    rw [show (lb x 1 != lb y 1) = true by simpa using h1]
    exact key h1 (fun h => a3 h3 h2 h) (fun h => b3 h3.symm h2.symm h)
  ·simp only [h3, bne_self_eq_false, cond_false]
   rw [show (lb x 2 != lb y 2) = true by simpa using h2]
   exact key h2 (fun h => a2 h3 h) (fun h => b2 h3.symm h)
 ·rw [show (lb x 3 != lb y 3) = true by simpa using h3]
  exact key h3 a1 b1
theorem toNat_of (x : Nat) : (BitVec.ofInt 64 (x : Int)).toNat = x % 18446744073709551616 := by
 simp
theorem pk_t (x y : Int) (hx : okI .u64 x) : ior .u64 (iand .u64 x 18446744073709551615) (iandn .u64 y 18446744073709551615) = x := by
 obtain ⟨h0, h1⟩ := okI_u64.1 hx
 have e1 : iandn .u64 y 18446744073709551615 = 0 := by
  unfold iandn
  rw [show BitVec.ofInt IntKind.u64.bits (18446744073709551615 : Int) = BitVec.allOnes IntKind.u64.bits from rfl]
  simp; rfl
 have e2 : iand .u64 x 18446744073709551615 = x := by
  unfold iand
  rw [show BitVec.ofInt IntKind.u64.bits (18446744073709551615 : Int) = BitVec.allOnes IntKind.u64.bits from rfl, BitVec.and_allOnes]
  obtain ⟨x, rfl⟩ := Int.eq_ofNat_of_zero_le h0
  rw [show (BitVec.ofInt IntKind.u64.bits (x : Int)).toNat = x % 18446744073709551616 from toNat_of x, wu64_mod]
  omega
 rw [e1, e2]
 unfold ior
 rw [show BitVec.ofInt IntKind.u64.bits (0 : Int) = 0#_ from rfl, BitVec.or_zero]
 obtain ⟨x, rfl⟩ := Int.eq_ofNat_of_zero_le h0
 rw [show (BitVec.ofInt IntKind.u64.bits (x : Int)).toNat = x % 18446744073709551616 from toNat_of x, wu64_mod]
 omega
theorem pk_f (x y : Int) (hy : okI .u64 y) : ior .u64 (iand .u64 x 0) (iandn .u64 y 0) = y := by
 obtain ⟨h0, h1⟩ := okI_u64.1 hy
 have e1 : iand .u64 x 0 = 0 := by
  unfold iand
  rw [show BitVec.ofInt IntKind.u64.bits (0 : Int) = 0#_ from rfl, BitVec.and_zero]
  rfl
 have e2 : iandn .u64 y 0 = y := by
  unfold iandn
  rw [show ~~~(BitVec.ofInt IntKind.u64.bits (0 : Int)) = BitVec.allOnes IntKind.u64.bits from rfl, BitVec.and_allOnes]
  obtain ⟨x, rfl⟩ := Int.eq_ofNat_of_zero_le h0
  rw [show (BitVec.ofInt IntKind.u64.bits (x : Int)).toNat = x % 18446744073709551616 from toNat_of x, wu64_mod]
  omega
 rw [e1, e2]
 unfold ior
 rw [show BitVec.ofInt IntKind.u64.bits (0 : Int) = 0#_ from rfl, BitVec.zero_or]
 obtain ⟨x, rfl⟩ := Int.eq_ofNat_of_zero_le h0
 rw [show (BitVec.ofInt IntKind.u64.bits (x : Int)).toNat = x % 18446744073709551616 from toNat_of x, wu64_mod]
 omega
theorem and_one {z : Nat} (hz : z < 18446744073709551616) : iand .u64 (z : Int) 1 = ((z % 2 : Nat) : Int) := by
 unfold iand
 rw [BitVec.toNat_and, show (BitVec.ofInt IntKind.u64.bits (z : Int)).toNat = z % 18446744073709551616 from toNat_of z, show (BitVec.ofInt IntKind.u64.bits (1 : Int)).toNat = 1 from rfl, Nat.mod_eq_of_lt hz, Nat.and_one_is_mod, wu64_mod]
 omega
def lbN (x i : Nat) : Nat := x / 2 ^ (64 * i) % 18446744073709551616
theorem lb_lbN (x i : Nat) : lb x i = (lbN x i : Nat) := by
 unfold lb lbN; rfl
theorem bit_of (x : Nat) {a b : Nat} (hb : b < 64) : lbN x a / 2 ^ b % 2 = x / 2 ^ (64 * a + b) % 2 := by
 unfold lbN
 rw [Nat.pow_add, ← Nat.div_div_eq_div_mul]
 generalize x / 2 ^ (64 * a) = z
 have h : 18446744073709551616 = 2 ^ b * 2 ^ (64 - b) := by
  rw [← Nat.pow_add, show b + (64 - b) = 64 by omega]
 rw [h, Nat.mod_mul_right_div_self]
 exact Nat.mod_mod_of_dvd _ ⟨2 ^ (64 - b - 1), by rw [← Nat.pow_succ']; congr 1; omega⟩
theorem limb_bit (x : Nat) {n : Int} (h0 : 0 ≤ n) (h1 : n ≤ 255) : IntKind.i64.wrap (iand IntKind.u64 (ishr IntKind.u64 (lb x (0 + (IntKind.i64.wrap (n.tdiv 64)).toNat * 1)) (n.tmod 64)) 1) = bitI x n := by
 rw [Int.tdiv_eq_ediv_of_nonneg h0, Int.tmod_eq_emod_of_nonneg h0, wi (x := n / 64) (by omega), Nat.zero_add, Nat.mul_one, lb_lbN]
 unfold ishr
 have hb : min (n % 64).toNat IntKind.u64.bits = (n % 64).toNat := by
  show min (n % 64).toNat 64 = _
  omega
 have h2 : (2 : Int) ^ (n % 64).toNat = ((2 ^ (n % 64).toNat : Nat) : Int) := by simp
 have h3 : lbN x (n / 64).toNat / 2 ^ (n % 64).toNat < 18446744073709551616 := Nat.lt_of_le_of_lt (Nat.div_le_self _ _) (Nat.mod_lt _ (by decide))
 rw [hb, h2, Int.fdiv_eq_ediv_of_nonneg _ (Int.natCast_nonneg _), ← Int.natCast_ediv, and_one h3, bit_of x (by omega), show 64 * (n / 64).toNat + (n % 64).toNat = n.toNat by omega, bitI_eq, wi]
 have := Nat.mod_lt (x / 2 ^ n.toNat) (show 0 < 2 by omega)
 generalize x / 2 ^ n.toNat % 2 = z at *
 omega
theorem and_32 {z : Nat} (hz : z < 18446744073709551616) : iand .u64 (z : Int) 4294967295 = ((z % 4294967296 : Nat) : Int) := by
 unfold iand
 rw [BitVec.toNat_and, show (BitVec.ofInt IntKind.u64.bits (z : Int)).toNat = z % 18446744073709551616 from toNat_of z, show (BitVec.ofInt IntKind.u64.bits (4294967295 : Int)).toNat = 2 ^ 32 - 1 from rfl, Nat.mod_eq_of_lt hz, Nat.and_two_pow_sub_one_eq_mod, wu64_mod]
 omega
theorem shr_32 (z : Nat) : ishr .u64 (z : Int) 32 = ((z / 4294967296 : Nat) : Int) := by
 unfold ishr
 rw [show min (32 : Int).toNat IntKind.u64.bits = 32 from rfl, Int.fdiv_eq_ediv_of_nonneg _ (by decide)]
 rfl
def hiM (s a b c : Int) : Int := (s + a * b + c) / 18446744073709551616
def loM (s a b c : Int) : Int := (s + a * b + c) % 18446744073709551616
theorem mul_lt {a b : Nat} (ha : a < 4294967296) (hb : b < 4294967296) : a * b ≤ 18446744065119617025 := Nat.mul_le_mul (show a ≤ 4294967295 by omega) (show b ≤ 4294967295 by omega)
def midM (x y : Int) : Int := IntKind.u64.wrap (IntKind.u64.wrap (ishr .u64 x 32 * iand .u64 y 4294967295) + ishr .u64 (IntKind.u64.wrap (iand .u64 x 4294967295 * iand .u64 y 4294967295)) 32)
def highM (x y : Int) : Int := IntKind.u64.wrap (IntKind.u64.wrap (IntKind.u64.wrap (ishr .u64 x 32 * ishr .u64 y 32) + ishr .u64 (midM x y) 32) + ishr .u64 (IntKind.u64.wrap (iand .u64 (midM x y) 4294967295 + IntKind.u64.wrap (iand .u64 x 4294967295 * ishr .u64 y 32))) 32)
theorem highM_eq {x y : Int} (hx : okI .u64 x) (hy : okI .u64 y) : highM x y = hiM 0 x y 0 := by
 obtain ⟨x0, x1⟩ := okI_u64.1 hx
 obtain ⟨y0, y1⟩ := okI_u64.1 hy
 obtain ⟨x, rfl⟩ := Int.eq_ofNat_of_zero_le x0
 obtain ⟨y, rfl⟩ := Int.eq_ofNat_of_zero_le y0
 have hx : x < 18446744073709551616 := by omega
 have hy : y < 18446744073709551616 := by omega
 have ex : x = 4294967296 * (x / 4294967296) + x % 4294967296 := (Nat.div_add_mod _ _).symm
 have ey : y = 4294967296 * (y / 4294967296) + y % 4294967296 := (Nat.div_add_mod _ _).symm
 have e : ((x * y : Nat) : Int) = ((18446744073709551616 * ((x / 4294967296) * (y / 4294967296)) + 4294967296 * ((x / 4294967296) * (y % 4294967296) + (x % 4294967296) * (y / 4294967296)) + (x % 4294967296) * (y % 4294967296) : Nat) : Int) := by
  congr 1
  conv => lhs; rw [ex, ey]
  grind
 unfold highM midM hiM
 rw [and_32 hx, and_32 hy, shr_32, shr_32]
 simp only [← Int.natCast_mul] at *
 rw [e]
 have a1 : x / 4294967296 < 4294967296 := by omega
 have a2 : y / 4294967296 < 4294967296 := by omega
 have a3 : x % 4294967296 < 4294967296 := by omega
 have a4 : y % 4294967296 < 4294967296 := by omega
 have m1 := mul_lt a1 a2
 have m2 := mul_lt a1 a4
 have m3 := mul_lt a3 a2
 have m4 := mul_lt a3 a4
 clear e ex ey
 generalize x / 4294967296 * (y / 4294967296) = S at *
 generalize x / 4294967296 * (y % 4294967296) = Q at *
 generalize x % 4294967296 * (y / 4294967296) = R at *
 generalize x % 4294967296 * (y % 4294967296) = P at *
 rw [wu64 (x := (P : Int)) (by omega), wu64 (x := (Q : Int)) (by omega), wu64 (x := (R : Int)) (by omega), wu64 (x := (S : Int)) (by omega), shr_32 P, ← Int.natCast_add, wu64 (x := ((Q + P / 4294967296 : Nat) : Int)) (by omega), and_32 (z := Q + P / 4294967296) (by omega), shr_32 (Q + P / 4294967296), ← Int.natCast_add, ← Int.natCast_add, wu64 (x := (((Q + P / 4294967296) % 4294967296 + R : Nat) : Int)) (by omega), wu64 (x := ((S + (Q + P / 4294967296) / 4294967296 : Nat) : Int)) (by omega), shr_32, ← Int.natCast_add, wu64 (by omega)]
 omega
theorem lowM_eq {x y : Int} : IntKind.u64.wrap (x * y) = loM 0 x y 0 := by
 unfold loM
 rw [wu64_mod, Int.zero_add, Int.add_zero]
def kA (x y : Nat) : Nat → Int
 | 0 => 0
 | i + 1 => k64 (lb x i) (lb y i) (kA x y i)
def kS (x y : Nat) : Nat → Int
 | 0 => 0
 | i + 1 => b64 (lb x i) (lb y i) (kS x y i)
def aL (x y : Nat) : List Int := [a64 (lb x 0) (lb y 0) (kA x y 0), a64 (lb x 1) (lb y 1) (kA x y 1), a64 (lb x 2) (lb y 2) (kA x y 2), a64 (lb x 3) (lb y 3) (kA x y 3)]
def sL (x y : Nat) : List Int := [s64 (lb x 0) (lb y 0) (kS x y 0), s64 (lb x 1) (lb y 1) (kS x y 1), s64 (lb x 2) (lb y 2) (kS x y 2), s64 (lb x 3) (lb y 3) (kS x y 3)]
def cO (c : Int) : Prop := 0 ≤ c ∧ c ≤ 1
theorem kA_bd (x y i : Nat) : cO (kA x y i) := by
 unfold cO
 induction i with
 | zero => simp [kA]
 | succ i ih =>
  have a := lb_nn x i; have b := lb_lt x i; have e := lb_nn y i; have d := lb_lt y i
  unfold kA k64; omega
theorem kS_bd (x y i : Nat) : cO (kS x y i) := by
 unfold cO
 cases i with
 | zero => simp [kS]
 | succ i => unfold kS b64 bor; split <;> omega
end Go.Chr
/- Numbers and bytes: plain. -/
namespace Go.Chr
open Go Go.Ab
set_option maxRecDepth 100000
def byt (l : List Int) : Prop := ∀ x ∈ l, 0 ≤ x ∧ x < 256
theorem leN'_lt : ∀ {l : List Int}, byt l → leN' l < 256 ^ l.length
 | [], _ => by decide
 | b :: l, h => by
  have h1 := h b (List.mem_cons_self)
  have h2 := leN'_lt (l := l) fun x hx => h x (List.mem_cons_of_mem _ hx)
  show b.toNat + 256 * leN' l < 256 ^ (l.length + 1)
  rw [Nat.pow_succ]
  omega
theorem leN'_app : ∀ (l m : List Int), leN' (l ++ m) = leN' l + 256 ^ l.length * leN' m
 | [], m => by show leN' m = 0 + 1 * leN' m; omega
 | b :: l, m => by
  show b.toNat + 256 * leN' (l ++ m) = b.toNat + 256 * leN' l + 256 ^ (l.length + 1) * leN' m
  rw [leN'_app l m, Nat.pow_succ, Nat.mul_add, Nat.mul_comm (256 ^ l.length) 256, Nat.mul_assoc]
  omega
noncomputable def leW (l : List Int) : Nat := shut (leN' l)
noncomputable def beW (l : List Int) : Nat := leW l.reverse
theorem leW_eq (l : List Int) : leW l = leN' l := shut_eq _
theorem or_add {a c n : Nat} (ha : a < 2 ^ n) (hs : a + c * 2 ^ n < 18446744073709551616) : ior .u64 (a : Int) ((c * 2 ^ n : Nat) : Int) = ((a + c * 2 ^ n : Nat) : Int) := by
 unfold ior
 rw [BitVec.toNat_or, show (BitVec.ofInt IntKind.u64.bits (a : Int)).toNat = a % 18446744073709551616 from toNat_of a, show (BitVec.ofInt IntKind.u64.bits ((c * 2 ^ n : Nat) : Int)).toNat = (c * 2 ^ n) % 18446744073709551616 from toNat_of _, Nat.mod_eq_of_lt (by omega), Nat.mod_eq_of_lt (by omega)]
 have h := Nat.two_pow_add_eq_or_of_lt ha c
 rw [Nat.mul_comm] at h
 rw [Nat.or_comm, ← h, wu64 (by omega)]
 congr 1; omega
theorem lb_put {A c k r : Nat} (hA : A < 256 ^ (8 * k + r)) (hr : r < 8) (hc : c < 256) (j : Nat) :
  lbN (A + c * 256 ^ (8 * k + r)) j = if j = k then lbN A k + c * 2 ^ (8 * r) else lbN A j := by
 have e8 : ∀ n : Nat, (256 : Nat) ^ (8 * n) = 2 ^ (64 * n) := fun n => by rw [show (256 : Nat) = 2 ^ 8 from rfl, ← Nat.pow_mul, show 8 * (8 * n) = 64 * n by omega]
 have er : (256 : Nat) ^ r = 2 ^ (8 * r) := by rw [show (256 : Nat) = 2 ^ 8 from rfl, ← Nat.pow_mul]
 have e : c * 256 ^ (8 * k + r) = 2 ^ (64 * k) * (c * 2 ^ (8 * r)) := by
  rw [Nat.pow_add, e8, er, Nat.mul_left_comm]
 have hAk : A / 2 ^ (64 * k) < 2 ^ (8 * r) := by
  rw [Nat.div_lt_iff_lt_mul (Nat.two_pow_pos _), ← er, ← e8, Nat.mul_comm, ← Nat.pow_add]; exact hA
 have hr64 : 2 ^ (8 * r) * 256 ≤ 18446744073709551616 := by
  have : (2 : Nat) ^ (8 * r) ≤ 2 ^ 56 := Nat.pow_le_pow_right (by decide) (by omega)
  omega
 have hsum : A / 2 ^ (64 * k) + c * 2 ^ (8 * r) < 18446744073709551616 := by
  have : (c + 1) * 2 ^ (8 * r) ≤ 256 * 2 ^ (8 * r) := Nat.mul_le_mul_right _ (by omega)
  rw [Nat.add_mul] at this
  omega
 have hdiv : (A + 2 ^ (64 * k) * (c * 2 ^ (8 * r))) / 2 ^ (64 * k) = A / 2 ^ (64 * k) + c * 2 ^ (8 * r) := Nat.add_mul_div_left _ _ (Nat.two_pow_pos _)
 unfold lbN
 rw [e]
 by_cases h1 : j = k
 ·subst h1
  rw [if_pos rfl, hdiv, Nat.mod_eq_of_lt hsum, Nat.mod_eq_of_lt (Nat.lt_of_lt_of_le hAk (by omega))]
 ·rw [if_neg h1]
  rcases Nat.lt_or_gt_of_ne h1 with h2 | h2
  ·obtain ⟨d, rfl⟩ : ∃ d, k = j + 1 + d := ⟨k - j - 1, by omega⟩
   have e3 : 2 ^ (64 * (j + 1 + d)) * (c * 2 ^ (8 * r)) = 2 ^ (64 * j) * (18446744073709551616 * (2 ^ (64 * d) * (c * 2 ^ (8 * r)))) := by
    rw [show 64 * (j + 1 + d) = 64 * j + (64 + 64 * d) by omega, Nat.pow_add, Nat.pow_add]
    simp only [Nat.mul_assoc]
   rw [e3, Nat.add_mul_div_left _ _ (Nat.two_pow_pos _), Nat.add_mul_mod_self_left]
  ·obtain ⟨d, rfl⟩ : ∃ d, j = k + 1 + d := ⟨j - k - 1, by omega⟩
   have e4 : ∀ z : Nat, z / 2 ^ (64 * (k + 1 + d)) = z / 2 ^ (64 * k) / 2 ^ (64 * (1 + d)) := fun z => by
    rw [Nat.div_div_eq_div_mul, ← Nat.pow_add, show 64 * (k + 1 + d) = 64 * k + 64 * (1 + d) by omega]
   have h64 : (18446744073709551616 : Nat) ≤ 2 ^ (64 * (1 + d)) := by
    rw [show (18446744073709551616 : Nat) = 2 ^ 64 from rfl]; exact Nat.pow_le_pow_right (by decide) (by omega)
   rw [e4, e4, hdiv, Nat.div_eq_of_lt (Nat.lt_of_lt_of_le hsum h64), Nat.div_eq_of_lt (Nat.lt_of_lt_of_le (Nat.lt_of_lt_of_le hAk (by omega)) h64)]
def leP (l : List Int) (i : Nat) : Nat := leN' (l.take i)
theorem leP_succ {l : List Int} {i : Nat} (hi : i < l.length) : leP l (i + 1) = leP l i + (l.getD i 0).toNat * 256 ^ i := by
 unfold leP
 rw [List.take_succ_eq_append_getElem hi, leN'_app, List.length_take, Nat.min_eq_left (by omega), List.getD_eq_getElem?_getD, List.getElem?_eq_getElem hi]
 show leN' (l.take i) + 256 ^ i * (l[i].toNat + 256 * 0) = _ + l[i].toNat * 256 ^ i
 rw [Nat.mul_zero, Nat.add_zero, Nat.mul_comm]
theorem leP_lt {l : List Int} (h : byt l) {i : Nat} (hi : i ≤ l.length) : leP l i < 256 ^ i := by
 have h1 := leN'_lt (l := l.take i) fun x hx => h x (List.mem_of_mem_take hx)
 rw [List.length_take, Nat.min_eq_left hi] at h1; exact h1
theorem leP_all {l : List Int} {n : Nat} (h : l.length = n) : leP l n = leW l := by
 unfold leP; rw [leW_eq, List.take_of_length_le (by omega)]
theorem byt_getD {l : List Int} (h : byt l) {i : Nat} (hi : i < l.length) : 0 ≤ l.getD i 0 ∧ l.getD i 0 < 256 := by
 rw [List.getD_eq_getElem?_getD, List.getElem?_eq_getElem hi]; exact h _ (List.getElem_mem hi)
theorem natL_set {A k c r : Nat} (hk : k < 4) (hA : A < 256 ^ (8 * k + r)) (hr : r < 8) (hc : c < 256) :
  (natL A).set k ((lbN A k + c * 2 ^ (8 * r) : Nat) : Int) = natL (A + c * 256 ^ (8 * k + r)) := by
 unfold natL
 have e := lb_put (c := c) hA hr hc
 simp only [lb_lbN, e]
 rcases k with _ | _ | _ | _ | k
 ·rfl
 ·rfl
 ·rfl
 ·rfl
 ·omega
theorem ishl_byte {c : Int} (h0 : 0 ≤ c) (h1 : c < 256) {r : Nat} (hr : r < 8) : ishl .u64 (IntKind.u64.wrap c) (8 * (r : Int)) = ((c.toNat * 2 ^ (8 * r) : Nat) : Int) := by
 have e : min (8 * (r : Int)).toNat IntKind.u64.bits = 8 * r := by show min (8 * (r : Int)).toNat 64 = _; omega
 have hp : (2 : Nat) ^ (8 * r) ≤ 2 ^ 56 := Nat.pow_le_pow_right (by decide) (by omega)
 have hq : c.toNat * 2 ^ (8 * r) ≤ 255 * 2 ^ 56 := Nat.mul_le_mul (by omega) hp
 have h2 : (2 : Int) ^ (8 * r) = ((2 ^ (8 * r) : Nat) : Int) := by simp
 unfold ishl
 rw [e, wu64 (x := c) (by omega), h2, show c * ((2 ^ (8 * r) : Nat) : Int) = ((c.toNat * 2 ^ (8 * r) : Nat) : Int) by rw [Int.natCast_mul, Int.toNat_of_nonneg h0], wu64]
 generalize c.toNat * 2 ^ (8 * r) = z at *
 omega
def putB (a c : Int) (r : Int) : Int := ior .u64 a (ishl .u64 (IntKind.u64.wrap c) r)
theorem putB_eq {A k r : Nat} {c : Int} (hA : A < 256 ^ (8 * k + r)) (hr : r < 8) (h0 : 0 ≤ c) (h1 : c < 256) : putB (lb A k) c (8 * (r : Int)) = ((lbN A k + c.toNat * 2 ^ (8 * r) : Nat) : Int) := by
 have e8 : (256 : Nat) ^ (8 * k) = 2 ^ (64 * k) := by rw [show (256 : Nat) = 2 ^ 8 from rfl, ← Nat.pow_mul, show 8 * (8 * k) = 64 * k by omega]
 have er : (256 : Nat) ^ r = 2 ^ (8 * r) := by rw [show (256 : Nat) = 2 ^ 8 from rfl, ← Nat.pow_mul]
 have hAk : A / 2 ^ (64 * k) < 2 ^ (8 * r) := by
  rw [Nat.div_lt_iff_lt_mul (Nat.two_pow_pos _), ← er, ← e8, Nat.mul_comm, ← Nat.pow_add]; exact hA
 have hp : (2 : Nat) ^ (8 * r) ≤ 2 ^ 56 := Nat.pow_le_pow_right (by decide) (by omega)
 have hq : (c.toNat + 1) * 2 ^ (8 * r) ≤ 256 * 2 ^ 56 := Nat.mul_le_mul (by omega) hp
 rw [Nat.add_mul] at hq
 have hl : lbN A k < 2 ^ (8 * r) := by unfold lbN; rw [Nat.mod_eq_of_lt (by omega)]; exact hAk
 unfold putB
 rw [ishl_byte h0 h1 hr, lb_lbN]
 exact or_add hl (by omega)
theorem little_step {l : List Int} (hb : byt l) {i : Nat} (hi : i < l.length) (h4 : i < 32) :
  natOf ((natL (leP l i)).set (i / 8) (putB (lb (leP l i) (i / 8)) (l.getD i 0) (8 * ((i % 8 : Nat) : Int)))) = leP l (i + 1) := by
 obtain ⟨h0, h1⟩ := byt_getD hb hi
 have hA : leP l i < 256 ^ (8 * (i / 8) + i % 8) := by rw [Nat.div_add_mod]; exact leP_lt hb (by omega)
 have hl := leP_lt hb (i := i + 1) (by omega)
 rw [putB_eq hA (by omega) h0 h1, natL_set (by omega) hA (by omega) (by omega), Nat.div_add_mod, ← leP_succ hi, natOf_natL]
 exact Nat.lt_of_lt_of_le hl (show 256 ^ (i + 1) ≤ 256 ^ 32 from Nat.pow_le_pow_right (by decide) (by omega))
def rvL (l : List Int) (i : Nat) : List Int := (List.range l.length).map fun k => if k < i ∨ l.length ≤ k + i then l.getD (l.length - 1 - k) 0 else l.getD k 0
theorem rvL_len (l : List Int) (i : Nat) : (rvL l i).length = l.length := by simp [rvL]
theorem rvL_getD {l : List Int} {i k : Nat} (hk : k < l.length) : (rvL l i).getD k 0 = if k < i ∨ l.length ≤ k + i then l.getD (l.length - 1 - k) 0 else l.getD k 0 := by
 unfold rvL
 rw [List.getD_eq_getElem?_getD, List.getElem?_map, List.getElem?_range hk]; rfl
theorem getD_ext {a b : List Int} (hl : a.length = b.length) (h : ∀ k, k < a.length → a.getD k 0 = b.getD k 0) : a = b := by
 refine List.ext_getElem hl fun k h1 h2 => ?_
 have := h k h1
 rwa [List.getD_eq_getElem?_getD, List.getD_eq_getElem?_getD, List.getElem?_eq_getElem h1, List.getElem?_eq_getElem h2] at this
theorem getD_set (a : List Int) {i k : Nat} (v : Int) (hk : k < a.length) : (a.set i v).getD k 0 = if i = k then v else a.getD k 0 := by
 rw [List.getD_eq_getElem?_getD, List.getD_eq_getElem?_getD, List.getElem?_set]
 by_cases h : i = k
 ·subst h
  rw [if_pos rfl, if_pos hk, if_pos rfl]; rfl
 ·rw [if_neg h, if_neg h]
theorem rvL_zero (l : List Int) : rvL l 0 = l := by
 refine getD_ext (rvL_len l 0) fun k hk => ?_
 rw [rvL_len] at hk
 rw [rvL_getD hk, if_neg (by omega)]
theorem rvL_end {l : List Int} {i : Nat} (h : l.length ≤ 2 * i + 1) : rvL l i = l.reverse := by
 refine getD_ext (by rw [rvL_len, List.length_reverse]) fun k hk => ?_
 rw [rvL_len] at hk
 have e : l.reverse.getD k 0 = l.getD (l.length - 1 - k) 0 := by
  rw [List.getD_eq_getElem?_getD, List.getD_eq_getElem?_getD, List.getElem?_reverse hk]
 rw [rvL_getD hk, e]
 split
 ·rfl
 ·rw [show l.length - 1 - k = k by omega]
theorem rvL_step {l : List Int} {i : Nat} (h : 2 * i + 1 < l.length) : ((rvL l i).set i ((rvL l i).getD (l.length - 1 - i) 0)).set (l.length - 1 - i) ((rvL l i).getD i 0) = rvL l (i + 1) := by
 refine getD_ext (by simp [rvL_len]) fun k hk => ?_
 simp only [List.length_set, rvL_len] at hk
 rw [getD_set _ _ (by simpa [rvL_len] using hk), getD_set _ _ (by simpa [rvL_len] using hk), rvL_getD hk, rvL_getD hk, rvL_getD (by omega), rvL_getD (by omega)]
 by_cases h1 : l.length - 1 - i = k
 ·rw [if_pos h1, if_neg (by omega), if_pos (by omega)]
  congr 1; omega
 ·rw [if_neg h1]
  by_cases h2 : i = k
  ·rw [if_pos h2, if_neg (by omega), if_pos (by omega)]
   congr 1; omega
  ·rw [if_neg h2]
   by_cases h3 : k < i ∨ l.length ≤ k + i
   ·rw [if_pos h3, if_pos (by omega)]
   ·rw [if_neg h3, if_neg (by omega)]
end Go.Chr
/- SHA-512, plain. -/
namespace Go.Chr
open Go Go.Ab
def rotl64 (x n : Int) : Int :=
 ior .u64 (ishl .u64 x (iand .u64 (IntKind.u64.wrap n) 63)) (ishr .u64 x (IntKind.u64.wrap (64 - iand .u64 (IntKind.u64.wrap n) 63)))
def rotr64 (x n : Int) : Int := rotl64 x (IntKind.i64.wrap (0 - n))
def add64 (x y : Int) : Int := IntKind.u64.wrap (x + y)
def wd (m : List Int) : Nat → Int
 | 0 => 0
 | i + 1 => ior .u64 (ishl .u64 (wd m i) 8) (IntKind.u64.wrap (m.getD i 0))
def newW5 (ws : List Int) (t : Nat) : Int :=
 let x := ws.getD (t - 15) 0
 let y := ws.getD (t - 2) 0
 add64 (add64 (add64 (ixor .u64 (ixor .u64 (rotr64 y 19) (rotr64 y 61)) (ishr .u64 y 6)) (ws.getD (t - 7) 0)) (ixor .u64 (ixor .u64 (rotr64 x 1) (rotr64 x 8)) (ishr .u64 x 7))) (ws.getD (t - 16) 0)
def ws5 (l : List Int) : Nat → List Int
 | 0 => List.replicate 80 0
 | n + 1 => (ws5 l n).set n (wd ((l.drop (8 * n)).take 8) 8)
def wsM (l : List Int) : Nat → List Int
 | 0 => ws5 l 16
 | n + 1 => (wsM l n).set (16 + n) (newW5 (wsM l n) (16 + n))
def rnd64 (ks ws : List Int) (t : Nat) (s : List Int) : List Int :=
 let a := s.getD 0 0
 let b := s.getD 1 0
 let c := s.getD 2 0
 let d := s.getD 3 0
 let e := s.getD 4 0
 let f := s.getD 5 0
 let g := s.getD 6 0
 let h := s.getD 7 0
 let t1 := add64 (add64 (add64 (add64 h (ixor .u64 (ixor .u64 (rotr64 e 14) (rotr64 e 18)) (rotr64 e 41))) (ixor .u64 (iand .u64 e f) (iand .u64 (inot .u64 e) g))) (ks.getD t 0)) (ws.getD t 0)
 let t2 := add64 (ixor .u64 (ixor .u64 (rotr64 a 28) (rotr64 a 34)) (rotr64 a 39)) (ixor .u64 (ixor .u64 (iand .u64 a b) (iand .u64 a c)) (iand .u64 b c))
 [add64 t1 t2, a, b, c, add64 d t1, e, f, g]
def rN64 (ks ws s : List Int) : Nat → List Int
 | 0 => s
 | n + 1 => rnd64 ks ws n (rN64 ks ws s n)
def sum8 (s v : List Int) : List Int := [add64 (s.getD 0 0) (v.getD 0 0), add64 (s.getD 1 0) (v.getD 1 0), add64 (s.getD 2 0) (v.getD 2 0), add64 (s.getD 3 0) (v.getD 3 0), add64 (s.getD 4 0) (v.getD 4 0), add64 (s.getD 5 0) (v.getD 5 0), add64 (s.getD 6 0) (v.getD 6 0), add64 (s.getD 7 0) (v.getD 7 0)]
def take5 (ks s l : List Int) : List Int := sum8 s (rN64 ks (wsM l 64) s 80)
theorem ws5_len (l : List Int) : ∀ n, (ws5 l n).length = 80
 | 0 => by simp [ws5]
 | n + 1 => by simp [ws5, ws5_len l n]
theorem ws5_rest (l : List Int) : ∀ n k, n ≤ k → k < 80 → (ws5 l n).getD k 0 = 0
 | 0, k, _, hk => by
  unfold ws5
  rw [List.getD_eq_getElem?_getD, List.getElem?_replicate, if_pos hk]; rfl
 | n + 1, k, h, hk => by
  unfold ws5
  rw [getD_set _ _ (by rw [ws5_len]; exact hk), if_neg (by omega), ws5_rest l n k (by omega) hk]
theorem ws5_zero {l : List Int} {n : Nat} (h : n < 80) : (ws5 l n).set n (wd ((l.drop (8 * n)).take 8) 0) = ws5 l n := by
 refine getD_ext (by simp) fun k hk => ?_
 simp only [List.length_set] at hk
 rw [getD_set _ _ hk]
 split
 ·rename_i e; subst e
  rw [ws5_rest l n n (Nat.le_refl _) h]; rfl
 ·rfl
end Go.Chr
/- SHA-256, plain. -/
namespace Go.Chr
open Go Go.Ab
def rotl32 (x n : Int) : Int :=
 ior .u32 (ishl .u32 x (iand .u64 (IntKind.u64.wrap n) 31)) (ishr .u32 x (IntKind.u64.wrap (32 - iand .u64 (IntKind.u64.wrap n) 31)))
def rotr32 (x n : Int) : Int := rotl32 x (IntKind.i64.wrap (0 - n))
def add32 (x y : Int) : Int := IntKind.u32.wrap (x + y)
def word32 (l : List Int) : Int :=
 ior .u32 (ior .u32 (ior .u32 (ishl .u32 (IntKind.u32.wrap (l.getD 0 0)) 24) (ishl .u32 (IntKind.u32.wrap (l.getD 1 0)) 16)) (ishl .u32 (IntKind.u32.wrap (l.getD 2 0)) 8)) (IntKind.u32.wrap (l.getD 3 0))
def newW (ws : List Int) (t : Nat) : Int :=
 let x := ws.getD (t - 15) 0
 let y := ws.getD (t - 2) 0
 add32 (add32 (add32 (ixor .u32 (ixor .u32 (rotr32 y 17) (rotr32 y 19)) (ishr .u32 y 10)) (ws.getD (t - 7) 0)) (ixor .u32 (ixor .u32 (rotr32 x 7) (rotr32 x 18)) (ishr .u32 x 3))) (ws.getD (t - 16) 0)
def ws0 (l : List Int) : Nat → List Int
 | 0 => List.replicate 64 0
 | n + 1 => (ws0 l n).set n (word32 (l.drop (4 * n)))
def wsN (l : List Int) : Nat → List Int
 | 0 => ws0 l 16
 | n + 1 => (wsN l n).set (16 + n) (newW (wsN l n) (16 + n))
def rnd32 (ks ws : List Int) (t : Nat) (s : List Int) : List Int :=
 let a := s.getD 0 0
 let b := s.getD 1 0
 let c := s.getD 2 0
 let d := s.getD 3 0
 let e := s.getD 4 0
 let f := s.getD 5 0
 let g := s.getD 6 0
 let h := s.getD 7 0
 let t1 := add32 (add32 (add32 (add32 h (ixor .u32 (ixor .u32 (rotr32 e 6) (rotr32 e 11)) (rotr32 e 25))) (ixor .u32 (iand .u32 e f) (iand .u32 (inot .u32 e) g))) (ks.getD t 0)) (ws.getD t 0)
 let t2 := add32 (ixor .u32 (ixor .u32 (rotr32 a 2) (rotr32 a 13)) (rotr32 a 22)) (ixor .u32 (ixor .u32 (iand .u32 a b) (iand .u32 a c)) (iand .u32 b c))
 [add32 t1 t2, a, b, c, add32 d t1, e, f, g]
def rN32 (ks ws s : List Int) : Nat → List Int
 | 0 => s
 | n + 1 => rnd32 ks ws n (rN32 ks ws s n)
def add8 (s v : List Int) : List Int := [add32 (s.getD 0 0) (v.getD 0 0), add32 (s.getD 1 0) (v.getD 1 0), add32 (s.getD 2 0) (v.getD 2 0), add32 (s.getD 3 0) (v.getD 3 0), add32 (s.getD 4 0) (v.getD 4 0), add32 (s.getD 5 0) (v.getD 5 0), add32 (s.getD 6 0) (v.getD 6 0), add32 (s.getD 7 0) (v.getD 7 0)]
def shaTake (ks s l : List Int) : List Int := add8 s (rN32 ks (wsN l 48) s 64)
theorem ws0_len (l : List Int) : ∀ n, (ws0 l n).length = 64
 | 0 => by simp [ws0]
 | n + 1 => by simp [ws0, ws0_len l n]
end Go.Chr
namespace Go.Chr
open Go Go.Ab
def shaRun (ks s m : List Int) : Nat → List Int
 | 0 => s
 | k + 1 => shaTake ks (shaRun ks s m k) ((m.drop (64 * k)).take 64)
def orFirst (h s : List Int) (n : Int) : List Int := bif n == 0 then h else s
end Go.Chr
namespace Go.Chr
open Go Go.Ab
def padZ (n : Nat) : Nat := (119 - n % 64) % 64
def len8 (n : Int) : List Int := (List.range 8).map fun (i : Nat) => IntKind.u8.wrap (ishr .u64 (IntKind.u64.wrap (8 * n)) ((56 : Int) - 8 * (i : Int)))
def shaPad (r : List Int) (n : Int) : List Int := r ++ [128] ++ List.replicate (padZ r.length) 0 ++ len8 n
def bytes4 (w : Int) : List Int := [IntKind.u8.wrap (ishr .u32 w 24), IntKind.u8.wrap (ishr .u32 w 16), IntKind.u8.wrap (ishr .u32 w 8), IntKind.u8.wrap w]
def shaOut (S : List Int) : List Int := (List.range 8).flatMap fun i => bytes4 (S.getD i 0)
def shaEnd (ks S r : List Int) (n : Int) : List Int := shaOut (shaRun ks S (shaPad r n) ((shaPad r n).length / 64))
theorem len8_len (n : Int) : (len8 n).length = 8 := by simp [len8]
theorem shaPad_len (r : List Int) (n : Int) : (shaPad r n).length % 64 = 0 := by
 unfold shaPad padZ
 simp only [List.length_append, List.length_replicate, len8_len, List.length_cons, List.length_nil]
 omega
end Go.Chr
namespace Go.Chr
open Go Go.Ab
theorem shaRun_prefix (ks s m l : List Int) : ∀ k, 64 * k ≤ m.length → shaRun ks s (m ++ l) k = shaRun ks s m k
 | 0, _ => rfl
 | k + 1, h => by
  unfold shaRun
  rw [shaRun_prefix ks s m l k (by omega), List.drop_append_of_le_length (by omega), List.take_append_of_le_length (by simp; omega)]
theorem shaRun_add (ks s m : List Int) (a : Nat) : ∀ b, shaRun ks s m (a + b) = shaRun ks (shaRun ks s m a) (m.drop (64 * a)) b
 | 0 => rfl
 | b + 1 => by
  show shaTake ks (shaRun ks s m (a + b)) ((m.drop (64 * (a + b))).take 64) = _
  rw [shaRun_add ks s m a b]
  show _ = shaTake ks _ (((m.drop (64 * a)).drop (64 * b)).take 64)
  rw [List.drop_drop, Nat.mul_add]
def shaRest (m : List Int) : List Int := m.drop (64 * (m.length / 64))
def shaSt (ks h m : List Int) : List Int := shaRun ks h m (m.length / 64)
def shaF (ks h m : List Int) : List Int := shaEnd ks (shaSt ks h m) (shaRest m) m.length
theorem shaRest_len (m : List Int) : (shaRest m).length = m.length - 64 * (m.length / 64) := by simp [shaRest]
theorem sha_more (ks h m l : List Int) : shaRun ks (shaSt ks h m) (shaRest m ++ l) ((shaRest m ++ l).length / 64) = shaSt ks h (m ++ l) ∧ (shaRest m ++ l).drop (64 * ((shaRest m ++ l).length / 64)) = shaRest (m ++ l) ∧
  (shaRest m ++ l).length - 64 * ((shaRest m ++ l).length / 64) = (shaRest (m ++ l)).length := by
 have hl : (shaRest m ++ l).length = m.length - 64 * (m.length / 64) + l.length := by rw [List.length_append, shaRest_len]
 have hq : (m ++ l).length / 64 = m.length / 64 + (shaRest m ++ l).length / 64 := by rw [hl, List.length_append]; omega
 have hd : (m ++ l).drop (64 * (m.length / 64)) = shaRest m ++ l := by
  unfold shaRest
  rw [List.drop_append_of_le_length (by omega)]
 have h2 : (shaRest m ++ l).drop (64 * ((shaRest m ++ l).length / 64)) = shaRest (m ++ l) := by
  show _ = (m ++ l).drop (64 * ((m ++ l).length / 64))
  rw [hq, Nat.mul_add, ← List.drop_drop, hd]
 refine ⟨?_, h2, ?_⟩
 ·show _ = shaRun ks h (m ++ l) ((m ++ l).length / 64)
  rw [hq, shaRun_add, hd, shaRun_prefix ks h m l _ (by omega)]
  rfl
 ·rw [← h2, List.length_drop]
theorem orFirst_st (ks h m s : List Int) (hs : m ≠ [] → s = shaSt ks h m) : orFirst h s (m.length : Int) = shaSt ks h m := by
 unfold orFirst
 cases m with
 | nil => rfl
 | cons x m =>
  have : ((((x :: m).length : Nat) : Int) == 0) = false := by simp; omega
  rw [this]; exact hs (by simp)
end Go.Chr
/- SHA-512: the hash, plain. -/
namespace Go.Chr
open Go Go.Ab
def run5 (ks s m : List Int) : Nat → List Int
 | 0 => s
 | k + 1 => take5 ks (run5 ks s m k) ((m.drop (128 * k)).take 128)
def padZ5 (n : Nat) : Nat := (239 - n % 128) % 128
def pad5 (l : List Int) : List Int := l ++ [128] ++ List.replicate (padZ5 l.length) 0 ++ List.replicate 8 0 ++ len8 l.length
def out5 (S : List Int) : List Int := (List.range 64).map fun (i : Nat) => IntKind.u8.wrap (ishr .u64 (S.getD (i / 8) 0) ((56 : Int) - 8 * ((i % 8 : Nat) : Int)))
def sha5F (ks h l : List Int) : List Int := out5 (run5 ks h (pad5 l) ((pad5 l).length / 128))
theorem pad5_len (l : List Int) : (pad5 l).length % 128 = 0 := by
 unfold pad5 padZ5
 simp only [List.length_append, List.length_replicate, len8_len, List.length_cons, List.length_nil]
 omega
end Go.Chr
