/- Noads, as trees by depth: how they stand in memory; what reads as data stands so, and weighs no more. No program's code. -/
import Derived.Test.YtaoepeiadhdbaaaDoorRows
import Derived.Test.YtaoepeiadhdbaaaDoorPx0
import Derived.ProofKit
import Derived.OpenShut
import Derived.ChangeOld
import Derived.Deep.Slices
namespace Go.Proofs.YtaoepeiadhdbaaaDoor.ND
open Go.RowKit Go.ChangeShapes Go.WideShapes Go.Deep Go.Proofs.YtaoepeiadhdbaaaDoorW.PrintWords
set_option linter.unusedVariables false
/-- A noad whose lists hold noads of the kind α. -/
structure Nz (α : Type) where
  kind : Int
  cls : Int
  rune : Int
  n : Int
  lim : Int
  parts : List (List α)
  runes : List Int
  hs : Bool
  hb : Bool
  sup : List α
  sub : List α
/-- Noads that are less deep than k. -/
def Nn : Nat → Type
  | 0 => Empty
  | k + 1 => Nz (Nn k)
def sumL {α : Type} (f : α → Nat) (l : List α) : Nat := (l.map f).sum
theorem sumL_nil {α : Type} (f : α → Nat) : sumL f [] = 0 := rfl
theorem sumL_cons {α : Type} (f : α → Nat) (x : α) (l : List α) : sumL f (x :: l) = f x + sumL f l := by unfold sumL; simp
theorem sumL_append {α : Type} (f : α → Nat) (l m : List α) : sumL f (l ++ m) = sumL f l + sumL f m := by unfold sumL; simp
theorem sumL_mem {α : Type} (f : α → Nat) {x : α} {l : List α} (h : x ∈ l) : f x ≤ sumL f l := by
  induction l with
  | nil => cases h
  | cons y l ih =>
    rw [sumL_cons]
    rcases List.mem_cons.1 h with rfl | h
    · omega
    · have := ih h; omega
theorem sumL_len {α : Type} (f : α → Nat) (l : List α) (h : ∀ x ∈ l, 1 ≤ f x) : l.length ≤ sumL f l := by
  induction l with
  | nil => simp [sumL_nil]
  | cons y l ih =>
    rw [sumL_cons, List.length_cons]
    have h1 := h y (by simp)
    have h2 := ih (fun x hx => h x (by simp [hx]))
    omega
/-- How much a noad weighs: one, each of its delimiters, each part, and what is in its lists. -/
def wtZ {α : Type} (f : α → Nat) (x : Nz α) : Nat := 1 + x.runes.length + sumL (fun p => 1 + sumL f p) x.parts + sumL f x.sup + sumL f x.sub
def wtN : (k : Nat) → Nn k → Nat
  | 0 => fun _ => 0
  | k + 1 => wtZ (wtN k)
def wtL (k : Nat) (l : List (Nn k)) : Nat := sumL (wtN k) l
/-- A slice whose elements read by K, sz cells each. -/
def rdS {α : Type} (K : α → List Value → Prop) (sz : Nat) (w : World) (v : Value) (l : List α) : Prop :=
  ∃ A c, v = .slice A l.length c ∧ l.length ≤ c ∧ ReadsRow K sz w A l.length l
/-- A whole number that is an int. -/
def inI (n : Int) : Prop := -9223372036854775808 ≤ n ∧ n ≤ 9223372036854775807
/-- A noad's eleven cells. -/
def rdZ {α : Type} (K : World → α → List Value → Prop) (w : World) (x : Nz α) (cs : List Value) : Prop :=
  inI x.kind ∧ inI x.cls ∧ inI x.rune ∧ inI x.n ∧ inI x.lim ∧ ∃ vp vr vu vb, cs = [.int .i64 x.kind, .int .i64 x.cls, .int .i64 x.rune, .int .i64 x.n, .int .i64 x.lim, vp, vr, .bool x.hs, .bool x.hb, vu, vb] ∧
    rdS (fun l cs => ∃ v, cs = [v] ∧ rdS (K w) 11 w v l) 1 w vp x.parts ∧ rdS (fun (n : Int) cs => cs = [.int .i64 n] ∧ inI n) 1 w vr x.runes ∧ rdS (K w) 11 w vu x.sup ∧ rdS (K w) 11 w vb x.sub
def rdN : (k : Nat) → World → Nn k → List Value → Prop
  | 0 => fun _ _ _ => False
  | k + 1 => rdZ (rdN k)
def rdL (k : Nat) (w : World) (v : Value) (l : List (Nn k)) : Prop := rdS (rdN k w) 11 w v l
theorem rdS_imp {α : Type} {K K' : α → List Value → Prop} {sz : Nat} {w w' : World} {v : Value} {l : List α} (h : rdS K sz w v l) (hc : ∀ p u, w.cell? p = some u → w'.cell? p = some u) (hK : ∀ x cs, K x cs → K' x cs) : rdS K' sz w' v l := by
  obtain ⟨A, c, e, hl, h1, h2, h3⟩ := h
  refine ⟨A, c, e, hl, h1, h2, fun h0 => ?_⟩
  obtain ⟨ad, ea, hr⟩ := h3 h0
  refine ⟨ad, ea, fun j p hj => ?_⟩
  obtain ⟨cs, g1, g2, g3⟩ := hr j p hj
  exact ⟨cs, g1, hK _ _ g2, fun i u hu => hc _ _ (g3 i u hu)⟩
theorem rdN_keep : ∀ (k : Nat) {w w' : World} (hc : ∀ p u, w.cell? p = some u → w'.cell? p = some u) (x : Nn k) (cs : List Value), rdN k w x cs → rdN k w' x cs
  | 0, _, _, _, _, _, h => h.elim
  | k + 1, w, w', hc, x, cs, h => by
    obtain ⟨r1, r2, r3, r4, r5, vp, vr, vu, vb, e, h1, h2, h3, h4⟩ := h
    refine ⟨r1, r2, r3, r4, r5, vp, vr, vu, vb, e, rdS_imp h1 hc ?_, rdS_imp h2 hc (fun _ _ h => h), rdS_imp h3 hc (rdN_keep k hc), rdS_imp h4 hc (rdN_keep k hc)⟩
    rintro l cs ⟨v, e, h⟩
    exact ⟨v, e, rdS_imp h hc (rdN_keep k hc)⟩
theorem rdL_keep {k : Nat} {w w' : World} {v : Value} {l : List (Nn k)} (h : rdL k w v l) (hc : ∀ p u, w.cell? p = some u → w'.cell? p = some u) : rdL k w' v l := rdS_imp h hc (rdN_keep k hc)
theorem rdL_below {k : Nat} {w w' : World} {v : Value} {l : List (Nn k)} (h : rdL k w v l) (hb : Below w.heap.size w w') : rdL k w' v l :=
  rdL_keep h (fun p u hu => (hb.cell (World.block_lt_of_cell? w _ hu)).trans hu)
/-! ### what reads as data stands so -/
abbrev bulk {H : Type} (d : DataW H) : Nat := Rows.uptoBulk d
abbrev bulks {H : Type} (l : List (DataW H)) : Nat := Rows.uptoBulkAll l
theorem bulks_nil {H : Type} : bulks ([] : List (DataW H)) = 0 := by unfold bulks Rows.uptoBulkAll; rfl
theorem bulks_cons {H : Type} (d : DataW H) (l : List (DataW H)) : bulks (d :: l) = bulk d + bulks l := by unfold bulks bulk; rw [Rows.uptoBulkAll]
theorem bulks_mem {H : Type} {d : DataW H} {l : List (DataW H)} (h : d ∈ l) : bulk d ≤ bulks l := by
  induction l with
  | nil => cases h
  | cons y l ih =>
    rw [bulks_cons]
    rcases List.mem_cons.1 h with rfl | h
    · omega
    · have := ih h; omega
theorem bulk_nil {H : Type} : bulk (.nil : DataW H) = 1 := by unfold bulk; rw [Rows.uptoBulk]
theorem bulk_slice {H : Type} (l m : List (DataW H)) : bulk (.slice l m) = bulks l + bulks m + 1 := by unfold bulk bulks; rw [Rows.uptoBulk]
theorem bulk_agg {H : Type} (l : List (DataW H)) : bulk (.agg l) = bulks l + 1 := by unfold bulk bulks; rw [Rows.uptoBulk]
theorem bulk_pos {H : Type} (d : DataW H) : 1 ≤ bulk d := by
  unfold bulk
  cases d with
  | lit x => cases x <;> (rw [Rows.uptoBulk.eq_def]; first | exact Nat.le_refl _ | exact Nat.le_add_left _ _)
  | _ => rw [Rows.uptoBulk]; omega
theorem sum_le_bulks {H α : Type} (f : α → Nat) (Y : Nat → α) (D : Nat → DataW H) (is : List Nat) (h : ∀ i ∈ is, f (Y i) ≤ bulk (D i)) : sumL f (is.map Y) ≤ bulks (is.map D) := by
  induction is with
  | nil => simp [sumL_nil]
  | cons i is ih =>
    rw [List.map_cons, List.map_cons, sumL_cons, bulks_cons]
    have h1 := h i (by simp)
    have h2 := ih (fun j hj => h j (by simp [hj]))
    omega
/-- A slice, opened: every element opened alike. -/
theorem slice_open {H : Type} {enc : TypeId × Value → H} {W : World} {base : Nat} {spare : Nat → Bool} {held : Bool} {t e : TypeId} {fuel : Nat} {v : Value} {x : DataW H × List MemPlace} {α : Type} (dflt : α) (K : α → List Value → Prop) (f : α → Nat) (sz : Nat)
    (ht : Tryd.prog.underlying t = some (.slice e)) (hsz : Tryd.prog.cellsOf e = sz) (hx : DataW.trod enc Tryd.prog W base spare held fuel t [v] = some x)
    (each : ∀ (n : Nat) cs y, cs.length = sz → DataW.trod enc Tryd.prog W base spare held n e cs = some y → bulk y.1 < bulk x.1 → ∃ z, K z cs ∧ f z ≤ bulk y.1) :
    ∃ l : List α, rdS K sz W v l ∧ sumL f l + 1 ≤ bulk x.1 := by
  rcases open_slice ht hx with ⟨hcs, rfl⟩ | ⟨a, len, cap, m, n, D, Pl, hcs, _, hl, hm, hmm, rfl, hi⟩
  · have ev : v = .slice none 0 0 := by simpa using hcs
    subst ev
    exact ⟨[], ⟨none, 0, rfl, Nat.le_refl _, rfl, by simp, fun h => absurd h (by simp)⟩, by rw [sumL_nil, bulk_nil]; omega⟩
  · have ev : v = .slice (some a) len cap := by simpa using hcs
    subst ev
    have hlm : len ≤ m := by rw [hmm]; split <;> omega
    have hin : ∀ i, i < len → bulk (D i) < bulk (DataW.slice ((List.range len).map D) ((List.range (m - len)).map fun j => D (len + j))) := fun i hi => by
      rw [bulk_slice]
      have := bulks_mem (List.mem_map_of_mem (f := D) (List.mem_range.2 hi))
      omega
    have ex : ∀ i, i < len → ∃ z, (∃ cs, cs.length = sz ∧ K z cs ∧ ∀ j u, cs[j]? = some u → W.cell? (a.add (i * sz + j)) = some u) ∧ f z ≤ bulk (D i) := fun i hi2 => by
      obtain ⟨cs', hc, ht'⟩ := hi i (by omega)
      rw [hsz] at hc
      obtain ⟨_, hcl, hat⟩ := World.cells?_some hc
      obtain ⟨z, hz, hw⟩ := each n cs' _ hcl ht' (hin i hi2)
      refine ⟨z, ⟨cs', hcl, hz, fun j u hu => ?_⟩, hw⟩
      have hj : j < sz := by rw [← hcl]; exact (List.getElem?_eq_some_iff.1 hu).1
      have := hat j hj
      rw [Go.Deep.add_add] at this
      exact this.trans hu
    let Y : Nat → α := fun i => if h : i < len then Classical.choose (ex i h) else dflt
    have hY : ∀ i, i < len → (∃ cs, cs.length = sz ∧ K (Y i) cs ∧ ∀ j u, cs[j]? = some u → W.cell? (a.add (i * sz + j)) = some u) ∧ f (Y i) ≤ bulk (D i) := fun i h => by
      show (∃ cs, cs.length = sz ∧ K (dite _ _ _) cs ∧ _) ∧ f (dite _ _ _) ≤ _
      rw [dif_pos h]
      exact Classical.choose_spec (ex i h)
    have hlen : ((List.range len).map Y).length = len := by simp
    have hmx : maxLen ≤ 9223372036854775807 := by decide
    refine ⟨(List.range len).map Y, ⟨some a, cap, by rw [hlen], by rw [hlen]; exact hl, by rw [hlen], by rw [hlen]; omega, fun _ => ⟨a, rfl, fun j p hj => ?_⟩⟩, ?_⟩
    · have hjl : j < len := by have := (List.getElem?_eq_some_iff.1 hj).1; rwa [hlen] at this
      have hq : Y j = p := by simpa [hjl] using hj
      subst hq
      exact (hY j hjl).1
    · rw [bulk_slice]
      have := sum_le_bulks f Y D (List.range len) (fun i hi => (hY i (List.mem_range.1 hi)).2)
      omega
end Go.Proofs.YtaoepeiadhdbaaaDoor.ND
