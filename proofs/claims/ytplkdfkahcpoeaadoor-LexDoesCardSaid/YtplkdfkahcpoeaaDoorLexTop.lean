/- Layer 19: the closed example of the laws, walked; rows of tokens in a block. Condition: the library's tables stand. -/
import Derived.Test.YtplkdfkahcpoeaaDoorLexJoin
import Derived.Test.YtplkdfkahcpoeaaDoorPx4
namespace Go.Proofs.YtplkdfkahcpoeaaDoor.P
open Go.Shelf Go.RowKit Go.Proofs.YtplkdfkahcpoeaaDoorW.PrintWords Go.Proofs.YtplkdfkahcpoeaaDoorW.PrintLast Go.Proofs.YtplkdfkahcpoeaaDoorW.PrintMore
set_option linter.unusedVariables false
set_option linter.unusedSimpArgs false
set_option maxRecDepth 100000
theorem all_reads (s : ByteArray) (w : World) (hT : LexTabs w) : Calls Tryd.prog 8 #[.string s] w fun e w' => ∃ A c, e = .returned (.tuple #[.slice A (allS s).1.length c, .int .i64 (allS s).2.1, .int .i64 (allS s).2.2]) ∧ (allS s).1.length ≤ c ∧ Kd.C k37 w' A (allS s).1.length (allS s).1 ∧ Below w.heap.size w w' := by
  refine (all_calls s w hT).mono ?_
  rintro e w' ⟨v, rfl, hv, hb⟩
  obtain ⟨A, c, rfl, hc, hC⟩ := Kd.R_reads hv
  exact ⟨A, c, rfl, hc, hC, hb⟩
theorem reads_n (s : ByteArray) (L : List S37) (m e : Int) (n : Nat) (hs : allS s = (L, m, e)) (hn : L.length = n) (w : World) (hT : LexTabs w) : Calls Tryd.prog 8 #[.string s] w fun e' w' => ∃ A c, e' = .returned (.tuple #[.slice A n c, .int .i64 m, .int .i64 e]) ∧ n ≤ c ∧ Kd.C k37 w' A n L ∧ Below w.heap.size w w' := by
  have h := all_reads s w hT
  rw [hs] at h
  simp only [hn] at h
  exact h
def tokCells (x : S37) : List Value := [.int .i64 x.f0, .int .i64 x.f1, .string x.f2, .int .i64 x.f3]
theorem flat_at : ∀ (L : List S37) (j : Nat) (x : S37) (i : Nat) (u : Value), L[j]? = some x → (tokCells x)[i]? = some u → (L.flatMap tokCells)[j * 4 + i]? = some u
  | [], j, x, i, u, h, _ => by simp at h
  | y :: L, 0, x, i, u, h, h2 => by
    simp only [List.getElem?_cons_zero, Option.some.injEq] at h
    subst h
    rw [List.flatMap_cons, List.getElem?_append_left, Nat.zero_mul, Nat.zero_add]
    · exact h2
    · rw [Nat.zero_mul, Nat.zero_add]
      exact (List.getElem?_eq_some_iff.1 h2).1
  | y :: L, j + 1, x, i, u, h, h2 => by
    rw [List.getElem?_cons_succ] at h
    have h4 : (tokCells y).length = 4 := rfl
    rw [List.flatMap_cons, List.getElem?_append_right (by rw [h4]; omega), h4, show (j + 1) * 4 + i - 4 = j * 4 + i by omega]
    exact flat_at L j x i u h h2
theorem C_blk {W : World} {g : Nat} {cs : Array Value} {t : TypeId} (L : List S37) (hl : L.length ≤ 1000000000) (h : W.heap[g]? = some (.cells cs t)) (hcs : cs = (L.flatMap tokCells).toArray) : Kd.C k37 W (some ⟨g, 0, none⟩) L.length L :=
  ⟨rfl, by omega, fun _ => ⟨_, rfl, fun j x hj => ⟨tokCells x, rfl, k37_mk W x, fun i u hu => by
    have h2 := flat_at L j x i u hj hu
    have hk : (k37).sz = 4 := rfl
    rw [hk, add_plain, Joins.cell_of_block h, hcs]
    simpa using h2⟩⟩⟩
theorem same_l (l : List S37) (hl : l.length ≤ 1000000000) : ∀ n i : Nat, i + n = l.length → Ev (fun k => vinculumref19_Same.l0 k l l (i : Int)) true
  | 0, i, h => Ev.step (f := fun _ => some true) (fun k => by rw [vinculumref19_Same.l0, if_neg (by omega)]) (Ev.now _)
  | n + 1, i, h => by
    refine Ev.step (f := fun k => vinculumref19_Same.l0 k l l ((i + 1 : Nat) : Int)) (fun k => ?_) (same_l l hl n (i + 1) (by omega))
    rw [vinculumref19_Same.l0, if_pos (by omega), if_pos (by omega), if_pos (by omega), if_neg (by simp), show wrap64 ((i : Int) + 1) = ((i + 1 : Nat) : Int) by unfold wrap64; omega]
theorem same_true (l : List S37) (hl : l.length ≤ 1000000000) : ∃ k, vinculumref19_Same.f k l l = some true := by
  obtain ⟨k, hk⟩ := Ev.rounds (same_l l hl l.length 0 (by omega))
  exact ⟨k, by unfold vinculumref19_Same.f; rw [if_pos rfl]; exact hk⟩
/-! ### the closed example -/
def exS : ByteArray := ⟨#[92, 102, 114, 97, 99, 123, 206, 177, 92, 37, 125, 92, 92, 32, 37, 32, 120]⟩
def exL : List S37 := [⟨2, 0, ⟨#[102, 114, 97, 99]⟩, 0⟩, ⟨3, 123, ⟨#[]⟩, 5⟩, ⟨1, 945, ⟨#[]⟩, 6⟩, ⟨1, 37, ⟨#[]⟩, 8⟩, ⟨3, 125, ⟨#[]⟩, 10⟩, ⟨4, 0, ⟨#[]⟩, 11⟩]
theorem exS_all : allS exS = (exL, 17, 0) := by
  rw [allS_L _ (by decide)]
  kernel_rfl
def exT : ByteArray := ⟨#[97, 32, 92, 49]⟩
theorem exT_all : allS exT = ([], 2, 5) := by
  rw [allS_L _ (by decide)]
  kernel_rfl
theorem q123 : quoteS 123 = (⟨#[92, 123]⟩, 0) := by kernel_rfl
theorem q32 : quoteS 32 = (⟨#[92, 99, 104, 97, 114, 123, 50, 48, 125]⟩, 0) := by kernel_rfl
theorem q0 : quoteS 0 = (⟨#[]⟩, 1) := by kernel_rfl
theorem pl120 : plainB 120 = true := by decide
theorem pl123 : plainB 123 = false := by decide
theorem exS_calls (w : World) (hT : LexTabs w) : Calls Tryd.prog 8 #[.string exS] w fun e w' => ∃ A c, e = .returned (.tuple #[.slice A 6 c, .int .i64 17, .int .i64 0]) ∧ 6 ≤ c ∧ Kd.C k37 w' A 6 exL ∧ Below w.heap.size w w' := by
  have h := all_reads exS w hT
  rw [exS_all] at h
  exact h
theorem exT_calls (w : World) (hT : LexTabs w) : Calls Tryd.prog 8 #[.string exT] w fun e w' => ∃ v, e = .returned (.tuple #[v, .int .i64 2, .int .i64 5]) ∧ Below w.heap.size w w' := by
  have h := all_reads exT w hT
  rw [exT_all] at h
  exact h.mono fun e w' ⟨A, c, he, _, _, hb⟩ => ⟨_, he, hb⟩
theorem q_calls (c : Int) (s : ByteArray) (n : Int) (h : quoteS c = (s, n)) (w : World) (hT : LexTabs w) : Calls Tryd.prog 10 #[.int .i64 c] w fun e w' => e = .returned (.tuple #[.string s, .int .i64 n]) ∧ Below w.heap.size w w' := by
  have := quote_calls c w hT
  rw [h] at this
  exact this
theorem exSame (w : World) (A : Option Addr) (c g : Nat) (h1 : Kd.C k37 w A 6 exL) (h2 : 6 ≤ c) (h3 : w.heap[g]? = some (.cells #[.int .i64 2, .int .i64 0, .string ⟨#[102, 114, 97, 99]⟩, .int .i64 0, .int .i64 3, .int .i64 123, .string ⟨#[]⟩, .int .i64 5, .int .i64 1, .int .i64 945, .string ⟨#[]⟩, .int .i64 6, .int .i64 1, .int .i64 37, .string ⟨#[]⟩, .int .i64 8, .int .i64 3, .int .i64 125, .string ⟨#[]⟩, .int .i64 10, .int .i64 4, .int .i64 0, .string ⟨#[]⟩, .int .i64 11] 37)) :
    Calls Tryd.prog 12 #[.slice A 6 c, .slice (some ⟨g, 0, none⟩) 6 6] w fun e w' => e = .returned (.bool true) ∧ Below w.heap.size w w' := by
  obtain ⟨k, hk⟩ := same_true exL (by decide)
  refine (vinculumref19_Same.calls k A c exL (some ⟨g, 0, none⟩) 6 exL true w h1 h2 (C_blk exL (by decide) h3 rfl) (by decide) hk).mono ?_
  rintro e w' ⟨rfl, hd⟩
  exact ⟨rfl, hd.below⟩
set_option maxHeartbeats 8000000 in
theorem lexed_calls (w : World) (hT : LexTabs w) : Calls Tryd.prog 15 #[] w fun e w' => e = .returned (.bool true) ∧ Below w.heap.size w w' := by
  have HTB := Lib.hid (fun (w' : World) (hb : Below w.heap.size w w') => hT.below hb)
  have HA := Lib.hid exS_calls
  have HB := Lib.hid exT_calls
  have HQ1 := Lib.hid (q_calls 123 _ _ q123)
  have HQ2 := Lib.hid (q_calls 32 _ _ q32)
  have HQ3 := Lib.hid (q_calls 0 _ _ q0)
  have HS := Lib.hid exSame
  have HP1 := Lib.hid (plain_calls 120)
  have HP2 := Lib.hid (plain_calls 123)
  rw [pl120] at HP1
  rw [pl123] at HP2
  unfold exS at HA
  unfold exT at HB
  clear hT
  go_enter Tryd.func15, Tryd.ntmps15
  go_wp2_with fail
  refine (HA.out _ (HTB.out _ (Below.refl _ _))).mono ?_
  rintro e w1 ⟨A, c, rfl, hc, hC, hb⟩
  have HB1 := Lib.hid hb
  have HC := Lib.hid hc
  have HCC := Lib.hid hC
  clear hb hc hC HA
  go_wp2_with fail
  refine (HB.out _ (HTB.out _ HB1.out)).mono ?_
  rintro e w2 ⟨v2, rfl, hb⟩
  have HB2 := Lib.hid (HB1.out.trans (hb.mono HB1.out.size))
  have HCC2 := Lib.hid (Kd.C_below HCC.out hb)
  clear hb HB HB1 HCC
  go_wp2_with fail
  refine (HQ1.out _ (HTB.out _ HB2.out)).mono ?_
  rintro e w3 ⟨rfl, hb⟩
  have HB3 := Lib.hid (HB2.out.trans (hb.mono HB2.out.size))
  have HCC3 := Lib.hid (Kd.C_below HCC2.out hb)
  clear hb HQ1 HB2 HCC2
  go_wp2_with fail
  refine (HQ2.out _ (HTB.out _ HB3.out)).mono ?_
  rintro e w4 ⟨rfl, hb⟩
  have HB4 := Lib.hid (HB3.out.trans (hb.mono HB3.out.size))
  have HCC4 := Lib.hid (Kd.C_below HCC3.out hb)
  clear hb HQ2 HB3 HCC3
  go_wp2_with fail
  refine (HQ3.out _ (HTB.out _ HB4.out)).mono ?_
  rintro e w5 ⟨rfl, hb⟩
  have HB5 := Lib.hid (HB4.out.trans (hb.mono HB4.out.size))
  have HCC5 := Lib.hid (Kd.C_below HCC4.out hb)
  clear hb HQ3 HB4 HCC4
  go_wp2_with fail
  refine (HS.out _ _ _ _ (Kd.C_alloc HCC5.out _) HC.out (heap_alloc_new w5 _)).mono ?_
  rintro e w6 ⟨rfl, hb⟩
  have HB6 := Lib.hid ((HB5.out.alloc HB5.out.size _).trans (hb.mono (HB5.out.alloc HB5.out.size _).size))
  clear hb HS HB5 HCC5
  go_wp2_with fail
  refine (HP1.out _).mono ?_
  rintro e w7 ⟨rfl, hb⟩
  have HB7 := Lib.hid (HB6.out.trans (hb.mono HB6.out.size))
  clear hb HP1 HB6
  go_wp2_with fail
  refine (HP2.out _).mono ?_
  rintro e w8 ⟨rfl, hb⟩
  have HB8 := Lib.hid (HB7.out.trans (hb.mono HB7.out.size))
  clear hb HP2 HB7
  go_wp2_with fail
  go_ret
  exact ⟨rfl, HB8.out⟩
end Go.Proofs.YtplkdfkahcpoeaaDoor.P
