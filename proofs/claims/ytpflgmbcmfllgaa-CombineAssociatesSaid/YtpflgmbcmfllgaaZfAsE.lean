/- A row that is filled column by column. No Go here. -/
import Derived.Test.YtpflgmbcmfllgaaZfAsD
namespace Go.Proofs.Ytpflgmbcmfllgaa
open Go.RowKit Cw

/-- The columns below j are filled, and of column j the rows below l. -/
def trL (n m : Nat) (T : Nat → Int) (j l : Nat) : List Int := lst n fun c => if c % m < j ∨ (c % m = j ∧ c / m < l) then T c else 0
theorem trL_length (n m : Nat) (T : Nat → Int) (j l : Nat) : (trL n m T j l).length = n := lst_length _ _
theorem trL_zero (n m : Nat) (T : Nat → Int) : trL n m T 0 0 = upd n 0 T := by
  rw [upd_zero]
  unfold trL
  apply List.ext_getElem
  · rw [lst_length, List.length_replicate]
  · intro i h1 h2
    simp [lst]
theorem trL_set {n m j l : Nat} (T : Nat → Int) (hj : j < m) : (trL n m T j l).set (m * l + j) (T (m * l + j)) = trL n m T j (l + 1) := by
  obtain ⟨e2, e1⟩ := divmod_mul (b := m) (x := l) (y := j) hj
  apply List.ext_getElem
  · rw [List.length_set, trL_length, trL_length]
  · intro c h1 h2
    rw [List.getElem_set]
    by_cases e : m * l + j = c
    · subst e
      rw [if_pos rfl]
      simp [trL, lst, e1, e2]
    · rw [if_neg e]
      have hne : ¬ (c % m = j ∧ c / m = l) := fun h => e (by rw [← h.1, ← h.2]; exact Nat.div_add_mod c m)
      simp only [trL, lst, List.getElem_map, List.getElem_range]
      by_cases g : c % m < j ∨ (c % m = j ∧ c / m < l)
      · rw [if_pos g, if_pos (by rcases g with g | g; exact .inl g; exact .inr ⟨g.1, by omega⟩)]
      · rw [if_neg g, if_neg (fun h => ?_)]
        rcases h with h | h
        · exact g (.inl h)
        · by_cases h3 : c / m = l
          · exact hne ⟨h.1, h3⟩
          · exact g (.inr ⟨h.1, by omega⟩)
theorem trL_next {n m k j : Nat} (T : Nat → Int) (hn : n = k * m) : trL n m T j k = trL n m T (j + 1) 0 := lst_congr fun c hc => by
  have hm : 0 < m := Nat.pos_of_ne_zero fun h => by rw [hn, h, Nat.mul_zero] at hc; omega
  have h1 : c / m < k := (Nat.div_lt_iff_lt_mul hm).2 (by rw [← hn]; exact hc)
  by_cases g : c % m < j ∨ (c % m = j ∧ c / m < k)
  · rw [if_pos g, if_pos (by rcases g with g | g; exact .inl (by omega); exact .inl (by omega))]
  · rw [if_neg g, if_neg (fun h => ?_)]
    rcases h with h | h
    · by_cases h3 : c % m = j
      · exact g (.inr ⟨h3, h1⟩)
      · exact g (.inl (by omega))
    · exact absurd h.2 (Nat.not_lt_zero _)
theorem trL_full {n m : Nat} (T : Nat → Int) (hm : 0 < m) : trL n m T m 0 = lst n T := lst_congr fun c _ => if_pos (.inl (Nat.mod_lt c hm))
section
variable {Pa Ma Na : Int} {mla : List Int} {na : Nat} {rowsa : Nat → List Int} {F : FD} {m1 K N : Nat} {M1 B1 M : Nat → Nat → R F.toDesc} {t1 : Nat → List Int}
/-- The canonical rows of other rows with the same span. -/
theorem make_same (va : VC Pa Ma Na mla na rowsa F m1 M1) (v1 : VC Pa Ma (N : Int) mla K t1 F N B1) (hss : SameSpan K K N M B1) (hK : K ≤ 1000000) (A Ar : Option Addr) (c cr : Nat) (w : World) (hr : Rd w w.heap.size A mla) (hrm : RdM w w.heap.size Ar K (rowsL F.toDesc N M)) :
    Calls Try.prog 18 #[.agg #[.int .i64 Pa, .int .i64 Ma, .slice A mla.length c], .slice Ar K cr, .int .i64 N] w fun e w' => ∃ A3 c3 Al cl, e = .returned (.agg #[.int .i64 Pa, .int .i64 Ma, .slice A3 mla.length c3, .int .i64 N, .slice Al K cl]) ∧ Rd w' w'.heap.size A3 mla ∧ RdM w' w'.heap.size Al K t1 ∧ Below w.heap.size w w' := by
  obtain ⟨u1, u2⟩ := elS_uniq hss
  have hk : rkS F K N M = K := u1.trans v1.can.1
  have hrow : ∀ i, i < K → rowsL F.toDesc N (elS K M N).1 i = t1 i := fun i hi => by
    rw [v1.hr i hi, ← v1.can.2 i hi]
    unfold rowsL rowL
    exact lst_congr fun j hj => congrArg ci ((u2 i (by rw [show (elS K M N).2.length = K from hk]; exact hi)).2 j hj)
  have h64 := v1.m64
  have eP := va.hP; have eM := va.hM; have eL := va.hl
  subst eP eM eL
  rw [modL_length]
  refine (Make12_any F K N M A Ar c cr w hr hrm hK (by omega)).mono ?_
  rintro e w' ⟨A3, c3, Al, cl, rfl, h1, -, h2, h3⟩
  rw [hk] at h2 ⊢
  exact ⟨A3, c3, Al, cl, rfl, h1, h2.rdm.congr hrow, h3⟩
end
end Go.Proofs.Ytpflgmbcmfllgaa
