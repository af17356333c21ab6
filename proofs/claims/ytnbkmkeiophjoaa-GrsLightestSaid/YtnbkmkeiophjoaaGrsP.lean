/- Plain law of layer 18: the codeword whose message polynomial is 0 at given points. No Go here. -/
import Derived.Test.YtnbkmkeiophjoaaGrsO
import Derived.Test.YtnbkmkeiophjoaaPol5r
namespace Go.Proofs.Ytnbkmkeiophjoaa
open Cw
open Cw.CField (inv)

theorem rot_inj {n o i j : Nat} (hi : i < n) (hj : j < n) (h : (i + o) % n = (j + o) % n) : i = j := by
  rcases Nat.le_total i j with hl | hl
  · have h1 := Nat.sub_mod_eq_zero_of_mod_eq h.symm
    have h2 := Nat.eq_zero_of_dvd_of_lt (Nat.dvd_of_mod_eq_zero h1) (by omega)
    omega
  · have h1 := Nat.sub_mod_eq_zero_of_mod_eq h
    have h2 := Nat.eq_zero_of_dvd_of_lt (Nat.dvd_of_mod_eq_zero h1) (by omega)
    omega
/-- The points from a place on, turned. -/
def turnL (pts : List Int) (o k : Nat) : List Int := lst k fun i => pts[(i + o) % pts.length]?.getD 0
section
variable {F : FD}
theorem lval_roots {f : Nat → R F.toDesc} {N : Nat} {x : R F.toDesc} : ∀ k, k ≤ N → (lval f N x k = 0 ↔ ∃ j, j < k ∧ x = f j)
  | 0, _ => ⟨fun h => absurd h (one_ne (F := R F.toDesc)), fun ⟨j, hj, _⟩ => absurd hj (by omega)⟩
  | k + 1, hk => by
    rw [lval_other _ _ (by omega : k ≠ N)]
    constructor
    · intro h
      rcases mul_eq_zero h with h | h
      · obtain ⟨j, hj, e⟩ := (lval_roots k (by omega)).1 h
        exact ⟨j, by omega, e⟩
      · exact ⟨k, by omega, sub_eq_zero h⟩
    · rintro ⟨j, hj, e⟩
      by_cases h : j = k
      · rw [e, h, sub_self, mul_zero]
      · rw [(lval_roots k (by omega)).2 ⟨j, by omega, e⟩, zero_mul]
theorem pev_frK (l : List Int) (x : R F.toDesc) : pev ((frK F l l.length).map (eli F.toDesc)) x = lval (cfR F.toDesc l) l.length x l.length := by
  unfold frK lst
  rw [List.map_map, pev_map]
  have e : ∀ i, i < l.length + 1 → (eli F.toDesc ∘ fun t => ci (lcf (cfR F.toDesc l) l.length l.length t)) i * pw x i = lcf (cfR F.toDesc l) l.length l.length i * pw x i := fun i _ => by
    show eli F.toDesc (ci _) * _ = _
    rw [eli_ci]
  rw [rsum_congr e]
  exact lcf_sum _ _ _ _ _ (by rw [ldeg_le (Nat.le_refl _)]; omega)
theorem turn_cf (pts : List Int) (o : Nat) {N j : Nat} (hj : j < N) : cfR F.toDesc (turnL pts o N) j = eli F.toDesc (pts[(j + o) % pts.length]?.getD 0) := by
  show eli F.toDesc ((lst N fun i => pts[(i + o) % pts.length]?.getD 0)[j]?.getD 0) = _
  rw [lst_get _ hj]
/-- The codeword of the polynomial that is 0 at just K - 1 of the points. -/
theorem light_wgt {K : Int} {pts mul : List Int} (hz : gchkD F.toDesc K pts mul = 0) (o N : Nat) (hN : (N : Int) = K - 1) :
    wgt (wordL F.toDesc pts mul (frK F (turnL pts o N) N)) = pts.length - N := by
  obtain ⟨h1, h64, hlen, hp, hm, ht, h0, hK0, hKn⟩ := gchkD_zero hz
  have htl : (turnL pts o N).length = N := lst_length _ _
  have hw := wgt_lst pts.length fun i => ci (eli F.toDesc (mul[i]?.getD 0) * pevI F.toDesc (frK F (turnL pts o N) N) (eli F.toDesc (pts[i]?.getD 0)))
  have key : (zrs pts.length fun i => ci (eli F.toDesc (mul[i]?.getD 0) * pevI F.toDesc (frK F (turnL pts o N) N) (eli F.toDesc (pts[i]?.getD 0)))).length = N := by
    have hperm : List.Perm (zrs pts.length fun i => ci (eli F.toDesc (mul[i]?.getD 0) * pevI F.toDesc (frK F (turnL pts o N) N) (eli F.toDesc (pts[i]?.getD 0)))) ((List.range N).map fun j => (j + o) % pts.length) := by
      refine (List.perm_ext_iff_of_nodup (List.Pairwise.filter _ (List.nodup_range (n := pts.length))) ?_).2 fun i => ?_
      · refine List.pairwise_map.2 (List.Pairwise.imp_of_mem ?_ (List.nodup_range (n := N)))
        intro x y hx hy hne e
        have hx' := List.mem_range.1 hx
        have hy' := List.mem_range.1 hy
        exact hne (rot_inj (by omega) (by omega) e)
      · have hmem : i ∈ (zrs pts.length fun i => ci (eli F.toDesc (mul[i]?.getD 0) * pevI F.toDesc (frK F (turnL pts o N) N) (eli F.toDesc (pts[i]?.getD 0)))) ↔ i < pts.length ∧ ∃ j, j < N ∧ eli F.toDesc (pts[i]?.getD 0) = cfR F.toDesc (turnL pts o N) j := by
          unfold zrs
          rw [List.mem_filter, List.mem_range]
          refine and_congr_right fun hi => ?_
          rw [beq_iff_eq, word_zero hz hi]
          have e2 := pev_frK (F := F) (turnL pts o N) (eli F.toDesc (pts[i]?.getD 0))
          rw [htl] at e2
          rw [e2]
          exact lval_roots N (Nat.le_refl _)
        refine hmem.trans ?_
        rw [List.mem_map]
        constructor
        · rintro ⟨hi, j, hj, e⟩
          refine ⟨j, List.mem_range.2 hj, ?_⟩
          have hb : (j + o) % pts.length < pts.length := Nat.mod_lt _ (by omega)
          rw [turn_cf pts o hj] at e
          exact (pts_inj hp ht i _ hi hb e).symm
        · rintro ⟨j, hj, rfl⟩
          have hj' := List.mem_range.1 hj
          refine ⟨Nat.mod_lt _ (by omega), j, hj', ?_⟩
          exact (turn_cf pts o hj').symm
    rw [hperm.length_eq, List.length_map, List.length_range]
  unfold wordL
  omega
end
end Go.Proofs.Ytnbkmkeiophjoaa
