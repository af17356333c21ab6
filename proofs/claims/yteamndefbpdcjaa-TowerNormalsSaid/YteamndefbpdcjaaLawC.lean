/- The field of 16 elements that alive makes: plain. -/
import Derived.Test.YteamndefbpdcjaaLawB
namespace Go.Proofs.Yteamndefbpdcjaa
open Go.RowKit Go.Shelf Cw

def D16 : Desc where
  p := 2
  m := 4
  mod := [1, 1, 0, 0]
  hp := ⟨by decide, fun d h2 => by
    have : d ≤ 2 := Nat.le_of_dvd (by decide) h2
    have : d ≠ 0 := fun h => by rw [h] at h2; have := Nat.eq_zero_of_zero_dvd h2; omega
    omega⟩
  m1 := by decide
  m8 := by decide
  hq := by decide
  hlen := by decide
  hmod := fun j => by
    match j with
    | 0 => decide
    | 1 => decide
    | 2 => decide
    | 3 => decide
    | j + 4 => simp
theorem irr16 : irrB D16.p D16.m (fun i => D16.mod.getD i 0) = true := by
  have e1 : ∀ v : Fin 2, dvB 2 1 4 (dg 2 v.val) (fun i => D16.mod.getD i 0) = false := by decide +kernel
  have e2 : ∀ v : Fin 4, dvB 2 2 4 (dg 2 v.val) (fun i => D16.mod.getD i 0) = false := by decide +kernel
  refine irrB_true fun d h1 h2 v hv => ?_
  have h3 : 2 * d ≤ 4 := h2
  have h4 : d = 1 ∨ d = 2 := by omega
  rcases h4 with rfl | rfl
  · exact e1 ⟨v, hv⟩
  · exact e2 ⟨v, hv⟩
theorem good16 : Good D16.p D16.m (modL D16) := ⟨D16, rfl, rfl, rfl, .inr irr16⟩
theorem mul16 : ∀ i : Fin 15, rcode (rel D16 ([1,2,4,8,3,6,12,11,5,10,7,14,15,13,9].getD i.val 0) * rel D16 2) = [2,4,8,3,6,12,11,5,10,7,14,15,13,9,1].getD i.val 0 := by decide +kernel
def T16 : List Nat := [1,2,4,8,3,6,12,11,5,10,7,14,15,13,9,1]
theorem pw16 : ∀ i, i ≤ 15 → pw (rel D16 2) i = rel D16 (T16.getD i 0)
  | 0, _ => rcode_inj (by
      have h : rcode (1 : R D16) = rcode (rel D16 1) := by decide +kernel
      exact h)
  | i + 1, hi => by
    rw [pw_succ, pw16 i (by omega)]
    have h : ∀ i : Fin 15, rcode (rel D16 (T16.getD i.val 0) * rel D16 2) = rcode (rel D16 (T16.getD (i.val + 1) 0)) := by decide +kernel
    exact rcode_inj (h ⟨i, by omega⟩)
theorem gen16 : IsGen (rel D16 2) := by
  have hq : D16.q - 1 = 15 := by decide
  refine ⟨fun i j hi hj h => ?_, ?_⟩
  · rw [hq] at hi hj
    rw [pw16 i (by omega), pw16 j (by omega)] at h
    have h2 : ∀ i j : Fin 15, rcode (rel D16 (T16.getD i.val 0)) = rcode (rel D16 (T16.getD j.val 0)) → i = j := by decide +kernel
    have := h2 ⟨i, hi⟩ ⟨j, hj⟩ (by rw [h])
    simpa using this
  · rw [hq, pw16 15 (by omega)]
    exact rcode_inj (by have h : rcode (rel D16 (T16.getD 15 0)) = rcode (1 : R D16) := by decide +kernel
                        exact h)
theorem sq16 : ∀ k : Fin 16, rcode (rel D16 k.val * rel D16 k.val) = [0,1,4,5,3,2,7,6,12,13,8,9,15,14,11,10].getD k.val 0 := by decide +kernel
theorem four16 (k : Nat) (hk : k < 16) : pw (rel D16 k) 4 = rel D16 ([0,1,3,2,5,4,6,7,15,14,12,13,10,11,9,8].getD k 0) := by
  have e : pw (rel D16 k) 4 = (rel D16 k * rel D16 k) * (rel D16 k * rel D16 k) := by
    rw [← mul_a]
    show 1 * _ * _ * _ * _ = _
    rw [one_mul]
  rw [e, ← rel_rcode (rel D16 k * rel D16 k), sq16 ⟨k, hk⟩]
  have h : ∀ k : Fin 16, rcode (rel D16 ([0,1,4,5,3,2,7,6,12,13,8,9,15,14,11,10].getD k.val 0) * rel D16 ([0,1,4,5,3,2,7,6,12,13,8,9,15,14,11,10].getD k.val 0)) = rcode (rel D16 ([0,1,3,2,5,4,6,7,15,14,12,13,10,11,9,8].getD k.val 0)) := by decide +kernel
  exact rcode_inj (h ⟨k, hk⟩)
theorem fix16 (k : Nat) (hk : k < D16.q) : pw (rel D16 k) (D16.p ^ 2) = rel D16 k ↔ [0,1,3,2,5,4,6,7,15,14,12,13,10,11,9,8].getD k 0 = k := by
  replace hk : k < 16 := hk
  have e : pw (rel D16 k) (D16.p ^ 2) = pw (rel D16 k) 4 := rfl
  rw [e, four16 k hk]
  have h : ∀ k : Fin 16, rcode (rel D16 ([0,1,3,2,5,4,6,7,15,14,12,13,10,11,9,8].getD k.val 0)) = [0,1,3,2,5,4,6,7,15,14,12,13,10,11,9,8].getD k.val 0 := by decide +kernel
  constructor
  · intro he
    have h2 := h ⟨k, hk⟩
    rw [he] at h2
    rw [← h2]; exact rcode_rel hk
  · intro he; rw [he]
theorem sub16 (F : FD) (hF : F.toDesc = D16) : subL F 2 F.q = [0, 1, 6, 7] := by
  have hfx := fix16
  have hq : F.q = 16 := by show F.toDesc.q = 16; rw [hF]; rfl
  rw [← hF] at hfx
  unfold subL
  have hl : (List.range F.q).filter (fun x => decide (frob 2 (rel F.toDesc x) = rel F.toDesc x)) = (List.range F.q).filter (fun k => decide ([0,1,3,2,5,4,6,7,15,14,12,13,10,11,9,8].getD k 0 = k)) := List.filter_congr fun k hk => decide_eq_decide.2 (hfx k (List.mem_range.1 hk))
  rw [hl, hq]; decide
theorem tra16 : rsum (D16.m / 1) (fun i => pw (rel D16 8) (D16.p ^ (1 * i))) = rel D16 1 := by
  have h8 : pw (rel D16 8) 8 = rel D16 10 := by
    rw [show (8 : Nat) = 4 + 4 from rfl, pw_add]
    rw [show rel D16 (4 + 4) = rel D16 8 from rfl, four16 8 (by decide)]
    exact rcode_inj (by decide +kernel)
  have h2 : pw (rel D16 8) 2 = rel D16 12 := by
    rw [show (2 : Nat) = 1 + 1 from rfl, pw_add, pw_one]
    exact rcode_inj (by decide +kernel)
  show rsum 4 _ = _
  rw [rsum_succ, rsum_succ, rsum_succ, rsum_succ, rsum_zero]
  show 0 + pw (rel D16 8) 1 + pw (rel D16 8) 2 + pw (rel D16 8) 4 + pw (rel D16 8) 8 = _
  rw [h8, h2, four16 8 (by decide), pw_one]
  exact rcode_inj (by decide +kernel)
theorem tr16 (F : FD) (hF : F.toDesc = D16) : tr 1 (rel F.toDesc 8) = rel F.toDesc 1 := by
  have h := tra16
  rw [← hF] at h
  exact h
theorem dg16 : ¬ pw (rel D16 2) (D16.p ^ 1) = rel D16 2 ∧ ¬ pw (rel D16 2) (D16.p ^ 2) = rel D16 2 := by
  constructor
  · intro h
    have h2 : pw (rel D16 2) (D16.p ^ 1) = rel D16 2 * rel D16 2 := by
      show pw _ 2 = _
      rw [pw_succ, pw_one]
    rw [h2] at h
    have h3 : ¬ rcode (rel D16 2 * rel D16 2) = rcode (rel D16 2) := by decide +kernel
    exact h3 (by rw [h])
  · intro h
    exact absurd ((fix16 2 (by decide)).1 h) (by decide)
theorem deg16 (F : FD) (hF : F.toDesc = D16) {d : Nat} (h : IsDeg (rel F.toDesc 2) d) : d = 4 := by
  have hg := dg16
  have hm : F.m = 4 := by show F.toDesc.m = 4; rw [hF]; rfl
  rw [← hF] at hg
  have h1 : ¬ frob 1 (rel F.toDesc 2) = rel F.toDesc 2 := hg.1
  have h2 : ¬ frob 2 (rel F.toDesc 2) = rel F.toDesc 2 := hg.2
  have h3 : d ∣ F.m := h.dvd_M
  rw [hm] at h3
  have h4 : d ≤ 4 := Nat.le_of_dvd (by decide) h3
  have h5 : d ≠ 1 := fun e => h1 (e ▸ h.2.1)
  have h6 : d ≠ 2 := fun e => h2 (e ▸ h.2.1)
  have h7 : d ≠ 0 := by have := h.1; omega
  have h8 : d ≠ 3 := fun e => by rw [e] at h3; revert h3; decide
  omega
end Go.Proofs.Yteamndefbpdcjaa
