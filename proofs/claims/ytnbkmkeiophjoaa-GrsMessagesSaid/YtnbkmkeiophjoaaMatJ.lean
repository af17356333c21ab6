/- The generator's rows are independent: the rank is the dimension. -/
import Derived.Test.YtnbkmkeiophjoaaLA
import Derived.Test.YtnbkmkeiophjoaaMatY
import Derived.Test.YtnbkmkeiophjoaaMH
import Derived.Test.YtnbkmkeiophjoaaGL
namespace Go.Proofs.Ytnbkmkeiophjoaa
open Go.RowKit Cw

theorem gM_indep {F : FD} {K : Int} {pts mul : List Int} (hz : gchkD F.toDesc K pts mul = 0) : Indep K.toNat pts.length (gM F.toDesc pts mul) := fun c hc => by
  obtain ⟨-, -, hlen, hp, hm, ht, h0, hk0, hkn⟩ := gchkD_zero hz
  have key := pev_roots ((List.range pts.length).map fun i => eli F.toDesc (pts[i]?.getD 0)) ((List.range K.toNat).map c) (by simp; omega) ?_ ?_
  · intro i hi
    exact key (c i) (List.mem_map.2 ⟨i, List.mem_range.2 hi, rfl⟩)
  · refine List.pairwise_map.2 (List.Pairwise.imp_of_mem ?_ (List.nodup_range (n := pts.length)))
    intro x y hx hy hne e
    have hx' : x < pts.length := List.mem_range.1 hx
    have hy' : y < pts.length := List.mem_range.1 hy
    exact hne (nodup_get ht hx' hy' (eli_inj (elB_iff.1 hp x hx') (elB_iff.1 hp y hy') e))
  · intro x hx
    obtain ⟨j, hj, rfl⟩ := List.mem_map.1 hx
    have hj' : j < pts.length := List.mem_range.1 hj
    have h1 := elB_iff.1 hm j (by omega)
    have h2 : mul[j]?.getD 0 ≠ 0 := fun e => h0 (e ▸ mem_get (by omega))
    have h3 := hc j hj'
    rw [pev_map]
    have h4 : rsum K.toNat (fun i => c i * gM F.toDesc pts mul i j) = eli F.toDesc (mul[j]?.getD 0) * rsum K.toNat (fun i => c i * pw (eli F.toDesc (pts[j]?.getD 0)) i) := by
      rw [← rsum_mul_left]
      exact rsum_congr fun i _ => by unfold gM; exact mul_lc _ _ _
    rw [h4] at h3
    exact (mul_eq_zero h3).resolve_left (eli_ne h1 h2)
theorem gM_rank {F : FD} {K : Int} {pts mul : List Int} (hz : gchkD F.toDesc K pts mul = 0) : rkS F K.toNat pts.length (gM F.toDesc pts mul) = K.toNat := elS_rank (gM_indep hz)
end Go.Proofs.Ytnbkmkeiophjoaa
