/- Normal elements: the plain part. -/
import Derived.Test.YteamndefbpdcjaaTowD
import Derived.Test.YteamndefbpdcjaaTowE
import Derived.Test.YteamndefbpdcjaaIsB7
import Derived.Test.YteamndefbpdcjaaNrm
namespace Go.Proofs.Yteamndefbpdcjaa
open Go.RowKit Go.Shelf Cw
attribute [local go_sem] Oper.semAt_some

/-- The conjugates of an int's element are a basis. -/
def NrmI (F : FD) (d n : Nat) (x : Int) : Prop := IndS d n fun i => frob (d * i) (eli F.toDesc x)
/-- k is the number of the least such element. -/
def IsNrm (F : FD) (d n k : Nat) : Prop := k < F.q ∧ NrmI F d n k ∧ ∀ j, j < k → ¬ NrmI F d n j
theorem isNrm_ex (F : FD) {d : Nat} (hd : d ∣ F.m) (h1 : 1 ≤ d) : ∃ k, IsNrm F d (F.m / d) k := by
  obtain ⟨u, hu⟩ := normal_ex F hd h1
  have h : ∀ n, n ≤ rcode u → (∃ k, IsNrm F d (F.m / d) k) ∨ ∀ j, j < n → ¬ NrmI F d (F.m / d) j := fun n => by
    induction n with
    | zero => exact fun _ => .inr fun j hj => absurd hj (by omega)
    | succ n ih =>
      intro hn
      rcases ih (by omega) with h1 | h1
      · exact .inl h1
      · by_cases e : NrmI F d (F.m / d) n
        · exact .inl ⟨n, by have := rcode_lt u; omega, e, h1⟩
        · refine .inr fun j hj => ?_
          rcases (by omega : j < n ∨ j = n) with h2 | rfl
          · exact h1 j h2
          · exact e
  rcases h (rcode u) (Nat.le_refl _) with h1 | h1
  · exact h1
  · exact ⟨rcode u, rcode_lt u, by unfold NrmI; rw [eli_nat (rcode_lt u), rel_rcode]; exact hu, h1⟩
theorem IsNrm.uniq {F : FD} {d n k k' : Nat} (h1 : IsNrm F d n k) (h2 : IsNrm F d n k') : k = k' := by
  rcases Nat.lt_trichotomy k k' with h | h | h
  · exact absurd h1.2.1 (h2.2.2 k h)
  · exact h
  · exact absurd h2.2.1 (h1.2.2 k' h)
theorem IsNrm.pos {F : FD} {d n k : Nat} (h : IsNrm F d n k) (hn : 1 ≤ n) : 1 ≤ k := Nat.pos_of_ne_zero fun e => by
  have h1 := h.2.1
  rw [e] at h1
  unfold NrmI at h1
  have h2 := h1 (fun _ => 1) (fun _ _ => InSub.one d) (rsum_eq_zero fun i _ => by
    show (1 : R F.toDesc) * frob (d * i) (eli F.toDesc ((0 : Nat) : Int)) = 0
    rw [show eli F.toDesc ((0 : Nat) : Int) = 0 from eli_zero, frob_zero, mul_zero]) 0 (by omega)
  exact one_ne h2
theorem elL_frobs (F : FD) (d n : Nat) (u : R F.toDesc) {j : Nat} (hj : j < n) : elL F (frobs d u n) j = frob (d * j) u := by
  unfold elL frobs; rw [lst_get _ hj, eli_ci]
theorem IndS.congr7 {F : Type} [FF F] {d n : Nat} {l l' : Nat → F} (h : IndS d n l) (he : ∀ j, j < n → l j = l' j) : IndS d n l' := fun c hc hz => h c hc (by rw [← hz]; exact rsum_congr fun j hj => by rw [he j hj])
theorem nrm_bas (F : FD) {d : Nat} (hdv : divB F.m d = true) (x : Int) : (NrmI F d (F.m / d) x → (basE F (frobs d (eli F.toDesc x) (F.m / d)) d == 0) = true) ∧ (¬ NrmI F d (F.m / d) x → (basE F (frobs d (eli F.toDesc x) (F.m / d)) d == 0) = false) := by
  have hl : (frobs d (eli F.toDesc x) (F.m / d)).length = F.m / d := frobs_length _ _ _
  have he : NrmI F d (F.m / d) x ↔ IndS d (F.m / d) (elL F (frobs d (eli F.toDesc x) (F.m / d))) :=
    ⟨fun h => IndS.congr7 h fun j hj => (elL_frobs F d _ _ hj).symm, fun h => IndS.congr7 h fun j hj => elL_frobs F d _ _ hj⟩
  refine ⟨fun h => ?_, fun h => ?_⟩
  · rw [basE_ok hdv ⟨hl, he.1 h⟩]; rfl
  · rw [basE_bad hdv (fun e => h (he.2 e.2))]; rfl
theorem upI_prefix {p : List Int} {x : Int} {q : Nat} (h : p ++ [x] <+: upI q) : ∃ k : Nat, k < q ∧ x = (k : Int) ∧ ∀ j : Nat, j < k → (j : Int) ∈ p := by
  obtain ⟨t, ht⟩ := h
  have hl : (upI q).length = q := by unfold upI; simp
  have hg : ∀ i, i < q → (upI q)[i]? = some (i : Int) := fun i hi => by unfold upI; rw [List.getElem?_map, List.getElem?_range hi]; rfl
  have hpl : p.length < q := by rw [← hl, ← ht]; simp
  refine ⟨p.length, hpl, ?_, fun j hj => ?_⟩
  · have h1 := hg p.length hpl
    rw [← ht, List.append_assoc, List.getElem?_append_right (Nat.le_refl _), Nat.sub_self] at h1
    simpa using h1
  · have h1 := hg j (by omega)
    rw [← ht, List.append_assoc, List.getElem?_append_left hj] at h1
    exact List.mem_of_getElem? h1

end Go.Proofs.Yteamndefbpdcjaa
