/- Order and the program's Eval. -/
import Derived.Test.YtemanlkgfhmclaaRG
import Derived.Test.YtemanlkgfhmclaaGA
import Derived.Test.YtemanlkgfhmclaaP1
namespace Go.Proofs.Ytemanlkgfhmclaa
open Go.RowKit Cw

/-- Two lists of the call's own that share no block. -/
def Dis (v1 v2 : Value) : Prop := ∀ k, v1.ownBlock = some k → v2.ownBlock ≠ some k
theorem Dis.nil : Dis (.slice none 0 0) (.slice none 0 0) := fun k h => by simp [Value.ownBlock] at h
theorem Dis.symm {v1 v2 : Value} (h : Dis v1 v2) : Dis v2 v1 := fun k h1 h2 => h k h2 h1
theorem Dis.step {v1 v2 u : Value} {B N : Nat} (h : Dis v1 v2) (hl : ∀ k, v2.ownBlock = some k → B ≤ k ∧ k < N) (hv : u.ownBlock = v1.ownBlock ∨ ∀ k, u.ownBlock = some k → N ≤ k) : Dis u v2 := fun k h1 h2 => by
  rcases hv with e | e
  · exact h k (e ▸ h1) h2
  · have := e k h1; have := (hl k h2).2; omega
theorem Dis.ne {v1 v2 : Value} (h : Dis v1 v2) : v1.ownBlock = none ∨ v1.ownBlock ≠ v2.ownBlock := by
  cases e : v1.ownBlock with
  | none => exact .inl rfl
  | some k => exact .inr fun e2 => h k e e2.symm
theorem Own.farB {w : World} {g : Nat} {v : Value} {l : List Int} (h : Own w (g + 1) v l) (i : Nat) (u : Value) : Own (w.setCell ⟨g, i, none⟩ u) (g + 1) v l := h.far (fun e => by have := (h.lt g e).1; omega) u

theorem Own.cap {w : World} {B n c : Nat} {A : Option Addr} {l : List Int} (h : Own w B (.slice A n c) l) : c ≤ maxLen := by
  rcases h.2 with ⟨e, -⟩ | ⟨g, cap, cur, hv, hb, hg, hc, hm, _⟩
  · cases e; exact Nat.zero_le _
  · cases hv; exact hm
theorem Rd.far {w : World} {B g : Nat} {A : Option Addr} {l : List Int} (h : Rd w B A l) (hA : ∀ b, A = some b → b.block ≠ g) (i : Nat) (u : Value) : Rd (w.setCell ⟨g, i, none⟩ u) B A l := fun hn => by
  obtain ⟨b, off, e, hbl, hcell⟩ := h hn
  have h8 := hA _ e
  refine ⟨b, off, e, hbl, fun j hj => ?_⟩
  have ne : (⟨b, off + j, none⟩ : Addr) ≠ ⟨g, i, none⟩ := fun e2 => h8 (congrArg Addr.block e2)
  rw [World.cell?_setCell_other _ _ _ _ (by first | exact ne | exact ne.symm)]
  exact hcell j hj
theorem Own.base {w : World} {B B' : Nat} {v : Value} {l : List Int} (h : Own w B v l) (hB : B' ≤ B) : Own w B' v l := by
  refine ⟨h.1, ?_⟩
  rcases h.2 with hn | ⟨g, cap, cur, rfl, hb, rest⟩
  · exact .inl hn
  · exact .inr ⟨g, cap, cur, rfl, Nat.le_trans hB hb, rest⟩
theorem Own.cell0 {w : World} {B b o n c k : Nat} {l : List Int} (h : Own w B (.slice (some ⟨b, o, none⟩) n c) l) (hk : k < l.length) : w.cell? ⟨b, o + k, none⟩ = some (.int .i64 (l[k]?.getD 0)) := by
  obtain ⟨A', c', e, -, hr, -⟩ := h.form
  cases e
  obtain ⟨b', o', eA, -, hc⟩ := hr.at_ hk
  cases eA
  exact hc

set_option maxHeartbeats 400000 in
theorem gOrder_any (D : FD) (g : Nat) (w : World) (hg : GF w w.heap.size g D) :
    Calls Try.prog 22 #[.pointer (some ⟨g, 0, none⟩)] w fun e w' => e = .returned (.int .i64 D.q) ∧ w = w' := by
  have c3 := hg.c3
  clear hg
  go_enter Try.func22, Try.ntmps22
  go_wp2_with (fail)
  go_ret
  exact ⟨rfl, rfl⟩

theorem rd_new (W : World) (l : List Int) : Rd (W.alloc (.cells (l.map (Value.int .i64)).toArray 3)) (W.alloc (.cells (l.map (Value.int .i64)).toArray 3)).heap.size (some ⟨W.heap.size, 0, none⟩) l := (IB.new W l).rd

/-- A list of ints as a polynomial: its value at u. -/
def pevI (D : Desc) [CRing (R D)] (l : List Int) (u : R D) : R D := rsum l.length fun i => eli D (l[i]?.getD 0) * pw u i
/-- Horner's sum from place i on. -/
def horner (D : Desc) (l : List Int) (u : R D) : Nat → R D
  | 0 => 0
  | t + 1 => horner D l u t * u + eli D (l[l.length - (t + 1)]?.getD 0)
theorem horner_eq (D : Desc) (l : List Int) (u : R D) : ∀ t, t ≤ l.length → horner D l u t = rsum t (fun i => eli D (l[l.length - t + i]?.getD 0) * pw u i)
  | 0, _ => rfl
  | t + 1, h => by
    show horner D l u t * u + _ = _
    rw [horner_eq D l u t (by omega), rsum_succ_left, Nat.add_zero, pw_zero, mul_one, add_c, ← rsum_mul_right]
    congr 1
    refine rsum_congr fun i hi => ?_
    rw [show l.length - (t + 1) + (i + 1) = l.length - t + i by omega, mul_a]
    rfl
theorem horner_full (D : Desc) (l : List Int) (u : R D) : horner D l u l.length = pevI D l u := by
  rw [horner_eq D l u _ (Nat.le_refl _), Nat.sub_self]
  exact rsum_congr fun i _ => by rw [Nat.zero_add]

set_option maxHeartbeats 1000000 in
theorem pEval_any (D : FD) (l : List Int) (x : Int) (A : Option Addr) (c g : Nat) (w : World) (hg : GF w w.heap.size g D) (hr : Rd w w.heap.size A l) (hl : l.length ≤ maxLen) :
    Calls Try.prog 61 #[.pointer (some ⟨g, 0, none⟩), .slice A l.length c, .int .i64 x] w fun e w' => e = .returned (.int .i64 (ci (pevI D.toDesc l (eli D.toDesc x)))) ∧ Below w.heap.size w w' := by
  unfold maxLen at hl
  have hM := fun y W hg => Lib.hid (gMul_any D y x g W hg)
  have hA := fun y z W hg => Lib.hid (gAdd_any D y z g W hg)
  have hfin := Lib.hid (horner_full D.toDesc l (eli D.toDesc x))
  go_enter Try.func61, Try.ntmps61
  go_wp2_with (fail)
  go_loopw [7, 8] (fun y i wr => ∃ t : Nat, t ≤ l.length ∧ i = .int .i64 ((l.length : Int) - 1 - t) ∧ y = .int .i64 (ci (horner D.toDesc l (eli D.toDesc x) t)) ∧ Below w.heap.size w wr) (fun _ i _ => (intOf i + 1).toNat)
  case atStart => exact ⟨0, by omega, by go_num, by show _ = Value.int .i64 (ci (0 : R D.toDesc)); rw [ci_zero], Below.refl _ _⟩
  case round =>
    obtain ⟨t, ht, rfl, rfl, hbw⟩ := hrel
    by_cases hlt : t < l.length
    · have hge : decide ((0 : Int) ≤ (l.length : Int) - 1 - t) = true := by simp; omega
      obtain ⟨k, hk⟩ : ∃ k : Nat, k = l.length - (t + 1) := ⟨_, rfl⟩
      have hki : (l.length : Int) - 1 - t = (k : Int) := by omega
      rw [hki]
      have hkl : k < l.length := by omega
      have hk0 : (0 : Int) ≤ (k : Int) := by omega
      have hk1 : (k : Int) < (l.length : Int) := by omega
      obtain ⟨b, o, rfl, hb, hc⟩ := hr.at_ hkl
      have hc2 := (hbw.cell (p := ⟨b, o + k, none⟩) hb).trans hc
      have hs : horner D.toDesc l (eli D.toDesc x) (t + 1) = horner D.toDesc l (eli D.toDesc x) t * eli D.toDesc x + eli D.toDesc (l[k]?.getD 0) := by rw [hk]; rfl
      obtain ⟨y, hy⟩ : ∃ y, y = l[k]?.getD 0 := ⟨_, rfl⟩
      rw [← hy] at hc2 hs
      have hM2 := fun W hg => (hM (ci (horner D.toDesc l (eli D.toDesc x) t)) W hg).out
      rw [eli_ci] at hM2
      replace hM2 := fun W hg => Lib.hid (hM2 W hg)
      have hA2 := fun W hg => (hA (ci (horner D.toDesc l (eli D.toDesc x) t * eli D.toDesc x)) y W hg).out
      rw [eli_ci, ← hs] at hA2
      replace hA2 := fun W hg => Lib.hid (hA2 W hg)
      have hgr := (hg.below hbw).more hbw.size
      have hcc := Lib.hid hc2
      replace hki := Lib.hid hki
      have hkt : k + t + 1 = l.length := by omega
      replace hkt := Lib.hid hkt
      clear hc hs hy hge hk
      go_wp2_with (fail)
      go_region_held3 (fun w' => w'.cell? ⟨b, o + k, none⟩ = some (.int .i64 y)) (first | exact hcc.out | exact hcc1.out | exact hcc2.out)
        (first
          | (go_at_call 41; (with_reducible refine (hM2 _ hgr.drew).out.mono ?_); rintro e w1 ⟨rfl, hb1⟩; have hbt1 := (hbw.drew).trans (hb1.mono hbw.size); have hcc1 := Lib.hid ((hb1.cell (p := ⟨b, o + k, none⟩) (Nat.lt_of_lt_of_le hb hbw.size)).trans hcc.out); have hg1 := (hg.below hbt1).more hbt1.size)
          | (go_at_call 63; (with_reducible refine (hA2 _ hg1).out.mono ?_); rintro e w2 ⟨rfl, hb2⟩; have hbt2 := hbt1.trans (hb2.mono hbt1.size); have hcc2 := Lib.hid ((hb2.cell (p := ⟨b, o + k, none⟩) (Nat.lt_of_lt_of_le hb hbt1.size)).trans hcc1.out)))
      go_wp2_with (fail)
      go_roundw
      case rel => exact ⟨t + 1, by omega, by rw [← hki.out]; go_num, rfl, hbt2⟩
      case measure => rw [← hki.out]; simp [intOf]; omega
    · obtain rfl : t = l.length := by omega
      have hge : decide ((0 : Int) ≤ (l.length : Int) - 1 - (l.length : Int)) = false := by simp; omega
      have hki : (l.length : Int) - 1 - (l.length : Int) = -1 := by omega
      rw [hki]
      clear hge
      go_wp2_with (fail)
      go_ret
      exact ⟨ret_int (by rw [hfin.out]), hbw⟩
end Go.Proofs.Ytemanlkgfhmclaa
