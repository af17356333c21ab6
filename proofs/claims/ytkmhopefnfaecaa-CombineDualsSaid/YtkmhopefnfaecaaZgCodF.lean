/- Small enough codes: Few, few. -/
import Derived.Outline
import Derived.Test.YtkmhopefnfaecaaZgCodE
namespace Go.Proofs.Ytkmhopefnfaecaa
open Go.RowKit Cw
attribute [local go_sem] Oper.semAt_some

/-- The sum of the lengths of rows. -/
def sumL (rows : Nat → List Int) : Nat → Nat
  | 0 => 0
  | k + 1 => sumL rows k + (rows k).length
theorem sumL_mono (rows : Nat → List Int) : ∀ {a b : Nat}, a ≤ b → sumL rows a ≤ sumL rows b := fun {a b} h => by
  induction b with
  | zero => obtain rfl : a = 0 := by omega
            exact Nat.le_refl _
  | succ b ih =>
    by_cases e : a = b + 1
    · rw [e]; exact Nat.le_refl _
    · exact Nat.le_trans (ih (by omega)) (Nat.le_add_right _ _)
theorem sumL_one (rows : Nat → List Int) {i n : Nat} (h : i < n) : (rows i).length ≤ sumL rows n :=
  Nat.le_trans (Nat.le_add_left _ (sumL rows i)) (sumL_mono rows h)
/-- At most 4200 rows and entries together. -/
def fewM (n : Nat) (rows : Nat → List Int) : Bool := decide (n + sumL rows n ≤ 4200)
theorem fewM_no {n : Nat} {rows : Nat → List Int} {k : Nat} (hk : k < n) (h : 4200 < n + sumL rows (k + 1)) : fewM n rows = false := decide_eq_false fun h2 => by
  have := sumL_mono rows (show k + 1 ≤ n from hk); omega
set_option maxHeartbeats 1000000 in
theorem Few9_any (n : Nat) (rows : Nat → List Int) (Ar : Option Addr) (cr : Nat) (w : World) (hrm : RdM w w.heap.size Ar n rows) (hn : n ≤ maxLen) (hl : ∀ i, i < n → (rows i).length ≤ maxLen) :
    Calls Try.prog 82 #[.agg #[.int .i64 0, .slice Ar n cr], .int .i64 4200] w fun e w' => e = .returned (.bool (fewM n rows)) ∧ Below w.heap.size w w' := by
  obtain ⟨Z, hZ⟩ : ∃ Z, Z = w.alloc (.cells #[.int .i64 0, .slice Ar n cr] 117) := ⟨_, rfl⟩
  have hB : Below w.heap.size w Z := by rw [hZ]; exact (Below.refl _ _).alloc (Nat.le_refl _) _
  have z0 : Z.cell? ⟨w.heap.size, 0, none⟩ = some (.int .i64 0) := by rw [hZ]; simp [go_sem]
  have z1 : Z.cell? ⟨w.heap.size, 1, none⟩ = some (.slice Ar n cr) := by rw [hZ]; simp [go_sem]
  have hrz := (hrm.below hB).more hB.size
  unfold maxLen at hn hl
  replace hZ := Lib.hid hZ
  by_cases b1 : (4200 : Int) < (n : Int)
  · rw [show fewM n rows = false from decide_eq_false fun h => by omega]
    clear hl
    go_enter Try.func82, Try.ntmps82
    go_wp2_with (fail)
    go_ret
    rw [← hZ.out]
    exact ⟨rfl, hB⟩
  · go_enter Try.func82, Try.ntmps82
    go_wp2_with (fail)
    rw [← hZ.out]
    go_loop [6, 5] (fun i r => ∃ k : Nat, k ≤ n ∧ i = .int .i64 k ∧ ∃ q : Nat, r = .int .i64 q ∧ q + n + sumL rows k = 4200) (fun i _ => n - (intOf i).toNat)
    case atStart => exact ⟨0, by omega, rfl, 4200 - n, by go_num, by show 4200 - n + n + 0 = 4200; omega⟩
    case round =>
      obtain ⟨k, hk, rfl, q, rfl, hq⟩ := hrel
      by_cases hlt : k < n
      · obtain ⟨b, o, Ak, ck, rfl, hb, hc, -, -, -⟩ := hrz.at_ hlt
        have hlk := hl k hlt
        obtain ⟨t, ht⟩ : ∃ t, t = (rows k).length := ⟨_, rfl⟩
        rw [← ht] at hc hlk
        have hsu : sumL rows (k + 1) = sumL rows k + t := by rw [ht]; rfl
        by_cases b2 : (q : Int) < (t : Int)
        · have he : Hid (fewM n rows = false) := fewM_no hlt (by rw [hsu]; omega)
          clear hl hsu ht hq
          go_wp2_with (fail)
          go_ret
          exact ⟨by rw [he.out]; rfl, hB⟩
        · have hq2 : Hid (q - t + n + sumL rows (k + 1) = 4200) := by unfold Hid; rw [hsu]; omega
          have htq : t ≤ q := by omega
          have hq42 : q ≤ 4200 := by omega
          clear hl hsu ht hq
          go_wp2_with (fail)
          go_round
          case rel => exact ⟨k + 1, by omega, by go_num, q - t, by go_num, hq2.out⟩
          case measure => simp [intOf]; omega
      · obtain rfl : k = n := by omega
        have he : Hid (fewM k rows = true) := decide_eq_true (by omega)
        clear hq hl
        go_wp2_with (fail)
        go_ret
        exact ⟨by rw [he.out]; rfl, hB⟩
theorem Few12_any (Pa Ma Na : Int) (mla : List Int) (na : Nat) (rowsa : Nat → List Int) (Aa Ra : Option Addr) (ca ka : Nat) (w : World) (hm : RdM w w.heap.size Ra na rowsa) (hn : na ≤ maxLen) (hl : ∀ i, i < na → (rowsa i).length ≤ maxLen) :
    Calls Try.prog 37 #[.agg #[.int .i64 Pa, .int .i64 Ma, .slice Aa mla.length ca, .int .i64 Na, .slice Ra na ka], .int .i64 4200] w fun e w' => e = .returned (.bool (fewM na rowsa)) ∧ Below w.heap.size w w' := by
  obtain ⟨Z, hZ⟩ : ∃ Z, Z = w.alloc (.cells #[.int .i64 Pa, .int .i64 Ma, .slice Aa mla.length ca, .int .i64 Na, .slice Ra na ka] 27) := ⟨_, rfl⟩
  have hB : Below w.heap.size w Z := by rw [hZ]; exact (Below.refl _ _).alloc (Nat.le_refl _) _
  have hF := Lib.hid (Few9_any na rowsa Ra ka Z ((hm.below hB).more hB.size) hn hl)
  replace hZ := Lib.hid hZ
  clear hn hl
  go_enter Try.func37, Try.ntmps37
  go_wp2_with (fail)
  rw [← hZ.out]
  (with_reducible refine hF.out.mono ?_)
  rintro e w1 ⟨rfl, hb1⟩
  go_wp2_with (fail)
  go_ret
  exact ⟨rfl, hB.trans (hb1.mono hB.size)⟩
end Go.Proofs.Ytkmhopefnfaecaa
