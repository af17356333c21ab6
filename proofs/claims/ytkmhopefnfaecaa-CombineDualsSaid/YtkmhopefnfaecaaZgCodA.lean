/- The program's check of a matrix, for any rows: entries, check. -/
import Derived.Test.YtkmhopefnfaecaaZgMP
import Derived.Test.YtkmhopefnfaecaaZgHasA
namespace Go.Proofs.Ytkmhopefnfaecaa
open Go.RowKit Cw
attribute [local go_sem] Oper.semAt_some

/-- Rows that are all of one length, few enough; rows all of whose entries are elements. -/
def ShpOk (N : Int) (n : Nat) (rows : Nat → List Int) : Prop := 0 ≤ N ∧ N ≤ 256 ∧ n ≤ 256 ∧ ∀ i, i < n → ((rows i).length : Int) = N
def ElsOk (D : Desc) (n : Nat) (rows : Nat → List Int) : Prop := ∀ i, i < n → elB D (rows i) = true
open Classical in
/-- The error of a matrix over a field. -/
noncomputable def mErr (D : Desc) (N : Int) (n : Nat) (rows : Nat → List Int) : Int := if ShpOk N n rows then (if ElsOk D n rows then 0 else 2) else 3
theorem mErr_shape {D : Desc} {N : Int} {n : Nat} {rows : Nat → List Int} (h : ¬ ShpOk N n rows) : mErr D N n rows = 3 := if_neg h
theorem mErr_els {D : Desc} {N : Int} {n : Nat} {rows : Nat → List Int} (h : ShpOk N n rows) (h2 : ¬ ElsOk D n rows) : mErr D N n rows = 2 := by unfold mErr; rw [if_pos h, if_neg h2]
theorem mErr_ok {D : Desc} {N : Int} {n : Nat} {rows : Nat → List Int} (h : ShpOk N n rows) (h2 : ElsOk D n rows) : mErr D N n rows = 0 := by unfold mErr; rw [if_pos h, if_pos h2]

set_option maxHeartbeats 1000000 in
theorem gEntries_any (F : FD) (l : List Int) (A1 : Option Addr) (c1 gf : Nat) (w : World) (hg : GF w w.heap.size gf F) (hr1 : Rd w w.heap.size A1 l) (hl : l.length ≤ 1000000) :
    Calls Try.prog 184 #[.pointer (some ⟨gf, 0, none⟩), .slice A1 l.length c1] w fun e w' => e = .returned (.int .i64 (elE F.toDesc l)) ∧ w = w' := by
  have hI := fun x => gIs_any F x gf w hg
  go_enter Try.func184, Try.ntmps184
  go_wp2_with (fail)
  go_loop [9, 6] (fun i _ => ∃ k : Nat, k ≤ l.length ∧ i = .int .i64 k ∧ ∀ j, j < k → 0 ≤ l[j]?.getD 0 ∧ l[j]?.getD 0 < (F.q : Int)) (fun i _ => l.length - (intOf i).toNat)
  case atStart => exact ⟨0, by omega, rfl, fun j hj => absurd hj (Nat.not_lt_zero _)⟩
  case round =>
    obtain ⟨k, hk, rfl, hin⟩ := hrel
    by_cases hlt : k < l.length
    · obtain ⟨b, o, rfl, -, hc⟩ := hr1.at_ hlt
      obtain ⟨y, hy⟩ : ∃ y, y = l[k]?.getD 0 := ⟨_, rfl⟩
      rw [← hy] at hc
      have hI2 := hI y
      by_cases hyi : 0 ≤ y ∧ y < (F.q : Int)
      · rw [decide_eq_true hyi] at hI2
        replace hI2 := Lib.hid hI2
        have hin2 : Hid (∀ j, j < k + 1 → 0 ≤ l[j]?.getD 0 ∧ l[j]?.getD 0 < (F.q : Int)) := fun j hj => by
          by_cases e : j = k
          · rw [e, ← hy]; exact hyi
          · exact hin j (by omega)
        clear hin hyi hy hI
        go_wp2_with (fail)
        (with_reducible refine hI2.out.mono ?_)
        rintro e w1 ⟨rfl, rfl⟩
        go_wp2_with (fail)
        go_round
        case rel => exact ⟨k + 1, by omega, by go_num, hin2.out⟩
        case measure => simp [intOf]; omega
      · rw [decide_eq_false hyi] at hI2
        replace hI2 := Lib.hid hI2
        have hel : elB F.toDesc l = false := by
          cases h : elB F.toDesc l with
          | false => rfl
          | true => exact absurd (by rw [hy]; exact elB_iff.1 h k hlt) hyi
        replace hel := Lib.hid hel
        clear hin hyi hy hI
        go_wp2_with (fail)
        (with_reducible refine hI2.out.mono ?_)
        rintro e w1 ⟨rfl, rfl⟩
        go_wp2_with (fail)
        go_ret
        exact ⟨by rw [show elE F.toDesc l = 2 from if_pos hel.out]; rfl, rfl⟩
    · obtain rfl : k = l.length := by omega
      have hel : Hid (elB F.toDesc l = true) := elB_iff.2 hin
      clear hin hI
      go_wp2_with (fail)
      go_ret
      exact ⟨by rw [show elE F.toDesc l = 0 from if_neg (by rw [hel.out]; simp)]; rfl, rfl⟩

set_option maxHeartbeats 2000000 in
theorem gCheckM_any (F : FD) (N : Int) (n : Nat) (rows : Nat → List Int) (Ar : Option Addr) (cr gf : Nat) (w : World) (hg : GF w w.heap.size gf F) (hrm : RdM w w.heap.size Ar n rows) (hn : n ≤ 1000000) (hl : ∀ i, i < n → (rows i).length ≤ 1000000) :
    Calls Try.prog 175 #[.pointer (some ⟨gf, 0, none⟩), .agg #[.int .i64 N, .slice Ar n cr]] w fun e w' => e = .returned (.int .i64 (mErr F.toDesc N n rows)) ∧ Below w.heap.size w w' := by
  obtain ⟨Z, hZ⟩ : ∃ Z, Z = w.alloc (.cells #[.int .i64 N, .slice Ar n cr] 117) := ⟨_, rfl⟩
  have hB : Below w.heap.size w Z := by rw [hZ]; exact (Below.refl _ _).alloc (Nat.le_refl _) _
  have z0 : Z.cell? ⟨w.heap.size, 0, none⟩ = some (.int .i64 N) := by rw [hZ]; simp [go_sem]
  have z1 : Z.cell? ⟨w.heap.size, 1, none⟩ = some (.slice Ar n cr) := by rw [hZ]; simp [go_sem]
  have hrz := (hrm.below hB).more hB.size
  have hgz := (hg.below hB).more hB.size
  have hE := fun i A1 c1 h hi => gEntries_any F (rows i) A1 c1 gf Z hgz h (hl i hi)
  obtain ⟨E, hE0⟩ : ∃ E, E = mErr F.toDesc N n rows := ⟨_, rfl⟩
  rw [← hE0]
  replace hE0 := Lib.hid hE0
  replace hZ := Lib.hid hZ
  by_cases b1 : N < 0
  · have he3 : E = 3 := by rw [hE0.out]; exact mErr_shape fun h => absurd h.1 (by omega)
    replace he3 := Lib.hid he3
    have hd : decide (N < 0) = true := decide_eq_true b1
    clear hE hl b1
    go_enter Try.func175, Try.ntmps175
    go_wp2_with (fail)
    go_ret
    rw [← hZ.out]
    exact ⟨by rw [he3.out]; rfl, hB⟩
  by_cases b2 : (256 : Int) < N
  · have he3 : E = 3 := by rw [hE0.out]; exact mErr_shape fun h => absurd h.2.1 (by omega)
    replace he3 := Lib.hid he3
    clear hE hl
    go_enter Try.func175, Try.ntmps175
    go_wp2_with (fail)
    go_ret
    rw [← hZ.out]
    exact ⟨by rw [he3.out]; rfl, hB⟩
  by_cases b3 : (256 : Int) < (n : Int)
  · have he3 : E = 3 := by rw [hE0.out]; exact mErr_shape fun h => absurd h.2.2.1 (by omega)
    replace he3 := Lib.hid he3
    clear hE hl
    go_enter Try.func175, Try.ntmps175
    go_wp2_with (fail)
    go_ret
    rw [← hZ.out]
    exact ⟨by rw [he3.out]; rfl, hB⟩
  go_enter Try.func175, Try.ntmps175
  go_wp2_with (fail)
  rw [← hZ.out]
  go_loop [27, 6] (fun i _ => ∃ k : Nat, k ≤ n ∧ i = .int .i64 k ∧ ∀ j, j < k → ((rows j).length : Int) = N) (fun i _ => n - (intOf i).toNat)
  case atStart => exact ⟨0, by omega, rfl, fun j hj => absurd hj (Nat.not_lt_zero _)⟩
  case round =>
    obtain ⟨k, hk, rfl, hin⟩ := hrel
    by_cases hlt : k < n
    · obtain ⟨b, o, Ak, ck, rfl, hb, hc, hrk, -, -⟩ := hrz.at_ hlt
      by_cases hq : ((rows k).length : Int) = N
      · have hmm : (((rows k).length : Int) != N) = false := by rw [bne_eq_false_iff_eq]; exact hq
        have hin2 : Hid (∀ j, j < k + 1 → ((rows j).length : Int) = N) := fun j hj => by
          by_cases e : j = k
          · rw [e]; exact hq
          · exact hin j (by omega)
        clear hin hq hE
        go_wp2_with (fail)
        go_round
        case rel => exact ⟨k + 1, by omega, by go_num, hin2.out⟩
        case measure => simp [intOf]; omega
      · have hmm : (((rows k).length : Int) != N) = true := by rw [bne_iff_ne]; exact hq
        have he3 : E = 3 := by rw [hE0.out]; exact mErr_shape fun h => hq (h.2.2.2 k hlt)
        replace he3 := Lib.hid he3
        clear hin hq hE
        go_wp2_with (fail)
        go_ret
        exact ⟨by rw [he3.out]; rfl, hB⟩
    · obtain rfl : k = n := by omega
      have hsh : Hid (ShpOk N k rows) := ⟨by omega, by omega, by omega, hin⟩
      clear hin
      go_wp2_with (fail)
      go_loop [40, 8, 9] (fun i _ _ => ∃ k' : Nat, k' ≤ k ∧ i = .int .i64 k' ∧ ∀ j, j < k' → elB F.toDesc (rows j) = true) (fun i _ _ => k - (intOf i).toNat)
      case atStart => exact ⟨0, by omega, rfl, fun j hj => absurd hj (Nat.not_lt_zero _)⟩
      case round =>
        obtain ⟨k', hk', rfl, hin⟩ := hrel
        by_cases hlt' : k' < k
        · obtain ⟨b, o, Ak, ck, rfl, hb, hc, hrk, -, -⟩ := hrz.at_ hlt'
          have hE2 := hE k' Ak ck hrk hlt'
          by_cases hel : elB F.toDesc (rows k') = true
          · rw [show elE F.toDesc (rows k') = 0 from if_neg (by rw [hel]; simp)] at hE2
            replace hE2 := Lib.hid hE2
            have hin2 : Hid (∀ j, j < k' + 1 → elB F.toDesc (rows j) = true) := fun j hj => by
              by_cases e : j = k'
              · rw [e]; exact hel
              · exact hin j (by omega)
            clear hin hel hE
            go_wp2_with (fail)
            (with_reducible refine hE2.out.mono ?_)
            rintro e w1 ⟨rfl, rfl⟩
            go_wp2_with (fail)
            go_round
            case rel => exact ⟨k' + 1, by omega, by go_num, hin2.out⟩
            case measure => simp [intOf]; omega
          · rw [show elE F.toDesc (rows k') = 2 from if_pos (by simpa using hel)] at hE2
            replace hE2 := Lib.hid hE2
            have he2 : E = 2 := by rw [hE0.out]; exact mErr_els hsh.out fun h => hel (h k' hlt')
            replace he2 := Lib.hid he2
            clear hin hel hE
            go_wp2_with (fail)
            (with_reducible refine hE2.out.mono ?_)
            rintro e w1 ⟨rfl, rfl⟩
            go_wp2_with (fail)
            go_ret
            exact ⟨by rw [he2.out]; rfl, hB⟩
        · obtain rfl : k' = k := by omega
          have he0 : E = 0 := by rw [hE0.out]; exact mErr_ok hsh.out hin
          replace he0 := Lib.hid he0
          clear hin hE
          go_wp2_with (fail)
          go_ret
          exact ⟨by rw [he0.out]; rfl, hB⟩
end Go.Proofs.Ytkmhopefnfaecaa
