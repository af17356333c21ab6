/- Layer 39 of the program: word, marks, result, Radius. -/
import Derived.BigQuiet
import Derived.Test.YtpflgmbcmfllgaaZeBndP
namespace Go.Proofs.Ytpflgmbcmfllgaa
open Go.RowKit Cw
attribute [local go_sem] Oper.semAt_some

/-- The error of a received word and of erased positions. -/
def recErr (D : Desc) (word : List Int) (n : Nat) (er : List Int) : Int := if elErr D word n 4 ≠ 0 then elErr D word n 4 else if ¬ (∀ x ∈ er, 0 ≤ x ∧ x < (n : Int)) then 6 else if ¬ er.Nodup then 18 else 0
section
variable {D : Desc} {word er : List Int} {n : Nat}
theorem recErr_len (h : word.length ≠ n) : recErr D word n er = 4 := by
  have e : elErr D word n 4 = 4 := if_pos (by omega)
  unfold recErr; rw [e, if_pos (by decide)]
theorem elErr_el (hl : word.length = n) (h : elB D word = false) : elErr D word n 4 = 2 := by unfold elErr; rw [if_neg (by omega), if_pos h]
theorem elErr_ok (hl : word.length = n) (h : elB D word = true) : elErr D word n 4 = 0 := by unfold elErr; rw [if_neg (by omega), if_neg (by rw [h]; decide)]
theorem recErr_el (hl : word.length = n) (h : elB D word = false) : recErr D word n er = 2 := by unfold recErr; rw [elErr_el hl h, if_pos (by decide)]
theorem recErr_six (hl : word.length = n) (h : elB D word = true) {x : Int} (hx : x ∈ er) (hn : ¬ (0 ≤ x ∧ x < (n : Int))) : recErr D word n er = 6 := by
  unfold recErr; rw [elErr_ok hl h, if_neg (by decide), if_pos fun e => hn (e x hx)]
theorem recErr_dup (hl : word.length = n) (h : elB D word = true) (hr : ∀ x ∈ er, 0 ≤ x ∧ x < (n : Int)) (hd : ¬ er.Nodup) : recErr D word n er = 18 := by
  unfold recErr; rw [elErr_ok hl h, if_neg (by decide), if_neg fun e => e hr, if_pos hd]
theorem recErr_ok (hl : word.length = n) (h : elB D word = true) (hr : ∀ x ∈ er, 0 ≤ x ∧ x < (n : Int)) (hd : er.Nodup) : recErr D word n er = 0 := by
  unfold recErr; rw [elErr_ok hl h, if_neg (by decide), if_neg fun e => e hr, if_neg fun e => e hd]
theorem recErr_zero (h : recErr D word n er = 0) : word.length = n ∧ elB D word = true ∧ (∀ x ∈ er, 0 ≤ x ∧ x < (n : Int)) ∧ er.Nodup := by
  by_cases h1 : word.length = n
  · cases h2 : elB D word with
    | false => rw [recErr_el h1 h2] at h; cases h
    | true =>
      by_cases h3 : ∀ x ∈ er, 0 ≤ x ∧ x < (n : Int)
      · by_cases h4 : er.Nodup
        · exact ⟨h1, rfl, h3, h4⟩
        · rw [recErr_dup h1 h2 h3 h4] at h; cases h
      · exfalso
        have : ∃ x, x ∈ er ∧ ¬ (0 ≤ x ∧ x < (n : Int)) := Classical.byContradiction fun h5 => h3 fun x hx => Classical.byContradiction fun h6 => h5 ⟨x, hx, h6⟩
        obtain ⟨x, hx, h6⟩ := this
        rw [recErr_six h1 h2 hx h6] at h; cases h
  · rw [recErr_len h1] at h; cases h
end

set_option maxHeartbeats 4000000 in
theorem gWord_any (F : FD) (word er : List Int) (n : Nat) (hn : n ≤ 64) (Aw Ae : Option Addr) (cw ce g : Nat) (w : World) (hg : GF w w.heap.size g F) (hrw : Rd w w.heap.size Aw word) (hre : Rd w w.heap.size Ae er) (hwl : word.length ≤ maxLen) (hel : er.length ≤ 1000000) :
    Calls Try.prog 76 #[.pointer (some ⟨g, 0, none⟩), .slice Aw word.length cw, .int .i64 (n : Int), .slice Ae er.length ce] w fun e w' => e = .returned (.int .i64 (recErr F.toDesc word n er)) ∧ Below w.heap.size w w' := by
  unfold maxLen at hwl
  have hI := fun x => Lib.hid (gIs_any F x g w hg)
  have hmk := mk_bools n (by omega)
  by_cases hwn : word.length = n
  rotate_left
  · have hb : ((word.length : Int) != (n : Int)) = true := by rw [bne_iff_ne]; omega
    have hE : Hid (recErr F.toDesc word n er = 4) := recErr_len hwn
    clear hwn
    go_enter Try.func76, Try.ntmps76
    go_wp2_with (fail)
    go_ret
    exact ⟨by rw [hE.out]; rfl, Below.refl _ _⟩
  have hb : ((word.length : Int) != (n : Int)) = false := by rw [bne_eq_false_iff_eq]; omega
  replace hwn := Lib.hid hwn
  go_enter Try.func76, Try.ntmps76
  go_wp2_with (fail)
  go_loop [22] (fun i => ∃ k : Nat, k ≤ word.length ∧ i = .int .i64 k ∧ Hid (∀ j, j < k → 0 ≤ word[j]?.getD 0 ∧ word[j]?.getD 0 < (F.q : Int))) (fun i => word.length - (intOf i).toNat)
  case atStart => exact ⟨0, by omega, rfl, fun j hj => absurd hj (by omega)⟩
  case round =>
    obtain ⟨k, hk, rfl, hall⟩ := hrel
    by_cases hlt : k < word.length
    · obtain ⟨b, o, rfl, -, hc⟩ := hrw.at_ hlt
      have hI2 := hI (word[k]?.getD 0)
      by_cases hy : 0 ≤ word[k]?.getD 0 ∧ word[k]?.getD 0 < (F.q : Int)
      · rw [decide_eq_true hy] at hI2
        have hall2 : Hid (∀ j, j < k + 1 → 0 ≤ word[j]?.getD 0 ∧ word[j]?.getD 0 < (F.q : Int)) := fun j hj => by
          by_cases e : j = k
          · subst e; exact hy
          · exact hall.out j (by omega)
        clear hy
        generalize word[k]?.getD 0 = y at *
        go_wp2_with (fail)
        (with_reducible refine hI2.out.mono ?_)
        rintro e w1 ⟨rfl, rfl⟩
        go_wp2_with (fail)
        go_round
        case rel => exact ⟨k + 1, by omega, by go_num, hall2⟩
        case measure => simp [intOf]; omega
      · have hfin := Lib.hid (elB_no hlt hy)
        have hE : Hid (recErr F.toDesc word n er = 2) := recErr_el hwn.out hfin.out
        rw [decide_eq_false hy] at hI2
        clear hy
        generalize word[k]?.getD 0 = y at *
        go_wp2_with (fail)
        (with_reducible refine hI2.out.mono ?_)
        rintro e w1 ⟨rfl, rfl⟩
        go_wp2_with (fail)
        go_ret
        exact ⟨by rw [hE.out]; rfl, Below.refl _ _⟩
    · obtain rfl : k = word.length := by omega
      have hwe : Hid (elB F.toDesc word = true) := elB_iff.2 hall.out
      clear hall hI
      go_wp2_with (fail)
      go_loop [33] (fun i => ∃ k : Nat, k ≤ er.length ∧ i = .int .i64 k ∧ ∀ x ∈ er.take k, 0 ≤ x ∧ x < (n : Int)) (fun i => er.length - (intOf i).toNat)
      case atStart => exact ⟨0, by omega, rfl, fun x hx => by simp at hx⟩
      case round =>
        obtain ⟨k, hk, rfl, hrg⟩ := hrel
        by_cases hkm : k < er.length
        · obtain ⟨ba, oa, rfl, hba, hca⟩ := hre.at_ hkm
          obtain ⟨x, hx⟩ : ∃ x, x = er[k]?.getD 0 := ⟨_, rfl⟩
          rw [← hx] at hca
          have hxm : x ∈ er := by rw [hx]; exact mem_get hkm
          have hk0 : (0 : Int) ≤ (k : Int) := by omega
          have hk1 : (k : Int) < (er.length : Int) := by omega
          replace hx := Lib.hid hx
          by_cases hx0 : x < 0
          · have hE : Hid (recErr F.toDesc word n er = 6) := recErr_six hwn.out hwe.out hxm (by omega)
            go_wp2_with (fail)
            go_ret
            exact ⟨by rw [hE.out]; rfl, Below.refl _ _⟩
          by_cases hx1 : (n : Int) ≤ x
          · have hE : Hid (recErr F.toDesc word n er = 6) := recErr_six hwn.out hwe.out hxm (by omega)
            go_wp2_with (fail)
            go_ret
            exact ⟨by rw [hE.out]; rfl, Below.refl _ _⟩
          have hrg2 : Hid (∀ x ∈ er.take (k + 1), 0 ≤ x ∧ x < (n : Int)) := fun z hz => by
            rcases (take_succ_mem hkm z).1 hz with h3 | h3
            · exact hrg z h3
            · rw [h3, ← hx.out]; omega
          clear hrg
          go_wp2_with (fail)
          go_round
          case rel => exact ⟨k + 1, by omega, by go_num, hrg2.out⟩
          case measure => simp [intOf]; omega
        · obtain rfl : k = er.length := by omega
          rw [List.take_length] at hrg
          replace hrg := Lib.hid hrg
          have hbb0 := Lib.hid (BB.newz w n)
          have hbz : Below w.heap.size w (w.alloc (.cells (Array.replicate n (Value.bool false)) 4)) := (Below.refl _ _).alloc (Nat.le_refl _) _
          have hlz : w.heap.size < (w.alloc (.cells (Array.replicate n (Value.bool false)) 4)).heap.size := by rw [World.size_alloc]; exact Nat.lt_succ_self _
          go_wp2_with (fail)
          go_loopw [49] (fun i wr => ∃ k : Nat, k ≤ er.length ∧ i = .int .i64 k ∧ (er.take k).Nodup ∧ Hid (BB wr w.heap.size n (fun i => decide ((i : Int) ∈ er.take k))) ∧ Below w.heap.size w wr ∧ w.heap.size < wr.heap.size) (fun i _ => er.length - (intOf i).toNat)
          case atStart => exact ⟨0, by omega, rfl, by simp, by rw [show (fun i : Nat => decide ((i : Int) ∈ er.take 0)) = fun _ => false from funext fun i => by simp]; exact hbb0, hbz, hlz⟩
          case round =>
            obtain ⟨k, hk, rfl, hnd, hbb, hbw, hlw⟩ := hrel
            obtain ⟨w3, rfl⟩ : ∃ w3 : World, w3 = wr := ⟨_, rfl⟩
            clear hbb0 hbz hlz hmk
            by_cases hkm : k < er.length
            · obtain ⟨ba, oa, rfl, hba, hca⟩ := hre.at_ hkm
              have hcb := (hbw.cell (p := ⟨ba, oa + k, none⟩) hba).trans hca
              obtain ⟨xn, hxn⟩ : ∃ xn : Nat, er[k]?.getD 0 = (xn : Int) := ⟨(er[k]?.getD 0).toNat, by have := hrg.out _ (mem_get hkm); omega⟩
              have hxl : xn < n := by have := hrg.out _ (mem_get hkm); omega
              rw [hxn] at hcb
              have hcs := hbb.out.cell hxl
              have hf := hbb.out.frozen xn
              have hx0 : (0 : Int) ≤ (xn : Int) := by omega
              have hx1 : (xn : Int) < (n : Int) := by omega
              have hk0 : (0 : Int) ≤ (k : Int) := by omega
              have hk1 : (k : Int) < (er.length : Int) := by omega
              replace hxn := Lib.hid hxn
              clear hca
              by_cases hd : (xn : Int) ∈ er.take k
              · rw [decide_eq_true hd] at hcs
                have hE : Hid (recErr F.toDesc word n er = 18) := recErr_dup hwn.out hwe.out hrg.out (not_nodup_take hkm (by rw [hxn.out]; exact hd))
                clear hd hnd
                go_wp2_with (fail)
                go_ret
                exact ⟨by rw [hE.out]; rfl, hbw⟩
              · rw [decide_eq_false hd] at hcs
                have hbb2 := Lib.hid (hbb.out.set_ xn true)
                rw [seen_step hkm hxn.out] at hbb2
                have hnd2 := Lib.hid (take_succ_nodup hkm hnd (by rw [hxn.out]; exact hd))
                have hbw2 : Below w.heap.size w (w3.setCell ⟨w.heap.size, xn, none⟩ (.bool true)) := hbw.setCell (p := ⟨w.heap.size, xn, none⟩) (Nat.le_refl _) _
                have hlw2 : w.heap.size < (w3.setCell ⟨w.heap.size, xn, none⟩ (.bool true)).heap.size := Nat.lt_of_lt_of_le hlw (grown_set _ _ _).size
                clear hd hnd
                go_wp2_with (fail)
                go_roundw
                case rel => exact ⟨k + 1, by omega, by go_num, hnd2.out, hbb2, hbw2, hlw2⟩
                case measure => simp [intOf]; omega
            · obtain rfl : k = er.length := by omega
              rw [List.take_length] at hnd
              have hE : Hid (recErr F.toDesc word n er = 0) := recErr_ok hwn.out hwe.out hrg.out hnd
              clear hnd
              go_wp2_with (fail)
              go_ret
              exact ⟨by rw [hE.out]; rfl, hbw⟩

set_option maxHeartbeats 2000000 in
theorem gMarks_any (er : List Int) (n : Nat) (hn : n ≤ 64) (hrg : ∀ x ∈ er, 0 ≤ x ∧ x < (n : Int)) (Ae : Option Addr) (ce : Nat) (w : World) (hre : Rd w w.heap.size Ae er) (hel : er.length ≤ 1000000) :
    Calls Try.prog 78 #[.int .i64 (n : Int), .slice Ae er.length ce] w fun e w' => ∃ gb, e = .returned (.slice (some ⟨gb, 0, none⟩) n n) ∧ w.heap.size ≤ gb ∧ BB w' gb n (fun i => decide ((i : Int) ∈ er)) ∧ Below w.heap.size w w' := by
  have hmk := mk_bools n (by omega)
  have hbb0 := Lib.hid (BB.newz w n)
  have hbz : Below w.heap.size w (w.alloc (.cells (Array.replicate n (Value.bool false)) 4)) := (Below.refl _ _).alloc (Nat.le_refl _) _
  have hlz : w.heap.size < (w.alloc (.cells (Array.replicate n (Value.bool false)) 4)).heap.size := by rw [World.size_alloc]; exact Nat.lt_succ_self _
  replace hrg := Lib.hid hrg
  go_enter Try.func78, Try.ntmps78
  go_wp2_with (fail)
  go_loopw [12] (fun i wr => ∃ k : Nat, k ≤ er.length ∧ i = .int .i64 k ∧ Hid (BB wr w.heap.size n (fun i => decide ((i : Int) ∈ er.take k))) ∧ Below w.heap.size w wr ∧ w.heap.size < wr.heap.size) (fun i _ => er.length - (intOf i).toNat)
  case atStart => exact ⟨0, by omega, rfl, by rw [show (fun i : Nat => decide ((i : Int) ∈ er.take 0)) = fun _ => false from funext fun i => by simp]; exact hbb0, hbz, hlz⟩
  case round =>
    obtain ⟨k, hk, rfl, hbb, hbw, hlw⟩ := hrel
    obtain ⟨w3, rfl⟩ : ∃ w3 : World, w3 = wr := ⟨_, rfl⟩
    clear hbb0 hbz hlz hmk
    by_cases hkm : k < er.length
    · obtain ⟨ba, oa, rfl, hba, hca⟩ := hre.at_ hkm
      have hcb := (hbw.cell (p := ⟨ba, oa + k, none⟩) hba).trans hca
      obtain ⟨xn, hxn⟩ : ∃ xn : Nat, er[k]?.getD 0 = (xn : Int) := ⟨(er[k]?.getD 0).toNat, by have := hrg.out _ (mem_get hkm); omega⟩
      have hxl : xn < n := by have := hrg.out _ (mem_get hkm); omega
      rw [hxn] at hcb
      have hcs := hbb.out.cell hxl
      have hf := hbb.out.frozen xn
      have hx0 : (0 : Int) ≤ (xn : Int) := by omega
      have hx1 : (xn : Int) < (n : Int) := by omega
      have hk0 : (0 : Int) ≤ (k : Int) := by omega
      have hk1 : (k : Int) < (er.length : Int) := by omega
      have hbb2 := Lib.hid (hbb.out.set_ xn true)
      rw [seen_step hkm hxn] at hbb2
      replace hxn := Lib.hid hxn
      have hbw2 : Below w.heap.size w (w3.setCell ⟨w.heap.size, xn, none⟩ (.bool true)) := hbw.setCell (p := ⟨w.heap.size, xn, none⟩) (Nat.le_refl _) _
      have hlw2 : w.heap.size < (w3.setCell ⟨w.heap.size, xn, none⟩ (.bool true)).heap.size := Nat.lt_of_lt_of_le hlw (grown_set _ _ _).size
      clear hca
      go_wp2_with (fail)
      go_roundw
      case rel => exact ⟨k + 1, by omega, by go_num, hbb2, hbw2, hlw2⟩
      case measure => simp [intOf]; omega
    · obtain rfl : k = er.length := by omega
      rw [List.take_length] at hbb
      go_wp2_with (fail)
      go_ret
      exact ⟨w.heap.size, rfl, Nat.le_refl _, hbb.out, hbw⟩
end Go.Proofs.Ytpflgmbcmfllgaa
