/- The reference of layer 39: Received, Differ, Plus. -/
import Derived.Test.YtpflgmbcmfllgaaZcB39
namespace Go.Proofs.Ytpflgmbcmfllgaa
open Go.RowKit Cw
attribute [local go_sem] Oper.semAt_some

set_option maxRecDepth 100000 in
set_option maxHeartbeats 4000000 in
theorem Received39_any (D : Desc) (word er : List Int) (n : Nat) (A Aw Ae : Option Addr) (c cw ce : Nat) (w : World) (hrw : Rd w w.heap.size Aw word) (hre : Rd w w.heap.size Ae er) (hwl : word.length ≤ maxLen) (hel : er.length ≤ 1000000) :
    Calls Try.prog 33 #[.agg #[.int .i64 D.p, .int .i64 D.m, .slice A D.mod.length c], .int .i64 (n : Int), .slice Aw word.length cw, .slice Ae er.length ce] w fun e w' => e = .returned (.int .i64 (recErr D word n er)) ∧ Below w.heap.size w w' := by
  have hE := fun W a => Lib.hid (Elems18_any D word n 4 A Aw c cw W a hwl)
  obtain ⟨Z, hZ⟩ : ∃ Z, Z = w.alloc (.cells #[.int .i64 D.p, .int .i64 D.m, .slice A D.mod.length c] 24) := ⟨_, rfl⟩
  have hB : Below w.heap.size w Z := by rw [hZ]; exact (Below.refl _ _).alloc (Nat.le_refl _) _
  have hbx := Lib.hid (show Bx Z w.heap.size D A D.mod.length c from by rw [hZ]; exact Bx.new w D A D.mod.length c _)
  have hE1 := hE Z ((hrw.below hB).more hB.size)
  replace hZ := Lib.hid hZ
  clear hE hrw
  go_enter Try.func33, Try.ntmps33
  obtain ⟨q0, q1, q2⟩ := hbx.out.cells
  go_wp2_with (fail)
  rw [← hZ.out]
  go_wp2_with (fail)
  (with_reducible refine hE1.out.mono ?_)
  rintro e w1 ⟨rfl, hb1⟩
  clear q0 q1 q2
  have hB1 := hB.trans (hb1.mono hB.size)
  have hre1 := (hre.below hB1).more hB1.size
  by_cases hz : elErr D word n 4 = 0
  rotate_left
  · have hzb : (elErr D word n 4 != 0) = true := by rw [bne_iff_ne]; exact hz
    have hR : Hid (recErr D word n er = elErr D word n 4) := if_pos hz
    clear hz
    go_wp2_with (fail)
    go_ret
    exact ⟨by rw [hR.out]; rfl, hB1⟩
  rw [hz]
  have hwn : word.length = n ∧ elB D word = true := by
    unfold elErr at hz
    by_cases h1 : (word.length : Int) ≠ n
    · rw [if_pos h1] at hz; cases hz
    · rw [if_neg h1] at hz
      by_cases h2 : elB D word = false
      · rw [if_pos h2] at hz; cases hz
      · exact ⟨by omega, by cases h : elB D word with | true => rfl | false => exact absurd h h2⟩
  replace hwn := Lib.hid hwn
  clear hz hE1
  go_wp2_with (fail)
  go_loop [10] (fun i => ∃ k : Nat, k ≤ er.length ∧ i = .int .i64 k ∧ ∀ x ∈ er.take k, 0 ≤ x ∧ x < (n : Int)) (fun i => er.length - (intOf i).toNat)
  case atStart => exact ⟨0, by omega, rfl, fun x hx => by simp at hx⟩
  case round =>
    obtain ⟨k, hk, rfl, hrg⟩ := hrel
    by_cases hkm : k < er.length
    · obtain ⟨ba, oa, rfl, hba, hca⟩ := hre1.at_ hkm
      obtain ⟨x, hx⟩ : ∃ x, x = er[k]?.getD 0 := ⟨_, rfl⟩
      rw [← hx] at hca
      have hxm : x ∈ er := by rw [hx]; exact mem_get hkm
      have hk0 : (0 : Int) ≤ (k : Int) := by omega
      have hk1 : (k : Int) < (er.length : Int) := by omega
      replace hx := Lib.hid hx
      by_cases hx0 : x < 0
      · have hE : Hid (recErr D word n er = 6) := recErr_six hwn.out.1 hwn.out.2 hxm (by omega)
        go_wp2_with (fail)
        go_ret
        exact ⟨by rw [hE.out]; rfl, hB1⟩
      by_cases hx1 : (n : Int) ≤ x
      · have hE : Hid (recErr D word n er = 6) := recErr_six hwn.out.1 hwn.out.2 hxm (by omega)
        go_wp2_with (fail)
        go_ret
        exact ⟨by rw [hE.out]; rfl, hB1⟩
      have hrg2 : Hid (∀ x ∈ er.take (k + 1), 0 ≤ x ∧ x < (n : Int)) := fun z hz => by
        rcases (take_succ_mem hkm z).1 hz with h3 | h3
        · exact hrg z h3
        · rw [h3, ← hx.out]; omega
      clear hrg
      go_wp2_with (fail)
      go_round
      case rel => exact ⟨k + 1, by omega, by go_num, hrg2.out⟩
      case measure => simp [intOf]; omega
    · obtain rfl : k = er.length := by omega
      rw [List.take_length] at hrg
      replace hrg := Lib.hid hrg
      go_wp2_with (fail)
      go_loopw [11] (fun i wr => ∃ k : Nat, k ≤ er.length ∧ i = .int .i64 k ∧ (er.take k).Nodup ∧ Below w1.heap.size w1 wr) (fun i _ => er.length - (intOf i).toNat)
      case atStart => exact ⟨0, by omega, rfl, by simp, Below.refl _ _⟩
      case round =>
        obtain ⟨k, hk, rfl, hnd, hbw⟩ := hrel
        obtain ⟨w3, rfl⟩ : ∃ w3 : World, w3 = wr := ⟨_, rfl⟩
        by_cases hkm : k < er.length
        · obtain ⟨ba, oa, rfl, hba, hca⟩ := hre1.at_ hkm
          have hk0 : (0 : Int) ≤ (k : Int) := by omega
          have hk1 : (k : Int) < (er.length : Int) := by omega
          obtain ⟨x, hx⟩ : ∃ x, x = er[k]?.getD 0 := ⟨_, rfl⟩
          rw [← hx] at hca
          replace hx := Lib.hid hx
          replace hnd := Lib.hid hnd
          go_wp2_with (fail)
          go_loopw [12] (fun i wr => ∃ j : Nat, j ≤ k ∧ i = .int .i64 j ∧ ¬ x ∈ er.take j ∧ Below w1.heap.size w1 wr) (fun i _ => k - (intOf i).toNat)
          case atStart => exact ⟨0, by omega, rfl, by simp, hbw⟩
          case round =>
            clear hbw
            obtain ⟨j, hj, rfl, hnx, hbw⟩ := hrel
            obtain ⟨w4, rfl⟩ : ∃ w4 : World, w4 = wr := ⟨_, rfl⟩
            by_cases hjk : j < k
            · have hj0 : (0 : Int) ≤ (j : Int) := by omega
              have hj1 : (j : Int) < (k : Int) := by omega
              have hj2 : (j : Int) < (er.length : Int) := by omega
              have hc1 := (hbw.cell (p := ⟨ba, oa + k, none⟩) hba).trans hca
              obtain ⟨b', o', e', -, hcj⟩ := hre1.at_ (show j < er.length by omega)
              cases e'
              have hc2 := (hbw.cell (p := ⟨ba, oa + j, none⟩) hba).trans hcj
              obtain ⟨y, hy⟩ : ∃ y, y = er[j]?.getD 0 := ⟨_, rfl⟩
              rw [← hy] at hc2
              have hin : x ∈ er.take (j + 1) ↔ x ∈ er.take j ∨ x = y := by rw [hy]; exact take_succ_mem (by omega) x
              replace hy := Lib.hid hy
              clear hcj
              by_cases hxy : x = y
              · have hxb : (x == y) = true := by rw [beq_iff_eq]; exact hxy
                have hdup : ¬ er.Nodup := not_nodup_take hkm (by
                  rw [← hx.out]
                  have h1 : x ∈ er.take (j + 1) := hin.2 (.inr hxy)
                  have h2 : er.take (j + 1) = (er.take k).take (j + 1) := by rw [List.take_take, Nat.min_eq_left (by omega)]
                  rw [h2] at h1
                  exact List.mem_of_mem_take h1)
                have hE : Hid (recErr D word n er = 18) := recErr_dup hwn.out.1 hwn.out.2 hrg.out hdup
                clear hxy hdup hin hnx
                go_wp2_with (fail)
                go_quiet (fail)
                go_wp2_with (fail)
                go_ret
                exact ⟨by rw [hE.out]; rfl, hB1.trans (Below.mono ⟨hbw.os, hbw.tape, hbw.output, hbw.size, hbw.block⟩ hB1.size)⟩
              · have hxb : (x == y) = false := by rw [beq_eq_false_iff_ne]; exact hxy
                have hn2 : Hid (¬ x ∈ er.take (j + 1)) := fun h => (hin.1 h).elim hnx hxy
                clear hxy hin hnx
                go_wp2_with (fail)
                go_quiet (fail)
                go_wp2_with (fail)
                go_roundw
                case rel => exact ⟨j + 1, by omega, by go_num, hn2.out, ⟨hbw.os, hbw.tape, hbw.output, hbw.size, hbw.block⟩⟩
                case measure => simp [intOf]; omega
            · obtain rfl : j = k := by omega
              have hnd2 : Hid ((er.take (j + 1)).Nodup) := take_succ_nodup hkm hnd.out (by rw [← hx.out]; exact hnx)
              clear hnx
              go_wp2_with (fail)
              go_roundw
              case rel => exact ⟨j + 1, by omega, by go_num, hnd2.out, hbw⟩
              case measure => simp [intOf]; omega
        · obtain rfl : k = er.length := by omega
          rw [List.take_length] at hnd
          have hE : Hid (recErr D word n er = 0) := recErr_ok hwn.out.1 hwn.out.2 hrg.out hnd
          clear hnd
          go_wp2_with (fail)
          go_ret
          exact ⟨by rw [hE.out]; rfl, hB1.trans (hbw.mono hB1.size)⟩

theorem mem_take_succ {er : List Int} {j : Nat} (hj : j < er.length) (z : Int) : z ∈ er.take (j + 1) ↔ z ∈ er.take j ∨ er[j]?.getD 0 = z := by
  rw [take_succ_mem hj]
  exact or_congr Iff.rfl ⟨Eq.symm, Eq.symm⟩

set_option maxRecDepth 100000 in
set_option maxHeartbeats 4000000 in
theorem Differ39_any (n : Nat) (c wl er : List Int) (hn : n ≤ 64) (hc : c.length = n) (hw : wl.length = n) (hel : er.length ≤ 1000000) (Ac Aw Ae : Option Addr) (cc cw ce : Nat) (w : World) (hrc : Rd w w.heap.size Ac c) (hrw : Rd w w.heap.size Aw wl) (hre : Rd w w.heap.size Ae er) :
    Calls Try.prog 38 #[.slice Ac n cc, .slice Aw n cw, .slice Ae er.length ce] w fun e w' => ∃ A c', e = .returned (.slice A (errL c wl er n).length c') ∧ Rd w' w'.heap.size A (errL c wl er n) ∧ Below w.heap.size w w' := by
  replace hc := Lib.hid hc
  replace hw := Lib.hid hw
  have ho0 := Own.nil w w.heap.size
  go_enter Try.func38, Try.ntmps38
  go_wp2_with (fail)
  go_loopw [8, 7] (fun i o wr => ∃ (k : Nat) (A3 : Option Addr) (c3 : Nat), k ≤ n ∧ i = .int .i64 k ∧ o = .slice A3 (errL c wl er k).length c3 ∧ Hid (Own wr w.heap.size (.slice A3 (errL c wl er k).length c3) (errL c wl er k)) ∧ Below w.heap.size w wr) (fun i _ _ => n - (intOf i).toNat)
  case atStart => exact ⟨0, none, 0, by omega, rfl, rfl, ho0, Below.refl _ _⟩
  case round =>
    clear ho0
    obtain ⟨w3, rfl⟩ : ∃ w3 : World, w3 = wr := ⟨_, rfl⟩
    obtain ⟨k, A3, c3, hk, rfl, rfl, ho, hbw⟩ := hrel
    by_cases hlt : k < n
    · have hk0 : (0 : Int) ≤ (k : Int) := by omega
      have hk1 : (k : Int) < (n : Int) := by omega
      go_wp2_with (fail)
      go_loop [10, 9] (fun vj vi => ∃ j : Nat, j ≤ er.length ∧ vj = .int .i64 j ∧ vi = .bool (decide ((k : Int) ∈ er.take j))) (fun vj _ => er.length - (intOf vj).toNat)
      case atStart => exact ⟨0, by omega, rfl, by simp⟩
      case round =>
        obtain ⟨j, hj, rfl, rfl⟩ := hrel
        by_cases hjl : j < er.length
        · have hj0 : (0 : Int) ≤ (j : Int) := by omega
          have hj1 : (j : Int) < (er.length : Int) := by omega
          obtain ⟨be, oe, rfl, hbe, hce⟩ := hre.at_ hjl
          have hx := (hbw.cell (p := ⟨be, oe + j, none⟩) hbe).trans hce
          have hms := mem_take_succ hjl (k : Int)
          obtain ⟨x, hxe⟩ : ∃ x, x = er[j]?.getD 0 := ⟨_, rfl⟩
          rw [← hxe] at hx hms
          replace hxe := Lib.hid hxe
          clear hce
          by_cases hin : (k : Int) ∈ er.take j
          · rw [decide_eq_true hin]
            have hd : Hid (decide ((k : Int) ∈ er.take (j + 1)) = true) := decide_eq_true (hms.2 (.inl hin))
            clear hin hms
            go_wp2_with (fail)
            go_round
            case rel => exact ⟨j + 1, by omega, by go_num, by rw [hd.out]⟩
            case measure => simp [intOf]; omega
          · rw [decide_eq_false hin]
            by_cases hxk : x = (k : Int)
            · have hxb : (x == (k : Int)) = true := by rw [beq_iff_eq]; exact hxk
              have hd : Hid (decide ((k : Int) ∈ er.take (j + 1)) = true) := decide_eq_true (hms.2 (.inr hxk))
              clear hin hms hxk
              go_wp2_with (fail)
              go_round
              case rel => exact ⟨j + 1, by omega, by go_num, by rw [hd.out]⟩
              case measure => simp [intOf]; omega
            · have hxb : (x == (k : Int)) = false := by rw [beq_eq_false_iff_ne]; exact hxk
              have hd : Hid (decide ((k : Int) ∈ er.take (j + 1)) = false) := decide_eq_false fun h => (hms.1 h).elim hin hxk
              clear hin hms hxk
              go_wp2_with (fail)
              go_round
              case rel => exact ⟨j + 1, by omega, by go_num, by rw [hd.out]⟩
              case measure => simp [intOf]; omega
        · obtain rfl : j = er.length := by omega
          rw [List.take_length]
          obtain ⟨b1, o1, rfl, hb1, hc1⟩ := hrc.at_ (by rw [hc.out]; exact hlt : k < c.length)
          obtain ⟨b2, o2, rfl, hb2, hc2⟩ := hrw.at_ (by rw [hw.out]; exact hlt : k < wl.length)
          have hd1 := (hbw.cell (p := ⟨b1, o1 + k, none⟩) hb1).trans hc1
          have hd2 := (hbw.cell (p := ⟨b2, o2 + k, none⟩) hb2).trans hc2
          obtain ⟨y1, hy1⟩ : ∃ y1, y1 = c[k]?.getD 0 := ⟨_, rfl⟩
          obtain ⟨y2, hy2⟩ : ∃ y2, y2 = wl[k]?.getD 0 := ⟨_, rfl⟩
          rw [← hy1] at hd1
          rw [← hy2] at hd2
          replace hy1 := Lib.hid hy1
          replace hy2 := Lib.hid hy2
          clear hc1 hc2
          by_cases hin : (k : Int) ∈ er
          · rw [decide_eq_true hin]
            have hst : Hid (errL c wl er k = errL c wl er (k + 1)) := (errL_in hin).symm
            clear hin
            rw [hst.out] at ho ⊢
            go_wp2_with (fail)
            go_quiet (fail)
            go_wp2_with (fail)
            go_roundw
            case rel => exact ⟨k + 1, A3, c3, by omega, by go_num, rfl, ho, ⟨hbw.os, hbw.tape, hbw.output, hbw.size, hbw.block⟩⟩
            case measure => simp [intOf]; omega
          rw [decide_eq_false hin]
          by_cases hq : y1 = y2
          · have hqb : (y1 != y2) = false := by rw [bne_eq_false_iff_eq]; exact hq
            have hst : Hid (errL c wl er k = errL c wl er (k + 1)) := (errL_eq (by rw [← hy1.out, ← hy2.out]; exact hq)).symm
            clear hin hq
            rw [hst.out] at ho ⊢
            go_wp2_with (fail)
            go_quiet (fail)
            go_wp2_with (fail)
            go_roundw
            case rel => exact ⟨k + 1, A3, c3, by omega, by go_num, rfl, ho, ⟨hbw.os, hbw.tape, hbw.output, hbw.size, hbw.block⟩⟩
            case measure => simp [intOf]; omega
          · have hqb : (y1 != y2) = true := by rw [bne_iff_ne]; exact hq
            have hst : Hid (errL c wl er (k + 1) = errL c wl er k ++ [(k : Int)]) := errL_ne hin (by rw [← hy1.out, ← hy2.out]; exact hq)
            clear hin hq
            go_wp2_with (fail)
            go_quiet (fail)
            clear hd1 hd2
            obtain ⟨W1, hW1⟩ : ∃ W1, W1 = w3.drewN nq := ⟨_, rfl⟩
            have hoq : Own W1 w.heap.size (.slice A3 (errL c wl er k).length c3) (errL c wl er k) := by rw [hW1]; exact ho.out
            have hbq : Below w.heap.size w W1 := by rw [hW1]; exact ⟨hbw.os, hbw.tape, hbw.output, hbw.size, hbw.block⟩
            rw [← hW1]
            clear hW1 ho hbw
            have hle : (errL c wl er k).length ≤ 1000000 := by have := errL_le c wl er k; omega
            have hsz : w.heap.size ≤ W1.heap.size := hbq.size
            go_wp2_with (at_builtin; refine wpList_app1 rfl (.tmp 45) (.tmp 47) rfl w.heap.size _ _ _ hoq rfl rfl rfl hle hsz ?_; intro v' w' ho' hb' hg' hv')
            obtain ⟨A'', c'', e'', -, -, -⟩ := ho'.form
            rw [← hst.out] at ho' e''
            subst e''
            go_roundw
            case rel => exact ⟨k + 1, A'', c'', by omega, by go_num, rfl, ho', hbq.trans hb'⟩
            case measure => simp [intOf]; omega
    · obtain rfl : n = k := by omega
      obtain ⟨A'', c'', e'', -, hr', -⟩ := ho.out.form
      cases e''
      go_wp2_with (fail)
      go_ret
      exact ⟨A3, c3, rfl, hr', hbw⟩

end Go.Proofs.Ytpflgmbcmfllgaa
