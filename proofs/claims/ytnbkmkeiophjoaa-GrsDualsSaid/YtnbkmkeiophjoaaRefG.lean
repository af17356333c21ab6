/- The reference's test of irreducibility, and its Check. -/
import Derived.Test.YtnbkmkeiophjoaaRefF
namespace Go.Proofs.Ytnbkmkeiophjoaa
open Go.RowKit Cw

def dg (p v : Nat) : Nat → Nat := fun i => v / p ^ i % p
open Classical in
noncomputable def irrB (p m : Nat) (mod : Nat → Nat) : Bool := decide (∀ d, 1 ≤ d → 2 * d ≤ m → ∀ v, v < p ^ d → dvB p d m (dg p v) mod = false)
open Classical in
theorem irrB_true {p m : Nat} {mod : Nat → Nat} (h : ∀ d, 1 ≤ d → 2 * d ≤ m → ∀ v, v < p ^ d → dvB p d m (dg p v) mod = false) : irrB p m mod = true := decide_eq_true h
open Classical in
theorem irrB_false {p m : Nat} {mod : Nat → Nat} {d v : Nat} (h1 : 1 ≤ d) (h2 : 2 * d ≤ m) (h3 : v < p ^ d) (h4 : dvB p d m (dg p v) mod = true) : irrB p m mod = false :=
  decide_eq_false fun h => by rw [h d h1 h2 v h3] at h4; cases h4

set_option maxHeartbeats 2000000 in
theorem irreducible_any (p m : Nat) (mod : Nat → Nat) (A : Option Addr) (c : Nat) (w : World) (hp : 2 ≤ p) (hp2 : p ≤ 256) (hm1 : 1 ≤ m) (hm : m ≤ 8) (hq : p ^ m ≤ 256) (hmo : ∀ i, mod i < p) (hr : Rd w w.heap.size A (nl m mod)) :
    Calls Try.prog 60 #[.slice A m c, .int .i64 p] w fun e w' => e = .returned (.bool (irrB p m mod)) ∧ Below w.heap.size w w' := by
  have hqd : ∀ d, d ≤ m → p ^ d ≤ 256 := fun d hd => Nat.le_trans (Nat.pow_le_pow_right (by omega) hd) hq
  have hD := fun v d w (h1 : d ≤ 8) (h2 : v ≤ 65536) => Lib.hid (digits_any v p d w (by omega) hp2 h1 h2)
  have hV := fun d v W A2 c2 (hr1 : Rd W W.heap.size A2 (nl d (dg p v))) (hr' : Rd W W.heap.size A (nl m mod)) (h1 : 1 ≤ d) (h2 : d ≤ m) => Lib.hid (divides_any p d m (dg p v) mod A2 A c2 c W hp hp2 h1 h2 hm (fun i => Nat.mod_lt _ (by omega)) hmo hr1 hr')
  replace hqd := Lib.hid hqd
  go_enter Try.func60, Try.ntmps60
  go_wp2_with (fail)
  go_loopw [5, 6, 7] (fun n d _ wr => ∃ k z : Nat, 1 ≤ k ∧ k ≤ m ∧ z ≤ 256 ∧ d = .int .i64 k ∧ n = .int .i64 z ∧ Hid (z = p ^ (k - 1)) ∧ Below w.heap.size w wr ∧ Hid (∀ d, 1 ≤ d → d < k → ∀ v, v < p ^ d → dvB p d m (dg p v) mod = false)) (fun _ d _ _ => m - (intOf d).toNat)
  case atStart => exact ⟨1, 1, by omega, by omega, by omega, rfl, rfl, by simp [Hid], Below.refl _ _, fun d h1 h2 => by omega⟩
  case round =>
    obtain ⟨k, z, hk1, hk2, hz, rfl, rfl, hzk, hbw, hall⟩ := hrel
    by_cases hlt : 2 * k ≤ m
    · have hz2 : z * p = p ^ k := by rw [hzk.out, ← Nat.pow_succ]; congr 1; omega
      have hz3 : z * p ≤ 256 := by rw [hz2]; exact hqd.out k hk2
      have hz4 : ((z * p : Nat) : Int) = (z : Int) * (p : Int) := by simp
      obtain ⟨y, hy⟩ : ∃ y, y = z * p := ⟨_, rfl⟩
      rw [← hy] at hz2 hz3 hz4
      have hm1a : (0 : Int) ≤ (z : Int) * (p : Int) := by omega
      have hm1b : (z : Int) * (p : Int) ≤ 256 := by omega
      have hbt : decide (2 * (k : Int) ≤ (m : Int)) = true := decide_eq_true (by omega)
      replace hz4 := Lib.hid hz4
      replace hy := Lib.hid hy
      replace hz2 := Lib.hid hz2
      go_wp2_with (fail)
      clear hbt
      rw [← hz4.out]
      obtain ⟨wo, rfl⟩ : ∃ wo : World, wo = wr := ⟨_, rfl⟩
      go_loopw [7] (fun v wr => ∃ n : Nat, n ≤ y ∧ v = .int .i64 n ∧ Below w.heap.size w wr ∧ Hid (∀ v, v < n → dvB p k m (dg p v) mod = false)) (fun v _ => y - (intOf v).toNat)
      case atStart => exact ⟨0, by omega, rfl, hbw, fun v hv => by omega⟩
      case round =>
        clear hbw
        obtain ⟨n, hn, rfl, hbw, hall2⟩ := hrel
        by_cases hlt2 : n < y
        · have hsz := hbw.size
          have hD2 := hD n k wr (by omega) (by omega)
          go_wp2_with (fail)
          refine hD2.out.mono ?_
          rintro e w1 ⟨g, rfl, hg, hib, hb1⟩
          rw [lst_length]
          have hV2 := hV k n w1 (some ⟨g, 0, none⟩) k hib.rd ((hr.below (hbw.trans (hb1.mono hsz))).more (Nat.le_trans hsz hb1.size)) hk1 hk2
          by_cases hdv : dvB p k m (dg p n) mod = true
          · have hfin : Hid (irrB p m mod = false) := irrB_false hk1 hlt (by rw [← hz2.out]; exact hlt2) hdv
            rw [hdv] at hV2
            clear hdv
            go_wp2_with (fail)
            refine hV2.out.mono ?_
            rintro e w2 ⟨rfl, hb2⟩
            go_wp2_with (fail)
            go_ret
            exact ⟨ret_bool hfin.out.symm, (hbw.trans (hb1.mono hsz)).trans (hb2.mono (Nat.le_trans hsz hb1.size))⟩
          · have hdv' : dvB p k m (dg p n) mod = false := by simpa using hdv
            have hall3 : Hid (∀ v, v < n + 1 → dvB p k m (dg p v) mod = false) := fun v hv => by
              by_cases e : v = n
              · subst e; exact hdv'
              · exact hall2.out v (by omega)
            rw [hdv'] at hV2
            clear hdv hdv'
            go_wp2_with (fail)
            refine hV2.out.mono ?_
            rintro e w2 ⟨rfl, hb2⟩
            go_wp2_with (fail)
            go_roundw
            case rel => exact ⟨n + 1, by omega, by go_num, (hbw.trans (hb1.mono hsz)).trans (hb2.mono (Nat.le_trans hsz hb1.size)), hall3⟩
            case measure => simp [intOf]; omega
        · obtain rfl : n = y := by omega
          go_wp2_with (fail)
          go_roundw
          case rel => exact ⟨k + 1, n, by omega, by omega, hz3, by go_num, rfl, by unfold Hid; rw [hz2.out]; rfl, hbw, fun d h1 h2 v hv => by
            by_cases e : d = k
            · subst e; exact hall2.out v (by rw [hz2.out]; exact hv)
            · exact hall.out d h1 (by omega) v hv⟩
          case measure => simp [intOf]; omega
    · have hfin : Hid (irrB p m mod = true) := irrB_true fun d h1 h2 v hv => hall.out d h1 (by omega) v hv
      have hbt : decide (2 * (k : Int) ≤ (m : Int)) = false := decide_eq_false (by omega)
      go_wp2_with (fail)
      go_ret
      exact ⟨ret_bool hfin.out.symm, hbw⟩

/-- What Check accepts. -/
def Good (P M : Int) (ml : List Int) : Prop := ∃ D : Desc, P = D.p ∧ M = D.m ∧ ml = modL D ∧ (D.m = 1 ∨ irrB D.p D.m (fun i => D.mod.getD i 0) = true)
open Classical in
noncomputable def chk (P M : Int) (ml : List Int) : Int := if Good P M ml then 0 else 1
theorem chk_yes {P M : Int} {ml : List Int} (h : Good P M ml) : chk P M ml = 0 := if_pos h
theorem chk_no {P M : Int} {ml : List Int} (h : ¬ Good P M ml) : chk P M ml = 1 := if_neg h
theorem chk_zero {P M : Int} {ml : List Int} (h : chk P M ml = 0) : Good P M ml := by
  apply Classical.byContradiction; intro hn; rw [chk_no hn] at h; cases h
theorem Good.valid {P M : Int} {ml : List Int} (h : Good P M ml) : Valid P M ml := by
  obtain ⟨D, h1, h2, h3, _⟩ := h; exact ⟨D, h1, h2, h3⟩
theorem nl_modL (D : Desc) : nl D.mod.length (fun i => D.mod.getD i 0) = modL D := by
  apply List.ext_getElem
  · simp [nl, lst, modL]
  · intro i h1 h2
    have hi : i < D.mod.length := by simpa [modL] using h2
    simp [nl, lst, modL, hi]
theorem modL_inj {D D' : Desc} (h : modL D = modL D') : D.mod = D'.mod := by
  have h1 : D.mod.length = D'.mod.length := by rw [← modL_length, ← modL_length, h]
  apply List.ext_getElem h1
  intro i h2 h3
  have e1 := modL_get D h2
  have e2 := modL_get D' h3
  rw [h, e2] at e1
  have e3 : D'.mod.getD i 0 = D.mod.getD i 0 := Int.ofNat.inj e1
  simp [h2, h3] at e3
  exact e3.symm

set_option maxHeartbeats 2000000 in
theorem Check_any (P M : Int) (ml : List Int) (A : Option Addr) (c : Nat) (w : World) (hP : P ≤ 9223372036854775807) (hM : M ≤ 9223372036854775807) (_hl : ml.length ≤ maxLen)
    (hr : Rd w w.heap.size A ml) :
    Calls Try.prog 20 #[.agg #[.int .i64 P, .int .i64 M, .slice A ml.length c]] w fun e w' => e = .returned (.int .i64 (chk P M ml)) ∧ Below w.heap.size w w' := by
  unfold maxLen at _hl
  have hO := fun w => Lib.hid (Order_any P M A ml.length c w hP hM)
  have k0 := Lib.hid (alloc3 w (.int .i64 P) (.int .i64 M) (.slice A ml.length c) 24)
  by_cases hq : qOf P M = 0
  · have hv := Lib.hid (chk_no (P := P) (M := M) (ml := ml) fun h => h.valid.q hq)
    have hq := Lib.hid hq
    go_enter Try.func20, Try.ntmps20
    go_wp2_with (go_at_call 19; refine (hO _).out.mono ?_; rw [hq.out]; rintro e w1 ⟨rfl, hb1⟩)
    go_ret
    exact ⟨ret_int hv.out.symm, ((Below.refl _ _).alloc (Nat.le_refl _) _).trans (hb1.mono (by simp))⟩
  · have hq0 : ((((qOf P M : Nat) : Int)) == 0) = false := by rw [beq_eq_false_iff_ne]; omega
    obtain ⟨p, m, rfl, rfl, hp2, hp256, hm1, hm8, hq3, hqe⟩ := qOf_pos hq
    clear hqe hq
    generalize qOf p m = q at *
    have hI := fun w => Lib.hid (prime_any p w hp2 hp256)
    by_cases hpr : noDiv p (p - 2) = true
    · have hpp := (noDiv_prime hp2).1 hpr
      replace hpr := Lib.hid hpr
      by_cases hm : m = 1
      · subst hm
        by_cases hl0 : ml.length = 0
        · have hval : Valid p (1 : Nat) ml := Valid.mk' (ml := ml) hpp hm1 hm8 hq3 (by simpa using hl0) (fun j hj => by omega)
          have hv := Lib.hid (chk_yes (P := p) (M := (1 : Nat)) (ml := ml) (by obtain ⟨D, h1, h2, h3⟩ := hval; exact ⟨D, h1, h2, h3, .inl (by omega)⟩))
          have hl0' : ((ml.length : Int) != 0) = false := by simp [hl0]
          clear hl0
          go_enter Try.func20, Try.ntmps20
          go_wp2_with (first | (go_at_call 19; refine (hO _).out.mono ?_; rintro e w1 ⟨rfl, hb1⟩; obtain ⟨kc0, kc1, kc2⟩ := keep3 (b := w.heap.size) hb1 (by simp) k0.out) | (go_at_call 59; refine (hI _).out.mono ?_; rw [hpr.out]; rintro e w2 ⟨rfl, rfl⟩))
          go_ret
          exact ⟨ret_int hv.out.symm, ((Below.refl _ _).alloc (Nat.le_refl _) _).trans (hb1.mono (by simp))⟩
        · have hv := Lib.hid (chk_no (P := p) (M := (1 : Nat)) (ml := ml) fun ⟨D, _, h2, h3, _⟩ => hl0 (by rw [h3, modL_length, D.hlen, if_pos (by omega)]))
          have hl0' : ((ml.length : Int) != 0) = true := by rw [bne_iff_ne]; omega
          clear hl0
          go_enter Try.func20, Try.ntmps20
          go_wp2_with (first | (go_at_call 19; refine (hO _).out.mono ?_; rintro e w1 ⟨rfl, hb1⟩; obtain ⟨kc0, kc1, kc2⟩ := keep3 (b := w.heap.size) hb1 (by simp) k0.out) | (go_at_call 59; refine (hI _).out.mono ?_; rw [hpr.out]; rintro e w2 ⟨rfl, rfl⟩))
          go_ret
          exact ⟨ret_int hv.out.symm, ((Below.refl _ _).alloc (Nat.le_refl _) _).trans (hb1.mono (by simp))⟩
      · have hm' : ((m : Int) == 1) = false := by rw [beq_eq_false_iff_ne]; omega
        by_cases hlm : ml.length = m
        · have hlm' : ((ml.length : Int) != (m : Int)) = false := by simp [hlm]
          have hlm2 : m ≤ ml.length := by omega
          have hlm3 : ml.length ≤ m := by omega
          have hlmH := Lib.hid hlm
          clear hlm
          go_enter Try.func20, Try.ntmps20
          go_wp2_with (first | (go_at_call 19; refine (hO _).out.mono ?_; rintro e w1 ⟨rfl, hb1⟩; obtain ⟨kc0, kc1, kc2⟩ := keep3 (b := w.heap.size) hb1 (by simp) k0.out) | (go_at_call 59; refine (hI _).out.mono ?_; rw [hpr.out]; rintro e w2 ⟨rfl, rfl⟩))
          have hs1 := hb1.size
          simp only [World.size_alloc] at hs1
          have hbw1 : Below w.heap.size w w1 := ((Below.refl _ _).alloc (Nat.le_refl _) _).trans (hb1.mono (by simp))
          have hr1 := hr.below hbw1
          have kH := Lib.hid (keep3 (b := w.heap.size) hb1 (by simp) k0.out)
          clear hb1
          go_loopw [3] (fun i wr => ∃ k : Nat, k ≤ m ∧ i = .int .i64 k ∧ Hid (∀ j, j < k → 0 ≤ ml[j]?.getD 0 ∧ ml[j]?.getD 0 < p) ∧ Below w1.heap.size w1 wr) (fun i _ => m - (intOf i).toNat)
          case atStart => exact ⟨0, by omega, rfl, fun j hj => by omega, Below.refl _ _⟩
          case round =>
            obtain ⟨k, hk, rfl, hall, hbr⟩ := hrel
            clear kc0 kc1 kc2
            obtain ⟨kc0, kc1, kc2⟩ := keep3 (b := w.heap.size) hbr (by omega) kH.out
            by_cases hlt : k < m
            · obtain ⟨b, off, rfl, hb, hc⟩ := hr1.at_ (k := k) (by omega)
              obtain ⟨x, hx⟩ : ∃ x, x = ml[k]?.getD 0 := ⟨_, rfl⟩
              rw [← hx] at hc
              have hc2 := (hbr.cell (p := ⟨b, off + k, none⟩) (by show b < w1.heap.size; omega)).trans hc
              have hkl : k < ml.length := by omega
              have hkl' : (k : Int) < (ml.length : Int) := by omega
              clear hc
              by_cases hx1 : x < 0
              · have hv := Lib.hid (chk_no (P := p) (M := m) (ml := ml) fun ⟨D, _, _, h3, _⟩ => by have := (modL_bd D k).1; rw [← h3, ← hx] at this; omega)
                have hxb : decide (x < 0) = true := decide_eq_true hx1
                clear hx hr hr1
                go_wp2_with (fail)
                go_quiet (fail)
                go_wp2_with (fail)
                go_ret
                exact ⟨ret_int hv.out.symm, hbw1.trans ((below_drewN' hbr _).mono (by omega))⟩
              · have hxb : decide (x < 0) = false := decide_eq_false hx1
                by_cases hx2 : x < p
                · have hall2 : Hid (∀ j, j < k + 1 → 0 ≤ ml[j]?.getD 0 ∧ ml[j]?.getD 0 < p) := fun j hj => by
                    by_cases e : j = k
                    · subst e; rw [← hx]; omega
                    · exact hall.out j (by omega)
                  have hxc : decide ((p : Int) ≤ x) = false := decide_eq_false (by omega)
                  clear hx hr hr1 hall
                  go_wp2_with (fail)
                  go_quiet (fail)
                  go_wp2_with (fail)
                  go_roundw
                  case rel => exact ⟨k + 1, by omega, by go_num, hall2, below_drewN' hbr _⟩
                  case measure => simp [intOf]; omega
                · have hv := Lib.hid (chk_no (P := p) (M := m) (ml := ml) fun ⟨D, h1, _, h3, _⟩ => by have := (modL_bd D k).2; rw [← h3, ← hx] at this; omega)
                  have hxc : decide ((p : Int) ≤ x) = true := decide_eq_true (by omega)
                  clear hx hr hr1
                  go_wp2_with (fail)
                  go_quiet (fail)
                  go_wp2_with (fail)
                  go_ret
                  exact ⟨ret_int hv.out.symm, hbw1.trans ((below_drewN' hbr _).mono (by omega))⟩
            · have hkm : k = m := by omega
              have hval : Valid p m ml := Valid.mk' (ml := ml) hpp hm1 hm8 hq3 (by rw [if_neg hm]; exact hlmH.out) (fun j hj => hall.out j (by omega))
              obtain ⟨D, hd1, hd2, hd3⟩ := hval
              have hdl : (modL D).length = D.m := by rw [← hd3, hlmH.out]; omega
              have hrD : Rd wr wr.heap.size A (nl m fun i => D.mod.getD i 0) := by
                have h4 := nl_modL D
                rw [show D.mod.length = m by rw [← modL_length, hdl]; omega, ← hd3] at h4
                rw [h4]; exact (hr1.below (hbr.mono (by omega))).more (by have := hbr.size; omega)
              have hIr := Lib.hid (irreducible_any p m (fun i => D.mod.getD i 0) A c wr hp2 hp256 hm1 hm8 hq3 (fun i => by have := D.hmod i; omega) hrD)
              have hlen := hlmH.out
              have hgood : Hid (irrB p m (fun i => D.mod.getD i 0) = true → chk p m ml = 0) := fun h => chk_yes ⟨D, hd1, hd2, hd3, .inr (by rw [show D.p = p by omega, show D.m = m by omega]; exact h)⟩
              have hbad : Hid (irrB p m (fun i => D.mod.getD i 0) = false → chk p m ml = 1) := fun h => chk_no fun ⟨D', h1, h2, h3, h4⟩ => by
                have h5 : D'.mod = D.mod := modL_inj (h3.symm.trans hd3)
                rcases h4 with h4 | h4
                · omega
                · rw [show D'.p = p by omega, show D'.m = m by omega, h5, h] at h4; cases h4
              clear hd1 hd2 hd3 hdl hrD hkm hr hr1 hall
              rw [hlen]
              rw [hlen] at kc2
              clear hlen
              cases hirr : irrB p m (fun i => D.mod.getD i 0) with
              | true =>
                have hv := Lib.hid (hgood.out hirr)
                rw [hirr] at hIr
                clear hirr
                go_wp2_with (fail)
                refine hIr.out.mono ?_
                rintro e w3 ⟨rfl, hb3⟩
                go_wp2_with (fail)
                go_ret
                exact ⟨ret_int hv.out.symm, hbw1.trans ((hbr.mono (by omega)).trans (hb3.mono (by have := hbr.size; omega)))⟩
              | false =>
                have hv := Lib.hid (hbad.out hirr)
                rw [hirr] at hIr
                clear hirr
                go_wp2_with (fail)
                refine hIr.out.mono ?_
                rintro e w3 ⟨rfl, hb3⟩
                go_wp2_with (fail)
                go_ret
                exact ⟨ret_int hv.out.symm, hbw1.trans ((hbr.mono (by omega)).trans (hb3.mono (by have := hbr.size; omega)))⟩
        · have hlm' : ((ml.length : Int) != (m : Int)) = true := by rw [bne_iff_ne]; omega
          have hv := Lib.hid (chk_no (P := p) (M := m) (ml := ml) fun ⟨D, _, h2, h3, _⟩ => hlm (by rw [h3, modL_length, D.hlen, if_neg (by omega)]; omega))
          clear hlm
          go_enter Try.func20, Try.ntmps20
          go_wp2_with (first | (go_at_call 19; refine (hO _).out.mono ?_; rintro e w1 ⟨rfl, hb1⟩; obtain ⟨kc0, kc1, kc2⟩ := keep3 (b := w.heap.size) hb1 (by simp) k0.out) | (go_at_call 59; refine (hI _).out.mono ?_; rw [hpr.out]; rintro e w2 ⟨rfl, rfl⟩))
          go_ret
          exact ⟨ret_int hv.out.symm, ((Below.refl _ _).alloc (Nat.le_refl _) _).trans (hb1.mono (by simp))⟩
    · have hv := Lib.hid (chk_no (P := p) (M := m) (ml := ml) fun ⟨D, h1, _, _, _⟩ => hpr ((noDiv_prime hp2).2 (by rw [show p = D.p by omega]; exact D.hp)))
      have hpr : Hid (noDiv p (p - 2) = false) := by unfold Hid; simpa using hpr
      go_enter Try.func20, Try.ntmps20
      go_wp2_with (first | (go_at_call 19; refine (hO _).out.mono ?_; rintro e w1 ⟨rfl, hb1⟩; obtain ⟨kc0, kc1, kc2⟩ := keep3 (b := w.heap.size) hb1 (by simp) k0.out) | (go_at_call 59; refine (hI _).out.mono ?_; rw [hpr.out]; rintro e w2 ⟨rfl, rfl⟩))
      go_ret
      exact ⟨ret_int hv.out.symm, ((Below.refl _ _).alloc (Nat.le_refl _) _).trans (hb1.mono (by simp))⟩
end Go.Proofs.Ytnbkmkeiophjoaa
