/- The reference's division of polynomials, its test of irreducibility, and its Check. The reference's test of irreducibility, and its Check. The program's New and the reference's Check agree: a field just if the modulus has no divisor. -/
import Derived.Test.YtemanlkgfhmclaaRF
import Derived.Test.YtemanlkgfhmclaaP2
import Derived.Test.YtemanlkgfhmclaaP1
import Derived.Test.YtemanlkgfhmclaaP4
import Derived.StillTailTactics
/-! The reference's division of polynomials, its test of irreducibility, and its Check -/
namespace Go.Proofs.Ytemanlkgfhmclaa
open Go.RowKit Cw

section
variable {w w' : World} {B g n cap : Nat} {l : List Int}
theorem Own.cell (h : Own w B (.slice (some ⟨g, 0, none⟩) n cap) l) (hn : n = l.length) {i : Nat} (hi : i < l.length) : w.cell? ⟨g, i, none⟩ = some (.int .i64 (l[i]?.getD 0)) := by
  subst hn
  rw [World.ownsRow.cellAt h i (by omega)]; simp [hi]
theorem Own.frozen (h : Own w B (.slice (some ⟨g, 0, none⟩) n cap) l) (hn : n = l.length) (i : Nat) : w.frozen? ⟨g, i, none⟩ = false := by
  subst hn; exact World.ownsRow.frozenAt h i
theorem Own.set_ (h : Own w B (.slice (some ⟨g, 0, none⟩) n cap) l) (hn : n = l.length) (i : Nat) (u : Int) :
    Own (w.setCell ⟨g, i, none⟩ (.int .i64 u)) B (.slice (some ⟨g, 0, none⟩) n cap) (l.set i u) := by
  subst hn
  have h1 := (World.ownsRow.stored h i (.int .i64 u)).1
  unfold Own
  rw [List.length_set, List.map_set]; exact h1
end

/-- The list of n numbers r. -/
def nl (n : Nat) (r : Nat → Nat) : List Int := lst n fun i => (r i : Nat)
theorem nl_length (n : Nat) (r : Nat → Nat) : (nl n r).length = n := lst_length _ _
theorem nl_get {n i : Nat} (r : Nat → Nat) (h : i < n) : (nl n r)[i]?.getD 0 = (r i : Nat) := lst_get _ h
theorem nl_set (n : Nat) (r : Nat → Nat) (k v : Nat) : (nl n r).set k (v : Int) = nl n (fup r k v) := by
  unfold nl
  rw [lst_set]
  refine lst_congr fun i _ => ?_
  unfold fup
  by_cases e : i = k
  · rw [if_pos e, if_pos e]
  · rw [if_neg e, if_neg e]
structure DvSt (p d m : Nat) (low : Nat → Nat) (g cp : Nat) (w : World) (r : Nat → Nat) (wr : World) : Prop where
  lt : ∀ i, r i < p
  own : Own wr w.heap.size (.slice (some ⟨g, 0, none⟩) (m + 1) cp) (nl (m + 1) r)
  bw : Below w.heap.size w wr
theorem DvSt.set_ {p d m : Nat} {low : Nat → Nat} {g cp : Nat} {w wr : World} {r : Nat → Nat} (h : DvSt p d m low g cp w r wr) (hg : w.heap.size ≤ g) (k v : Nat) (hv : v < p) {z : Int} (hz : z = (v : Int)) :
    DvSt p d m low g cp w (fup r k v) (wr.setCell ⟨g, k, none⟩ (.int .i64 z)) where
  lt := fup_lt h.lt hv k
  own := by subst hz; have h1 := h.own.set_ (nl_length _ _).symm k (v : Int); rw [nl_set] at h1; exact h1
  bw := h.bw.setCell (p := ⟨g, k, none⟩) hg _
theorem DvSt.drew {p d m : Nat} {low : Nat → Nat} {g cp : Nat} {w wr : World} {r : Nat → Nat} (h : DvSt p d m low g cp w r wr) : DvSt p d m low g cp w r wr.drew := ⟨h.lt, h.own, h.bw.drew⟩
theorem nl_mon (m : Nat) (mod : Nat → Nat) : nl m mod ++ [1] = nl (m + 1) (mon m mod) := by
  unfold nl
  rw [lst_succ]
  congr 1
  · exact lst_congr fun i hi => by unfold mon; rw [if_pos hi]
  · unfold mon; rw [if_neg (Nat.lt_irrefl m)]; rfl

set_option maxRecDepth 100000 in
set_option maxHeartbeats 4000000 in
theorem divides_any (p d m : Nat) (low mod : Nat → Nat) (A A' : Option Addr) (c c' : Nat) (w : World) (hp : 2 ≤ p) (hp2 : p ≤ 256) (hd1 : 1 ≤ d) (hdm : d ≤ m) (hm : m ≤ 8) (hl : ∀ i, low i < p) (hmo : ∀ i, mod i < p)
    (hr : Rd w w.heap.size A (nl d low)) (hr' : Rd w w.heap.size A' (nl m mod)) :
    Calls Try.prog 66 #[.slice A d c, .slice A' m c', .int .i64 p] w fun e w' => e = .returned (.bool (dvB p d m low mod)) ∧ Below w.heap.size w w' := by
  have o1 : Own (w.alloc (.cells #[] 3)) w.heap.size (.slice (some ⟨w.heap.size, 0, none⟩) 0 0) [] := Own.of_IB (l := []) (heap_alloc_new w _) (Nat.le_refl _) (by simp [maxLen])
  have r1 : Rd (w.alloc (.cells #[] 3)) w.heap.size A' (nl m mod) := hr'.alloc (Nat.le_refl _) _
  have hn2 := Lib.hid (nl_length m mod).symm
  have hlen8 : ([] : List Int).length + (nl m mod).length ≤ 1000000000 := by rw [nl_length]; simp; omega
  have hmon := Lib.hid (nl_mon m mod)
  have hpos : 0 < (nl (m + 1) (mon m mod)).length := by rw [nl_length]; omega
  have hlen1 : (nl m mod).length ≤ 1000000 := by rw [nl_length]; omega
  go_enter Try.func66, Try.ntmps66
  go_wp2_with (first
    | (at_builtin; refine wpList_appN rfl (.tmp 15) (.tmp 16) rfl w.heap.size _ [] w.heap.size A' c' (nl m mod) o1 r1 rfl rfl hn2.out hlen8 (by simp) ?_; intro v1 w1 hown1 hb1 _ _; rw [List.nil_append] at hown1; have hz1 := hb1.size; have hz2 : w.heap.size ≤ w1.heap.size := by simp at hz1; omega)
    | (at_builtin; refine wpList_app1 rfl (.tmp 18) (.tmp 19) rfl w.heap.size v1 (nl m mod) 1 hown1 rfl rfl rfl hlen1 hz2 ?_; intro v2 w2 hown2 hb2 _ _; rw [hmon.out] at hown2; obtain ⟨g, cp, rfl, hg, hgl⟩ := World.ownsRow.form hown2 hpos; rw [nl_length] at hown2 ⊢))
  have hbw2 : Below w.heap.size w w2 := (((Below.refl _ _).alloc (Nat.le_refl _) _).trans hb1).trans hb2
  have hst : Hid (DvSt p d m low g cp w (dOut p d m low 0 (mon m mod)) w2) := ⟨mon_lt hp hmo, hown2, hbw2⟩
  obtain ⟨T, hT⟩ : ∃ T, T + d = m + 1 := ⟨m + 1 - d, by omega⟩
  replace hT := Lib.hid hT
  clear hown1 hown2 hb1 hb2 o1 r1 hn2 hmon hr' hbw2 hlen8 hlen1 hpos hz1 hz2 hgl
  go_loopw [9, 10, 11] (fun i _ _ wr => ∃ s t : Nat, s + d ≤ m + 1 ∧ i = .int .i64 ((s : Int) + (d : Int) - 1) ∧ Hid (s + t = T) ∧ Hid (DvSt p d m low g cp w (dOut p d m low t (mon m mod)) wr)) (fun i _ _ _ => (intOf i).toNat)
  case atStart => exact ⟨T, 0, by have := hT.out; omega, by congr 1; have := hT.out; omega, rfl, hst⟩
  case round =>
    clear hst
    obtain ⟨s, t, hs, rfl, hst, hdv⟩ := hrel
    cases s with
    | zero =>
      have ht : T = t := by have := hst.out; omega
      have hB : Hid (dvB p d m low mod = decide (∀ k, k < m + 1 → dOut p d m low t (mon m mod) k = 0)) := by
        unfold Hid dvB
        rw [show m + 1 - d = t by have := hT.out; omega]
      clear ht hst hT
      generalize dOut p d m low t (mon m mod) = r at *
      have hbd : decide ((d : Int) ≤ ((0 : Nat) : Int) + (d : Int) - 1) = false := decide_eq_false (by omega)
      go_wp2_with (fail)
      clear hbd
      go_loop [12] (fun i => ∃ k : Nat, k ≤ m + 1 ∧ i = .int .i64 k ∧ Hid (∀ j, j < k → r j = 0)) (fun i => m + 1 - (intOf i).toNat)
      case atStart => exact ⟨0, by omega, rfl, fun j hj => by omega⟩
      case round =>
        obtain ⟨k, hk, rfl, hall⟩ := hrel
        by_cases hlt : k < m + 1
        · have hc := hdv.out.own.cell (nl_length _ _).symm (i := k) (by rw [nl_length]; exact hlt)
          rw [nl_get _ hlt] at hc
          by_cases hz : r k = 0
          · have hall2 : Hid (∀ j, j < k + 1 → r j = 0) := fun j hj => by
              by_cases e : j = k
              · subst e; exact hz
              · exact hall.out j (by omega)
            rw [hz] at hc
            clear hz
            go_wp2_with (fail)
            go_round
            case rel => exact ⟨k + 1, by omega, by go_num, hall2⟩
            case measure => simp [intOf]; omega
          · have hne : ((r k : Int) != 0) = true := by rw [bne_iff_ne]; omega
            have hfin : Hid (dvB p d m low mod = false) := by unfold Hid; rw [hB.out]; exact decide_eq_false fun h => hz (h k hlt)
            clear hz
            go_wp2_with (fail)
            go_ret
            exact ⟨ret_bool hfin.out.symm, hdv.out.bw⟩
        · have hfin : Hid (dvB p d m low mod = true) := by unfold Hid; rw [hB.out]; exact decide_eq_true fun j hj => hall.out j (by omega)
          go_wp2_with (fail)
          go_ret
          exact ⟨ret_bool hfin.out.symm, hdv.out.bw⟩
    | succ s =>
      rw [show ((s + 1 : Nat) : Int) + (d : Int) - 1 = (s : Int) + (d : Int) by omega]
      obtain ⟨r0, hr0⟩ : ∃ r0, r0 = dOut p d m low t (mon m mod) := ⟨_, rfl⟩
      rw [← hr0] at hdv
      have hst1 : s + d = m - t := by have := hst.out; have := hT.out; omega
      have hsd : s + d < m + 1 := by omega
      obtain ⟨C, hC⟩ : ∃ C, C = r0 (s + d) := ⟨_, rfl⟩
      have hCp : C < p := by rw [hC]; exact hdv.out.lt _
      have hc0 := hdv.out.own.cell (nl_length _ _).symm (i := s + d) (by rw [nl_length]; exact hsd)
      rw [nl_get _ hsd, ← hC] at hc0
      have hnext : Hid (dOut p d m low (t + 1) (mon m mod) = fup (dIn p C s low d r0) (s + d) 0) := by
        show fup (dIn p (dOut p d m low t (mon m mod) (m - t)) (m - t - d) low d (dOut p d m low t (mon m mod))) (m - t) 0 = _
        rw [← hst1, ← hr0, ← hC, show s + d - d = s by omega]
      replace hr0 := Lib.hid hr0
      replace hC := Lib.hid hC
      replace hst1 := Lib.hid hst1
      have hbd : decide ((d : Int) ≤ (s : Int) + (d : Int)) = true := decide_eq_true (by omega)
      go_wp2_with (fail)
      clear hbd hc0
      obtain ⟨wo, rfl⟩ : ∃ wo : World, wo = wr := ⟨_, rfl⟩
      go_loopw [11] (fun j wr => ∃ l : Nat, l ≤ d ∧ j = .int .i64 l ∧ Hid (DvSt p d m low g cp w (dIn p C s low l r0) wr)) (fun j _ => d - (intOf j).toNat)
      case atStart => exact ⟨0, by omega, rfl, hdv⟩
      case round =>
        clear hdv
        obtain ⟨l, hl2, rfl, hdv⟩ := hrel
        obtain ⟨r1, hr1⟩ : ∃ r1, r1 = dIn p C s low l r0 := ⟨_, rfl⟩
        by_cases hlt : l < d
        · have hnl : Hid (dIn p C s low (l + 1) r0 = fup r1 (s + l) ((r1 (s + l) + (p - C) * low l) % p)) := by rw [hr1]; rfl
          rw [← hr1] at hdv
          replace hr1 := Lib.hid hr1
          have hsl : s + l < m + 1 := by omega
          have hc := hdv.out.own.cell (nl_length _ _).symm (i := s + l) (by rw [nl_length]; exact hsl)
          rw [nl_get _ hsl] at hc
          have hf := hdv.out.own.frozen (nl_length _ _).symm (s + l)
          obtain ⟨z, hz⟩ : ∃ z, z = r1 (s + l) := ⟨_, rfl⟩
          have hzp : z < p := by rw [hz]; exact hdv.out.lt _
          rw [← hz] at hc
          obtain ⟨b, off, rfl, hb, hcm⟩ := hr.at_ (k := l) (by rw [nl_length]; exact hlt)
          rw [nl_get _ hlt] at hcm
          have hcm2 := (hdv.out.bw.cell (p := ⟨b, off + l, none⟩) hb).trans hcm
          clear hcm
          obtain ⟨ml, hml⟩ : ∃ ml, ml = low l := ⟨_, rfl⟩
          have hmlp : ml < p := by rw [hml]; exact hl l
          rw [← hml] at hcm2
          obtain ⟨hm1a, hm1b⟩ : (0 : Int) ≤ ((p : Int) - (C : Int)) * (ml : Int) ∧ ((p : Int) - (C : Int)) * (ml : Int) ≤ 65536 := by
            have h1 := Nat.mul_le_mul (Nat.le_trans (Nat.sub_le p C) hp2) (Nat.le_trans (Nat.le_of_lt hmlp) hp2)
            have h2 : (((p - C) * ml : Nat) : Int) = ((p : Int) - (C : Int)) * (ml : Int) := by rw [Int.natCast_mul, Int.natCast_sub (Nat.le_of_lt hCp)]
            omega
          have hset := (hdv.out.set_ hg (s + l) ((r1 (s + l) + (p - C) * low l) % p) (Nat.mod_lt _ (by omega)) (z := ((z : Int) + ((p : Int) - (C : Int)) * (ml : Int)) % (p : Int))
            (by rw [← hz, ← hml, Int.natCast_emod, Int.natCast_add, Int.natCast_mul, Int.natCast_sub (Nat.le_of_lt hCp)])).drew
          rw [← hnl.out] at hset
          replace hset := Lib.hid hset
          clear hdv hz hml hnl
          have hl0 : (l : Int) < (d : Int) := by omega
          have hi0 : (0 : Int) ≤ (s : Int) + (l : Int) := by omega
          have hi1 : (s : Int) + (l : Int) < ((m + 1 : Nat) : Int) := by omega
          have hi1' : (s : Int) + (l : Int) < (m : Int) + 1 := by omega
          have hi2 : ((s : Int) + (l : Int)).toNat = s + l := by omega
          have hpz : ¬ p = 0 := by omega
          have hX0 : 0 ≤ (z : Int) + ((p : Int) - (C : Int)) * (ml : Int) := by omega
          have e1 : IntKind.i64.wrap (s : Int) = (s : Int) := IntWalk.i64_in _ (by omega)
          have e2 : IntKind.i64.wrap ((s : Int) + (l : Int)) = (s : Int) + (l : Int) := IntWalk.i64_in _ (by omega)
          have e3 : IntKind.i64.wrap ((p : Int) - (C : Int)) = (p : Int) - (C : Int) := IntWalk.i64_in _ (by omega)
          have e4 : IntKind.i64.wrap (((p : Int) - (C : Int)) * (ml : Int)) = ((p : Int) - (C : Int)) * (ml : Int) := IntWalk.i64_in _ (by omega)
          have e5 : IntKind.i64.wrap ((z : Int) + ((p : Int) - (C : Int)) * (ml : Int)) = (z : Int) + ((p : Int) - (C : Int)) * (ml : Int) := IntWalk.i64_in _ (by omega)
          have e6 : ((z : Int) + ((p : Int) - (C : Int)) * (ml : Int)).tmod (p : Int) = ((z : Int) + ((p : Int) - (C : Int)) * (ml : Int)) % (p : Int) := Int.tmod_eq_emod_of_nonneg hX0
          go_wp2_with (fail)
          go_still_tail 26, (by kernel_rfl)
          change wpList _ _ _ _ _ wr.drew
          clear e1 e2 e3 e4 e5 e6 hpz hi2
          go_wp2_with (fail)
          go_roundw
          case rel => exact ⟨l + 1, by omega, by go_num, hset⟩
          case measure => simp [intOf]; omega
        · obtain rfl : l = d := by omega
          rw [← hr1] at hdv
          have hc := hdv.out.own.cell (nl_length _ _).symm (i := s + l) (by rw [nl_length]; exact hsd)
          have hf := hdv.out.own.frozen (nl_length _ _).symm (s + l)
          have hset := hdv.out.set_ hg (s + l) 0 (by omega) (z := 0) rfl
          rw [hr1, ← hnext.out] at hset
          replace hset := Lib.hid hset
          clear hdv hr1
          go_wp2_with (fail)
          go_roundw
          case rel => exact ⟨s, t + 1, by omega, by first | rfl | go_num | (congr 1; omega), by have := hst.out; unfold Hid; omega, hset⟩
          case measure => simp [intOf]; omega
end Go.Proofs.Ytemanlkgfhmclaa

/-! The reference's test of irreducibility, and its Check -/
namespace Go.Proofs.Ytemanlkgfhmclaa
open Go.RowKit Cw

def dg (p v : Nat) : Nat → Nat := fun i => v / p ^ i % p
open Classical in
noncomputable def irrB (p m : Nat) (mod : Nat → Nat) : Bool := decide (∀ d, 1 ≤ d → 2 * d ≤ m → ∀ v, v < p ^ d → dvB p d m (dg p v) mod = false)
open Classical in
theorem irrB_true {p m : Nat} {mod : Nat → Nat} (h : ∀ d, 1 ≤ d → 2 * d ≤ m → ∀ v, v < p ^ d → dvB p d m (dg p v) mod = false) : irrB p m mod = true := decide_eq_true h
open Classical in
theorem irrB_false {p m : Nat} {mod : Nat → Nat} {d v : Nat} (h1 : 1 ≤ d) (h2 : 2 * d ≤ m) (h3 : v < p ^ d) (h4 : dvB p d m (dg p v) mod = true) : irrB p m mod = false :=
  decide_eq_false fun h => by rw [h d h1 h2 v h3] at h4; cases h4

set_option maxHeartbeats 2000000 in
theorem irreducible_any (p m : Nat) (mod : Nat → Nat) (A : Option Addr) (c : Nat) (w : World) (hp : 2 ≤ p) (hp2 : p ≤ 256) (hm1 : 1 ≤ m) (hm : m ≤ 8) (hq : p ^ m ≤ 256) (hmo : ∀ i, mod i < p) (hr : Rd w w.heap.size A (nl m mod)) :
    Calls Try.prog 53 #[.slice A m c, .int .i64 p] w fun e w' => e = .returned (.bool (irrB p m mod)) ∧ Below w.heap.size w w' := by
  have hqd : ∀ d, d ≤ m → p ^ d ≤ 256 := fun d hd => Nat.le_trans (Nat.pow_le_pow_right (by omega) hd) hq
  have hD := fun v d w (h1 : d ≤ 8) (h2 : v ≤ 65536) => Lib.hid (digits_any v p d w (by omega) hp2 h1 h2)
  have hV := fun d v W A2 c2 (hr1 : Rd W W.heap.size A2 (nl d (dg p v))) (hr' : Rd W W.heap.size A (nl m mod)) (h1 : 1 ≤ d) (h2 : d ≤ m) => Lib.hid (divides_any p d m (dg p v) mod A2 A c2 c W hp hp2 h1 h2 hm (fun i => Nat.mod_lt _ (by omega)) hmo hr1 hr')
  replace hqd := Lib.hid hqd
  go_enter Try.func53, Try.ntmps53
  go_wp2_with (fail)
  go_loopw [5, 6, 7] (fun n d _ wr => ∃ k z : Nat, 1 ≤ k ∧ k ≤ m ∧ z ≤ 256 ∧ d = .int .i64 k ∧ n = .int .i64 z ∧ Hid (z = p ^ (k - 1)) ∧ Below w.heap.size w wr ∧ Hid (∀ d, 1 ≤ d → d < k → ∀ v, v < p ^ d → dvB p d m (dg p v) mod = false)) (fun _ d _ _ => m - (intOf d).toNat)
  case atStart => exact ⟨1, 1, by omega, by omega, by omega, rfl, rfl, by simp [Hid], Below.refl _ _, fun d h1 h2 => by omega⟩
  case round =>
    obtain ⟨k, z, hk1, hk2, hz, rfl, rfl, hzk, hbw, hall⟩ := hrel
    by_cases hlt : 2 * k ≤ m
    · have hz2 : z * p = p ^ k := by rw [hzk.out, ← Nat.pow_succ]; congr 1; omega
      have hz3 : z * p ≤ 256 := by rw [hz2]; exact hqd.out k hk2
      have hz4 : ((z * p : Nat) : Int) = (z : Int) * (p : Int) := by simp
      obtain ⟨y, hy⟩ : ∃ y, y = z * p := ⟨_, rfl⟩
      rw [← hy] at hz2 hz3 hz4
      have hm1a : (0 : Int) ≤ (z : Int) * (p : Int) := by omega
      have hm1b : (z : Int) * (p : Int) ≤ 256 := by omega
      have hbt : decide (2 * (k : Int) ≤ (m : Int)) = true := decide_eq_true (by omega)
      replace hz4 := Lib.hid hz4
      replace hy := Lib.hid hy
      replace hz2 := Lib.hid hz2
      go_wp2_with (fail)
      clear hbt
      rw [← hz4.out]
      obtain ⟨wo, rfl⟩ : ∃ wo : World, wo = wr := ⟨_, rfl⟩
      go_loopw [7] (fun v wr => ∃ n : Nat, n ≤ y ∧ v = .int .i64 n ∧ Below w.heap.size w wr ∧ Hid (∀ v, v < n → dvB p k m (dg p v) mod = false)) (fun v _ => y - (intOf v).toNat)
      case atStart => exact ⟨0, by omega, rfl, hbw, fun v hv => by omega⟩
      case round =>
        clear hbw
        obtain ⟨n, hn, rfl, hbw, hall2⟩ := hrel
        by_cases hlt2 : n < y
        · have hsz := hbw.size
          have hD2 := hD n k wr (by omega) (by omega)
          go_wp2_with (fail)
          refine hD2.out.mono ?_
          rintro e w1 ⟨g, rfl, hg, hib, hb1⟩
          rw [lst_length]
          have hV2 := hV k n w1 (some ⟨g, 0, none⟩) k hib.rd ((hr.below (hbw.trans (hb1.mono hsz))).more (Nat.le_trans hsz hb1.size)) hk1 hk2
          by_cases hdv : dvB p k m (dg p n) mod = true
          · have hfin : Hid (irrB p m mod = false) := irrB_false hk1 hlt (by rw [← hz2.out]; exact hlt2) hdv
            rw [hdv] at hV2
            clear hdv
            go_wp2_with (fail)
            refine hV2.out.mono ?_
            rintro e w2 ⟨rfl, hb2⟩
            go_wp2_with (fail)
            go_ret
            exact ⟨ret_bool hfin.out.symm, (hbw.trans (hb1.mono hsz)).trans (hb2.mono (Nat.le_trans hsz hb1.size))⟩
          · have hdv' : dvB p k m (dg p n) mod = false := by simpa using hdv
            have hall3 : Hid (∀ v, v < n + 1 → dvB p k m (dg p v) mod = false) := fun v hv => by
              by_cases e : v = n
              · subst e; exact hdv'
              · exact hall2.out v (by omega)
            rw [hdv'] at hV2
            clear hdv hdv'
            go_wp2_with (fail)
            refine hV2.out.mono ?_
            rintro e w2 ⟨rfl, hb2⟩
            go_wp2_with (fail)
            go_roundw
            case rel => exact ⟨n + 1, by omega, by go_num, (hbw.trans (hb1.mono hsz)).trans (hb2.mono (Nat.le_trans hsz hb1.size)), hall3⟩
            case measure => simp [intOf]; omega
        · obtain rfl : n = y := by omega
          go_wp2_with (fail)
          go_roundw
          case rel => exact ⟨k + 1, n, by omega, by omega, hz3, by go_num, rfl, by unfold Hid; rw [hz2.out]; rfl, hbw, fun d h1 h2 v hv => by
            by_cases e : d = k
            · subst e; exact hall2.out v (by rw [hz2.out]; exact hv)
            · exact hall.out d h1 (by omega) v hv⟩
          case measure => simp [intOf]; omega
    · have hfin : Hid (irrB p m mod = true) := irrB_true fun d h1 h2 v hv => hall.out d h1 (by omega) v hv
      have hbt : decide (2 * (k : Int) ≤ (m : Int)) = false := decide_eq_false (by omega)
      go_wp2_with (fail)
      go_ret
      exact ⟨ret_bool hfin.out.symm, hbw⟩

/-- What Check accepts. -/
def Good (P M : Int) (ml : List Int) : Prop := ∃ D : Desc, P = D.p ∧ M = D.m ∧ ml = modL D ∧ (D.m = 1 ∨ irrB D.p D.m (fun i => D.mod.getD i 0) = true)
open Classical in
noncomputable def chk (P M : Int) (ml : List Int) : Int := if Good P M ml then 0 else 1
theorem chk_yes {P M : Int} {ml : List Int} (h : Good P M ml) : chk P M ml = 0 := if_pos h
theorem chk_no {P M : Int} {ml : List Int} (h : ¬ Good P M ml) : chk P M ml = 1 := if_neg h
theorem chk_zero {P M : Int} {ml : List Int} (h : chk P M ml = 0) : Good P M ml := by
  apply Classical.byContradiction; intro hn; rw [chk_no hn] at h; cases h
theorem Good.valid {P M : Int} {ml : List Int} (h : Good P M ml) : Valid P M ml := by
  obtain ⟨D, h1, h2, h3, _⟩ := h; exact ⟨D, h1, h2, h3⟩
theorem nl_modL (D : Desc) : nl D.mod.length (fun i => D.mod.getD i 0) = modL D := by
  apply List.ext_getElem
  · simp [nl, lst, modL]
  · intro i h1 h2
    have hi : i < D.mod.length := by simpa [modL] using h2
    simp [nl, lst, modL, hi]
theorem modL_inj {D D' : Desc} (h : modL D = modL D') : D.mod = D'.mod := by
  have h1 : D.mod.length = D'.mod.length := by rw [← modL_length, ← modL_length, h]
  apply List.ext_getElem h1
  intro i h2 h3
  have e1 := modL_get D h2
  have e2 := modL_get D' h3
  rw [h, e2] at e1
  have e3 : D'.mod.getD i 0 = D.mod.getD i 0 := Int.ofNat.inj e1
  simp [h2, h3] at e3
  exact e3.symm

set_option maxHeartbeats 2000000 in
theorem Check_any (P M : Int) (ml : List Int) (A : Option Addr) (c : Nat) (w : World) (hP : P ≤ 9223372036854775807) (hM : M ≤ 9223372036854775807) (_hl : ml.length ≤ maxLen)
    (hr : Rd w w.heap.size A ml) :
    Calls Try.prog 28 #[.agg #[.int .i64 P, .int .i64 M, .slice A ml.length c]] w fun e w' => e = .returned (.int .i64 (chk P M ml)) ∧ Below w.heap.size w w' := by
  unfold maxLen at _hl
  have hO := fun w => Lib.hid (Order_any P M A ml.length c w hP hM)
  have k0 := Lib.hid (alloc3 w (.int .i64 P) (.int .i64 M) (.slice A ml.length c) 24)
  by_cases hq : qOf P M = 0
  · have hv := Lib.hid (chk_no (P := P) (M := M) (ml := ml) fun h => h.valid.q hq)
    have hq := Lib.hid hq
    go_enter Try.func28, Try.ntmps28
    go_wp2_with (go_at_call 8; refine (hO _).out.mono ?_; rw [hq.out]; rintro e w1 ⟨rfl, hb1⟩)
    go_ret
    exact ⟨ret_int hv.out.symm, ((Below.refl _ _).alloc (Nat.le_refl _) _).trans (hb1.mono (by simp))⟩
  · have hq0 : ((((qOf P M : Nat) : Int)) == 0) = false := by rw [beq_eq_false_iff_ne]; omega
    obtain ⟨p, m, rfl, rfl, hp2, hp256, hm1, hm8, hq3, hqe⟩ := qOf_pos hq
    clear hqe hq
    generalize qOf p m = q at *
    have hI := fun w => Lib.hid (prime_any p w hp2 hp256)
    by_cases hpr : noDiv p (p - 2) = true
    · have hpp := (noDiv_prime hp2).1 hpr
      replace hpr := Lib.hid hpr
      by_cases hm : m = 1
      · subst hm
        by_cases hl0 : ml.length = 0
        · have hval : Valid p (1 : Nat) ml := Valid.mk' (ml := ml) hpp hm1 hm8 hq3 (by simpa using hl0) (fun j hj => by omega)
          have hv := Lib.hid (chk_yes (P := p) (M := (1 : Nat)) (ml := ml) (by obtain ⟨D, h1, h2, h3⟩ := hval; exact ⟨D, h1, h2, h3, .inl (by omega)⟩))
          have hl0' : ((ml.length : Int) != 0) = false := by simp [hl0]
          clear hl0
          go_enter Try.func28, Try.ntmps28
          go_wp2_with (first | (go_at_call 8; refine (hO _).out.mono ?_; rintro e w1 ⟨rfl, hb1⟩; obtain ⟨kc0, kc1, kc2⟩ := keep3 (b := w.heap.size) hb1 (by simp) k0.out) | (go_at_call 52; refine (hI _).out.mono ?_; rw [hpr.out]; rintro e w2 ⟨rfl, rfl⟩))
          go_ret
          exact ⟨ret_int hv.out.symm, ((Below.refl _ _).alloc (Nat.le_refl _) _).trans (hb1.mono (by simp))⟩
        · have hv := Lib.hid (chk_no (P := p) (M := (1 : Nat)) (ml := ml) fun ⟨D, _, h2, h3, _⟩ => hl0 (by rw [h3, modL_length, D.hlen, if_pos (by omega)]))
          have hl0' : ((ml.length : Int) != 0) = true := by rw [bne_iff_ne]; omega
          clear hl0
          go_enter Try.func28, Try.ntmps28
          go_wp2_with (first | (go_at_call 8; refine (hO _).out.mono ?_; rintro e w1 ⟨rfl, hb1⟩; obtain ⟨kc0, kc1, kc2⟩ := keep3 (b := w.heap.size) hb1 (by simp) k0.out) | (go_at_call 52; refine (hI _).out.mono ?_; rw [hpr.out]; rintro e w2 ⟨rfl, rfl⟩))
          go_ret
          exact ⟨ret_int hv.out.symm, ((Below.refl _ _).alloc (Nat.le_refl _) _).trans (hb1.mono (by simp))⟩
      · have hm' : ((m : Int) == 1) = false := by rw [beq_eq_false_iff_ne]; omega
        by_cases hlm : ml.length = m
        · have hlm' : ((ml.length : Int) != (m : Int)) = false := by simp [hlm]
          have hlm2 : m ≤ ml.length := by omega
          have hlm3 : ml.length ≤ m := by omega
          have hlmH := Lib.hid hlm
          clear hlm
          go_enter Try.func28, Try.ntmps28
          go_wp2_with (first | (go_at_call 8; refine (hO _).out.mono ?_; rintro e w1 ⟨rfl, hb1⟩; obtain ⟨kc0, kc1, kc2⟩ := keep3 (b := w.heap.size) hb1 (by simp) k0.out) | (go_at_call 52; refine (hI _).out.mono ?_; rw [hpr.out]; rintro e w2 ⟨rfl, rfl⟩))
          have hs1 := hb1.size
          simp only [World.size_alloc] at hs1
          have hbw1 : Below w.heap.size w w1 := ((Below.refl _ _).alloc (Nat.le_refl _) _).trans (hb1.mono (by simp))
          have hr1 := hr.below hbw1
          have kH := Lib.hid (keep3 (b := w.heap.size) hb1 (by simp) k0.out)
          clear hb1
          go_loopw [3] (fun i wr => ∃ k : Nat, k ≤ m ∧ i = .int .i64 k ∧ Hid (∀ j, j < k → 0 ≤ ml[j]?.getD 0 ∧ ml[j]?.getD 0 < p) ∧ Below w1.heap.size w1 wr) (fun i _ => m - (intOf i).toNat)
          case atStart => exact ⟨0, by omega, rfl, fun j hj => by omega, Below.refl _ _⟩
          case round =>
            obtain ⟨k, hk, rfl, hall, hbr⟩ := hrel
            clear kc0 kc1 kc2
            obtain ⟨kc0, kc1, kc2⟩ := keep3 (b := w.heap.size) hbr (by omega) kH.out
            by_cases hlt : k < m
            · obtain ⟨b, off, rfl, hb, hc⟩ := hr1.at_ (k := k) (by omega)
              obtain ⟨x, hx⟩ : ∃ x, x = ml[k]?.getD 0 := ⟨_, rfl⟩
              rw [← hx] at hc
              have hc2 := (hbr.cell (p := ⟨b, off + k, none⟩) (by show b < w1.heap.size; omega)).trans hc
              have hkl : k < ml.length := by omega
              have hkl' : (k : Int) < (ml.length : Int) := by omega
              clear hc
              by_cases hx1 : x < 0
              · have hv := Lib.hid (chk_no (P := p) (M := m) (ml := ml) fun ⟨D, _, _, h3, _⟩ => by have := (modL_bd D k).1; rw [← h3, ← hx] at this; omega)
                have hxb : decide (x < 0) = true := decide_eq_true hx1
                clear hx hr hr1
                go_wp2_with (fail)
                go_quiet (fail)
                go_wp2_with (fail)
                go_ret
                exact ⟨ret_int hv.out.symm, hbw1.trans ((below_drewN' hbr _).mono (by omega))⟩
              · have hxb : decide (x < 0) = false := decide_eq_false hx1
                by_cases hx2 : x < p
                · have hall2 : Hid (∀ j, j < k + 1 → 0 ≤ ml[j]?.getD 0 ∧ ml[j]?.getD 0 < p) := fun j hj => by
                    by_cases e : j = k
                    · subst e; rw [← hx]; omega
                    · exact hall.out j (by omega)
                  have hxc : decide ((p : Int) ≤ x) = false := decide_eq_false (by omega)
                  clear hx hr hr1 hall
                  go_wp2_with (fail)
                  go_quiet (fail)
                  go_wp2_with (fail)
                  go_roundw
                  case rel => exact ⟨k + 1, by omega, by go_num, hall2, below_drewN' hbr _⟩
                  case measure => simp [intOf]; omega
                · have hv := Lib.hid (chk_no (P := p) (M := m) (ml := ml) fun ⟨D, h1, _, h3, _⟩ => by have := (modL_bd D k).2; rw [← h3, ← hx] at this; omega)
                  have hxc : decide ((p : Int) ≤ x) = true := decide_eq_true (by omega)
                  clear hx hr hr1
                  go_wp2_with (fail)
                  go_quiet (fail)
                  go_wp2_with (fail)
                  go_ret
                  exact ⟨ret_int hv.out.symm, hbw1.trans ((below_drewN' hbr _).mono (by omega))⟩
            · have hkm : k = m := by omega
              have hval : Valid p m ml := Valid.mk' (ml := ml) hpp hm1 hm8 hq3 (by rw [if_neg hm]; exact hlmH.out) (fun j hj => hall.out j (by omega))
              obtain ⟨D, hd1, hd2, hd3⟩ := hval
              have hdl : (modL D).length = D.m := by rw [← hd3, hlmH.out]; omega
              have hrD : Rd wr wr.heap.size A (nl m fun i => D.mod.getD i 0) := by
                have h4 := nl_modL D
                rw [show D.mod.length = m by rw [← modL_length, hdl]; omega, ← hd3] at h4
                rw [h4]; exact (hr1.below (hbr.mono (by omega))).more (by have := hbr.size; omega)
              have hIr := Lib.hid (irreducible_any p m (fun i => D.mod.getD i 0) A c wr hp2 hp256 hm1 hm8 hq3 (fun i => by have := D.hmod i; omega) hrD)
              have hlen := hlmH.out
              have hgood : Hid (irrB p m (fun i => D.mod.getD i 0) = true → chk p m ml = 0) := fun h => chk_yes ⟨D, hd1, hd2, hd3, .inr (by rw [show D.p = p by omega, show D.m = m by omega]; exact h)⟩
              have hbad : Hid (irrB p m (fun i => D.mod.getD i 0) = false → chk p m ml = 1) := fun h => chk_no fun ⟨D', h1, h2, h3, h4⟩ => by
                have h5 : D'.mod = D.mod := modL_inj (h3.symm.trans hd3)
                rcases h4 with h4 | h4
                · omega
                · rw [show D'.p = p by omega, show D'.m = m by omega, h5, h] at h4; cases h4
              clear hd1 hd2 hd3 hdl hrD hkm hr hr1 hall
              rw [hlen]
              rw [hlen] at kc2
              clear hlen
              cases hirr : irrB p m (fun i => D.mod.getD i 0) with
              | true =>
                have hv := Lib.hid (hgood.out hirr)
                rw [hirr] at hIr
                clear hirr
                go_wp2_with (fail)
                refine hIr.out.mono ?_
                rintro e w3 ⟨rfl, hb3⟩
                go_wp2_with (fail)
                go_ret
                exact ⟨ret_int hv.out.symm, hbw1.trans ((hbr.mono (by omega)).trans (hb3.mono (by have := hbr.size; omega)))⟩
              | false =>
                have hv := Lib.hid (hbad.out hirr)
                rw [hirr] at hIr
                clear hirr
                go_wp2_with (fail)
                refine hIr.out.mono ?_
                rintro e w3 ⟨rfl, hb3⟩
                go_wp2_with (fail)
                go_ret
                exact ⟨ret_int hv.out.symm, hbw1.trans ((hbr.mono (by omega)).trans (hb3.mono (by have := hbr.size; omega)))⟩
        · have hlm' : ((ml.length : Int) != (m : Int)) = true := by rw [bne_iff_ne]; omega
          have hv := Lib.hid (chk_no (P := p) (M := m) (ml := ml) fun ⟨D, _, h2, h3, _⟩ => hlm (by rw [h3, modL_length, D.hlen, if_neg (by omega)]; omega))
          clear hlm
          go_enter Try.func28, Try.ntmps28
          go_wp2_with (first | (go_at_call 8; refine (hO _).out.mono ?_; rintro e w1 ⟨rfl, hb1⟩; obtain ⟨kc0, kc1, kc2⟩ := keep3 (b := w.heap.size) hb1 (by simp) k0.out) | (go_at_call 52; refine (hI _).out.mono ?_; rw [hpr.out]; rintro e w2 ⟨rfl, rfl⟩))
          go_ret
          exact ⟨ret_int hv.out.symm, ((Below.refl _ _).alloc (Nat.le_refl _) _).trans (hb1.mono (by simp))⟩
    · have hv := Lib.hid (chk_no (P := p) (M := m) (ml := ml) fun ⟨D, h1, _, _, _⟩ => hpr ((noDiv_prime hp2).2 (by rw [show p = D.p by omega]; exact D.hp)))
      have hpr : Hid (noDiv p (p - 2) = false) := by unfold Hid; simpa using hpr
      go_enter Try.func28, Try.ntmps28
      go_wp2_with (first | (go_at_call 8; refine (hO _).out.mono ?_; rintro e w1 ⟨rfl, hb1⟩; obtain ⟨kc0, kc1, kc2⟩ := keep3 (b := w.heap.size) hb1 (by simp) k0.out) | (go_at_call 52; refine (hI _).out.mono ?_; rw [hpr.out]; rintro e w2 ⟨rfl, rfl⟩))
      go_ret
      exact ⟨ret_int hv.out.symm, ((Below.refl _ _).alloc (Nat.le_refl _) _).trans (hb1.mono (by simp))⟩
end Go.Proofs.Ytemanlkgfhmclaa

/-! The program's New and the reference's Check agree: a field just if the modulus has no divisor -/
namespace Go.Proofs.Ytemanlkgfhmclaa
open Go.RowKit Cw

set_option maxHeartbeats 1000000 in
theorem New_bad (P M : Int) (ml : List Int) (A : Option Addr) (c : Nat) (w : World) (hP : P ≤ 9223372036854775807) (hM : M ≤ 9223372036854775807) (hl : ml.length ≤ maxLen) (hr : Rd w w.heap.size A ml) (hb : ¬ Valid P M ml) :
    Calls Try.prog 36 #[.agg #[.int .i64 P, .int .i64 M, .slice A ml.length c]] w fun e w' => e = .returned (.tuple #[.pointer none, .int .i64 1]) ∧ Below w.heap.size w w' := by
  have hS := fun W hr => Lib.hid (shape_any P M ml A c W hP hM hl hr)
  rw [validB_false hb] at hS
  have k0 := Lib.hid (alloc3 w (.int .i64 P) (.int .i64 M) (.slice A ml.length c) 24)
  have hB : Below w.heap.size w (w.alloc (.cells #[.int .i64 P, .int .i64 M, .slice A ml.length c] 24)) := (Below.refl _ _).alloc (Nat.le_refl _) _
  have hS2 := hS _ ((hr.below hB).more hB.size)
  clear hb hS hl
  go_enter Try.func36, Try.ntmps36
  go_wp2_with (fail)
  (with_reducible refine hS2.out.mono ?_)
  rintro e w1 ⟨rfl, hb1⟩
  go_wp2_with (fail)
  go_ret2
  exact ⟨rfl, hB.trans (hb1.mono hB.size)⟩

theorem good_of_gen {D : Desc} {u : R D} (h : IsGen u) : Good D.p D.m (modL D) := by
  refine ⟨D, rfl, rfl, rfl, .inr (irrB_true fun d h1 h2 v hv => ?_)⟩
  exact irr_of_gen D.hmod h h1 h2
open Classical in
theorem gen_of_good {D : Desc} (h : Good D.p D.m (modL D)) : ∃ u : R D, IsGen u := by
  obtain ⟨D', hp, hm, hml, hi⟩ := h
  have e1 : D.p = D'.p := by omega
  have e2 : D.m = D'.m := by omega
  have e3 := modL_inj hml
  obtain rfl : D = D' := by
    obtain ⟨p, m, mod, a1, a2, a3, a4, a5, a6⟩ := D
    obtain ⟨p', m', mod', b1, b2, b3, b4, b5, b6⟩ := D'
    dsimp at e1 e2 e3
    subst e1 e2 e3
    rfl
  refine gen_of_irr D.hmod (hi.imp id fun h d h1 h2 v hv => ?_)
  unfold irrB at h
  exact of_decide_eq_true h d h1 h2 v hv

/-- What New hands back, for whatever comes in. -/
def NewAny (P M : Int) (ml : List Int) (w : World) (e : Ending) (w' : World) : Prop :=
  Below w.heap.size w w' ∧ ((Good P M ml ∧ ∃ g, ∃ F : FD, P = F.p ∧ M = F.m ∧ ml = modL F.toDesc ∧ e = .returned (.tuple #[.pointer (some ⟨g, 0, none⟩), .int .i64 0]) ∧ w.heap.size ≤ g ∧ GF w' w'.heap.size g F) ∨
    (¬ Good P M ml ∧ e = .returned (.tuple #[.pointer none, .int .i64 1])))
theorem New_any (P M : Int) (ml : List Int) (A : Option Addr) (c : Nat) (w : World) (hP : P ≤ 9223372036854775807) (hM : M ≤ 9223372036854775807) (hl : ml.length ≤ maxLen) (hr : Rd w w.heap.size A ml) :
    Calls Try.prog 36 #[.agg #[.int .i64 P, .int .i64 M, .slice A ml.length c]] w (NewAny P M ml w) := by
  by_cases hv : Valid P M ml
  · obtain ⟨D, rfl, rfl, rfl⟩ := hv
    rw [modL_length]
    refine (New_valid D A c w hr).mono ?_
    rintro e w' ⟨hb, ⟨g, F, rfl, rfl, h1, h2⟩ | ⟨hno, rfl⟩⟩
    · exact ⟨hb, .inl ⟨good_of_gen (u := F.g) ⟨F.g_inj, F.g_one⟩, g, F, rfl, rfl, rfl, rfl, h1, h2⟩⟩
    · exact ⟨hb, .inr ⟨fun hg => by obtain ⟨u, hu⟩ := gen_of_good hg; exact hno u hu, rfl⟩⟩
  · refine (New_bad P M ml A c w hP hM hl hr hv).mono ?_
    rintro e w' ⟨rfl, hb⟩
    exact ⟨hb, .inr ⟨fun h => hv h.valid, rfl⟩⟩
/-- New, for a good description. -/
theorem New_good (D : Desc) (A : Option Addr) (c : Nat) (w : World) (hr : Rd w w.heap.size A (modL D)) (hg : Good D.p D.m (modL D)) :
    Calls Try.prog 36 #[.agg #[.int .i64 D.p, .int .i64 D.m, .slice A D.mod.length c]] w fun e w' =>
      ∃ g, ∃ F : FD, F.toDesc = D ∧ e = .returned (.tuple #[.pointer (some ⟨g, 0, none⟩), .int .i64 0]) ∧ w.heap.size ≤ g ∧ GF w' w'.heap.size g F ∧ Below w.heap.size w w' := by
  refine (New_valid D A c w hr).mono ?_
  rintro e w' ⟨hb, ⟨g, F, rfl, rfl, h1, h2⟩ | ⟨hno, rfl⟩⟩
  · exact ⟨g, F, rfl, rfl, h1, h2, hb⟩
  · obtain ⟨u, hu⟩ := gen_of_good hg
    exact absurd hu (hno u)
/-- New, for any other. -/
theorem New_no (P M : Int) (ml : List Int) (A : Option Addr) (c : Nat) (w : World) (hP : P ≤ 9223372036854775807) (hM : M ≤ 9223372036854775807) (hl : ml.length ≤ maxLen) (hr : Rd w w.heap.size A ml) (hb : ¬ Good P M ml) :
    Calls Try.prog 36 #[.agg #[.int .i64 P, .int .i64 M, .slice A ml.length c]] w fun e w' => e = .returned (.tuple #[.pointer none, .int .i64 1]) ∧ Below w.heap.size w w' := by
  refine (New_any P M ml A c w hP hM hl hr).mono ?_
  rintro e w' ⟨hb1, ⟨hg, -⟩ | ⟨-, rfl⟩⟩
  · exact absurd hg hb
  · exact ⟨rfl, hb1⟩
end Go.Proofs.Ytemanlkgfhmclaa
