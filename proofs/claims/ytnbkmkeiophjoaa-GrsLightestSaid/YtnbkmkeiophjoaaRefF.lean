/- The reference's division of polynomials, its test of irreducibility, and its Check. -/
import Derived.Test.YtnbkmkeiophjoaaRefC
import Derived.Test.YtnbkmkeiophjoaaP2
import Derived.Test.YtnbkmkeiophjoaaP1
import Derived.Test.YtnbkmkeiophjoaaP4
import Derived.StillTailTactics
namespace Go.Proofs.Ytnbkmkeiophjoaa
open Go.RowKit Cw

section
variable {w w' : World} {B g n cap : Nat} {l : List Int}
theorem Own.cell (h : Own w B (.slice (some ⟨g, 0, none⟩) n cap) l) (hn : n = l.length) {i : Nat} (hi : i < l.length) : w.cell? ⟨g, i, none⟩ = some (.int .i64 (l[i]?.getD 0)) := by
  subst hn
  rw [World.ownsRow.cellAt h i (by omega)]; simp [hi]
theorem Own.frozen (h : Own w B (.slice (some ⟨g, 0, none⟩) n cap) l) (hn : n = l.length) (i : Nat) : w.frozen? ⟨g, i, none⟩ = false := by
  subst hn; exact World.ownsRow.frozenAt h i
theorem Own.set_ (h : Own w B (.slice (some ⟨g, 0, none⟩) n cap) l) (hn : n = l.length) (i : Nat) (u : Int) :
    Own (w.setCell ⟨g, i, none⟩ (.int .i64 u)) B (.slice (some ⟨g, 0, none⟩) n cap) (l.set i u) := by
  subst hn
  have h1 := (World.ownsRow.stored h i (.int .i64 u)).1
  unfold Own
  rw [List.length_set, List.map_set]; exact h1
end

/-- The list of n numbers r. -/
def nl (n : Nat) (r : Nat → Nat) : List Int := lst n fun i => (r i : Nat)
theorem nl_length (n : Nat) (r : Nat → Nat) : (nl n r).length = n := lst_length _ _
theorem nl_get {n i : Nat} (r : Nat → Nat) (h : i < n) : (nl n r)[i]?.getD 0 = (r i : Nat) := lst_get _ h
theorem nl_set (n : Nat) (r : Nat → Nat) (k v : Nat) : (nl n r).set k (v : Int) = nl n (fup r k v) := by
  unfold nl
  rw [lst_set]
  refine lst_congr fun i _ => ?_
  unfold fup
  by_cases e : i = k
  · rw [if_pos e, if_pos e]
  · rw [if_neg e, if_neg e]
structure DvSt (p d m : Nat) (low : Nat → Nat) (g cp : Nat) (w : World) (r : Nat → Nat) (wr : World) : Prop where
  lt : ∀ i, r i < p
  own : Own wr w.heap.size (.slice (some ⟨g, 0, none⟩) (m + 1) cp) (nl (m + 1) r)
  bw : Below w.heap.size w wr
theorem DvSt.set_ {p d m : Nat} {low : Nat → Nat} {g cp : Nat} {w wr : World} {r : Nat → Nat} (h : DvSt p d m low g cp w r wr) (hg : w.heap.size ≤ g) (k v : Nat) (hv : v < p) {z : Int} (hz : z = (v : Int)) :
    DvSt p d m low g cp w (fup r k v) (wr.setCell ⟨g, k, none⟩ (.int .i64 z)) where
  lt := fup_lt h.lt hv k
  own := by subst hz; have h1 := h.own.set_ (nl_length _ _).symm k (v : Int); rw [nl_set] at h1; exact h1
  bw := h.bw.setCell (p := ⟨g, k, none⟩) hg _
theorem DvSt.drew {p d m : Nat} {low : Nat → Nat} {g cp : Nat} {w wr : World} {r : Nat → Nat} (h : DvSt p d m low g cp w r wr) : DvSt p d m low g cp w r wr.drew := ⟨h.lt, h.own, h.bw.drew⟩
theorem nl_mon (m : Nat) (mod : Nat → Nat) : nl m mod ++ [1] = nl (m + 1) (mon m mod) := by
  unfold nl
  rw [lst_succ]
  congr 1
  · exact lst_congr fun i hi => by unfold mon; rw [if_pos hi]
  · unfold mon; rw [if_neg (Nat.lt_irrefl m)]; rfl

set_option maxRecDepth 100000 in
set_option maxHeartbeats 4000000 in
theorem divides_any (p d m : Nat) (low mod : Nat → Nat) (A A' : Option Addr) (c c' : Nat) (w : World) (hp : 2 ≤ p) (hp2 : p ≤ 256) (hd1 : 1 ≤ d) (hdm : d ≤ m) (hm : m ≤ 8) (hl : ∀ i, low i < p) (hmo : ∀ i, mod i < p)
    (hr : Rd w w.heap.size A (nl d low)) (hr' : Rd w w.heap.size A' (nl m mod)) :
    Calls Try.prog 101 #[.slice A d c, .slice A' m c', .int .i64 p] w fun e w' => e = .returned (.bool (dvB p d m low mod)) ∧ Below w.heap.size w w' := by
  have o1 : Own (w.alloc (.cells #[] 3)) w.heap.size (.slice (some ⟨w.heap.size, 0, none⟩) 0 0) [] := Own.of_IB (l := []) (heap_alloc_new w _) (Nat.le_refl _) (by simp [maxLen])
  have r1 : Rd (w.alloc (.cells #[] 3)) w.heap.size A' (nl m mod) := hr'.alloc (Nat.le_refl _) _
  have hn2 := Lib.hid (nl_length m mod).symm
  have hlen8 : ([] : List Int).length + (nl m mod).length ≤ 1000000000 := by rw [nl_length]; simp; omega
  have hmon := Lib.hid (nl_mon m mod)
  have hpos : 0 < (nl (m + 1) (mon m mod)).length := by rw [nl_length]; omega
  have hlen1 : (nl m mod).length ≤ 1000000 := by rw [nl_length]; omega
  go_enter Try.func101, Try.ntmps101
  go_wp2_with (first
    | (at_builtin; refine wpList_appN rfl (.tmp 15) (.tmp 16) rfl w.heap.size _ [] w.heap.size A' c' (nl m mod) o1 r1 rfl rfl hn2.out hlen8 (by simp) ?_; intro v1 w1 hown1 hb1 _ _; rw [List.nil_append] at hown1; have hz1 := hb1.size; have hz2 : w.heap.size ≤ w1.heap.size := by simp at hz1; omega)
    | (at_builtin; refine wpList_app1 rfl (.tmp 18) (.tmp 19) rfl w.heap.size v1 (nl m mod) 1 hown1 rfl rfl rfl hlen1 hz2 ?_; intro v2 w2 hown2 hb2 _ _; rw [hmon.out] at hown2; obtain ⟨g, cp, rfl, hg, hgl⟩ := World.ownsRow.form hown2 hpos; rw [nl_length] at hown2 ⊢))
  have hbw2 : Below w.heap.size w w2 := (((Below.refl _ _).alloc (Nat.le_refl _) _).trans hb1).trans hb2
  have hst : Hid (DvSt p d m low g cp w (dOut p d m low 0 (mon m mod)) w2) := ⟨mon_lt hp hmo, hown2, hbw2⟩
  obtain ⟨T, hT⟩ : ∃ T, T + d = m + 1 := ⟨m + 1 - d, by omega⟩
  replace hT := Lib.hid hT
  clear hown1 hown2 hb1 hb2 o1 r1 hn2 hmon hr' hbw2 hlen8 hlen1 hpos hz1 hz2 hgl
  go_loopw [9, 10, 11] (fun i _ _ wr => ∃ s t : Nat, s + d ≤ m + 1 ∧ i = .int .i64 ((s : Int) + (d : Int) - 1) ∧ Hid (s + t = T) ∧ Hid (DvSt p d m low g cp w (dOut p d m low t (mon m mod)) wr)) (fun i _ _ _ => (intOf i).toNat)
  case atStart => exact ⟨T, 0, by have := hT.out; omega, by congr 1; have := hT.out; omega, rfl, hst⟩
  case round =>
    clear hst
    obtain ⟨s, t, hs, rfl, hst, hdv⟩ := hrel
    cases s with
    | zero =>
      have ht : T = t := by have := hst.out; omega
      have hB : Hid (dvB p d m low mod = decide (∀ k, k < m + 1 → dOut p d m low t (mon m mod) k = 0)) := by
        unfold Hid dvB
        rw [show m + 1 - d = t by have := hT.out; omega]
      clear ht hst hT
      generalize dOut p d m low t (mon m mod) = r at *
      have hbd : decide ((d : Int) ≤ ((0 : Nat) : Int) + (d : Int) - 1) = false := decide_eq_false (by omega)
      go_wp2_with (fail)
      clear hbd
      go_loop [12] (fun i => ∃ k : Nat, k ≤ m + 1 ∧ i = .int .i64 k ∧ Hid (∀ j, j < k → r j = 0)) (fun i => m + 1 - (intOf i).toNat)
      case atStart => exact ⟨0, by omega, rfl, fun j hj => by omega⟩
      case round =>
        obtain ⟨k, hk, rfl, hall⟩ := hrel
        by_cases hlt : k < m + 1
        · have hc := hdv.out.own.cell (nl_length _ _).symm (i := k) (by rw [nl_length]; exact hlt)
          rw [nl_get _ hlt] at hc
          by_cases hz : r k = 0
          · have hall2 : Hid (∀ j, j < k + 1 → r j = 0) := fun j hj => by
              by_cases e : j = k
              · subst e; exact hz
              · exact hall.out j (by omega)
            rw [hz] at hc
            clear hz
            go_wp2_with (fail)
            go_round
            case rel => exact ⟨k + 1, by omega, by go_num, hall2⟩
            case measure => simp [intOf]; omega
          · have hne : ((r k : Int) != 0) = true := by rw [bne_iff_ne]; omega
            have hfin : Hid (dvB p d m low mod = false) := by unfold Hid; rw [hB.out]; exact decide_eq_false fun h => hz (h k hlt)
            clear hz
            go_wp2_with (fail)
            go_ret
            exact ⟨ret_bool hfin.out.symm, hdv.out.bw⟩
        · have hfin : Hid (dvB p d m low mod = true) := by unfold Hid; rw [hB.out]; exact decide_eq_true fun j hj => hall.out j (by omega)
          go_wp2_with (fail)
          go_ret
          exact ⟨ret_bool hfin.out.symm, hdv.out.bw⟩
    | succ s =>
      rw [show ((s + 1 : Nat) : Int) + (d : Int) - 1 = (s : Int) + (d : Int) by omega]
      obtain ⟨r0, hr0⟩ : ∃ r0, r0 = dOut p d m low t (mon m mod) := ⟨_, rfl⟩
      rw [← hr0] at hdv
      have hst1 : s + d = m - t := by have := hst.out; have := hT.out; omega
      have hsd : s + d < m + 1 := by omega
      obtain ⟨C, hC⟩ : ∃ C, C = r0 (s + d) := ⟨_, rfl⟩
      have hCp : C < p := by rw [hC]; exact hdv.out.lt _
      have hc0 := hdv.out.own.cell (nl_length _ _).symm (i := s + d) (by rw [nl_length]; exact hsd)
      rw [nl_get _ hsd, ← hC] at hc0
      have hnext : Hid (dOut p d m low (t + 1) (mon m mod) = fup (dIn p C s low d r0) (s + d) 0) := by
        show fup (dIn p (dOut p d m low t (mon m mod) (m - t)) (m - t - d) low d (dOut p d m low t (mon m mod))) (m - t) 0 = _
        rw [← hst1, ← hr0, ← hC, show s + d - d = s by omega]
      replace hr0 := Lib.hid hr0
      replace hC := Lib.hid hC
      replace hst1 := Lib.hid hst1
      have hbd : decide ((d : Int) ≤ (s : Int) + (d : Int)) = true := decide_eq_true (by omega)
      go_wp2_with (fail)
      clear hbd hc0
      obtain ⟨wo, rfl⟩ : ∃ wo : World, wo = wr := ⟨_, rfl⟩
      go_loopw [11] (fun j wr => ∃ l : Nat, l ≤ d ∧ j = .int .i64 l ∧ Hid (DvSt p d m low g cp w (dIn p C s low l r0) wr)) (fun j _ => d - (intOf j).toNat)
      case atStart => exact ⟨0, by omega, rfl, hdv⟩
      case round =>
        clear hdv
        obtain ⟨l, hl2, rfl, hdv⟩ := hrel
        obtain ⟨r1, hr1⟩ : ∃ r1, r1 = dIn p C s low l r0 := ⟨_, rfl⟩
        by_cases hlt : l < d
        · have hnl : Hid (dIn p C s low (l + 1) r0 = fup r1 (s + l) ((r1 (s + l) + (p - C) * low l) % p)) := by rw [hr1]; rfl
          rw [← hr1] at hdv
          replace hr1 := Lib.hid hr1
          have hsl : s + l < m + 1 := by omega
          have hc := hdv.out.own.cell (nl_length _ _).symm (i := s + l) (by rw [nl_length]; exact hsl)
          rw [nl_get _ hsl] at hc
          have hf := hdv.out.own.frozen (nl_length _ _).symm (s + l)
          obtain ⟨z, hz⟩ : ∃ z, z = r1 (s + l) := ⟨_, rfl⟩
          have hzp : z < p := by rw [hz]; exact hdv.out.lt _
          rw [← hz] at hc
          obtain ⟨b, off, rfl, hb, hcm⟩ := hr.at_ (k := l) (by rw [nl_length]; exact hlt)
          rw [nl_get _ hlt] at hcm
          have hcm2 := (hdv.out.bw.cell (p := ⟨b, off + l, none⟩) hb).trans hcm
          clear hcm
          obtain ⟨ml, hml⟩ : ∃ ml, ml = low l := ⟨_, rfl⟩
          have hmlp : ml < p := by rw [hml]; exact hl l
          rw [← hml] at hcm2
          obtain ⟨hm1a, hm1b⟩ : (0 : Int) ≤ ((p : Int) - (C : Int)) * (ml : Int) ∧ ((p : Int) - (C : Int)) * (ml : Int) ≤ 65536 := by
            have h1 := Nat.mul_le_mul (Nat.le_trans (Nat.sub_le p C) hp2) (Nat.le_trans (Nat.le_of_lt hmlp) hp2)
            have h2 : (((p - C) * ml : Nat) : Int) = ((p : Int) - (C : Int)) * (ml : Int) := by rw [Int.natCast_mul, Int.natCast_sub (Nat.le_of_lt hCp)]
            omega
          have hset := (hdv.out.set_ hg (s + l) ((r1 (s + l) + (p - C) * low l) % p) (Nat.mod_lt _ (by omega)) (z := ((z : Int) + ((p : Int) - (C : Int)) * (ml : Int)) % (p : Int))
            (by rw [← hz, ← hml, Int.natCast_emod, Int.natCast_add, Int.natCast_mul, Int.natCast_sub (Nat.le_of_lt hCp)])).drew
          rw [← hnl.out] at hset
          replace hset := Lib.hid hset
          clear hdv hz hml hnl
          have hl0 : (l : Int) < (d : Int) := by omega
          have hi0 : (0 : Int) ≤ (s : Int) + (l : Int) := by omega
          have hi1 : (s : Int) + (l : Int) < ((m + 1 : Nat) : Int) := by omega
          have hi1' : (s : Int) + (l : Int) < (m : Int) + 1 := by omega
          have hi2 : ((s : Int) + (l : Int)).toNat = s + l := by omega
          have hpz : ¬ p = 0 := by omega
          have hX0 : 0 ≤ (z : Int) + ((p : Int) - (C : Int)) * (ml : Int) := by omega
          have e1 : IntKind.i64.wrap (s : Int) = (s : Int) := IntWalk.i64_in _ (by omega)
          have e2 : IntKind.i64.wrap ((s : Int) + (l : Int)) = (s : Int) + (l : Int) := IntWalk.i64_in _ (by omega)
          have e3 : IntKind.i64.wrap ((p : Int) - (C : Int)) = (p : Int) - (C : Int) := IntWalk.i64_in _ (by omega)
          have e4 : IntKind.i64.wrap (((p : Int) - (C : Int)) * (ml : Int)) = ((p : Int) - (C : Int)) * (ml : Int) := IntWalk.i64_in _ (by omega)
          have e5 : IntKind.i64.wrap ((z : Int) + ((p : Int) - (C : Int)) * (ml : Int)) = (z : Int) + ((p : Int) - (C : Int)) * (ml : Int) := IntWalk.i64_in _ (by omega)
          have e6 : ((z : Int) + ((p : Int) - (C : Int)) * (ml : Int)).tmod (p : Int) = ((z : Int) + ((p : Int) - (C : Int)) * (ml : Int)) % (p : Int) := Int.tmod_eq_emod_of_nonneg hX0
          go_wp2_with (fail)
          go_still_tail 26, (by kernel_rfl)
          change wpList _ _ _ _ _ wr.drew
          clear e1 e2 e3 e4 e5 e6 hpz hi2
          go_wp2_with (fail)
          go_roundw
          case rel => exact ⟨l + 1, by omega, by go_num, hset⟩
          case measure => simp [intOf]; omega
        · obtain rfl : l = d := by omega
          rw [← hr1] at hdv
          have hc := hdv.out.own.cell (nl_length _ _).symm (i := s + l) (by rw [nl_length]; exact hsd)
          have hf := hdv.out.own.frozen (nl_length _ _).symm (s + l)
          have hset := hdv.out.set_ hg (s + l) 0 (by omega) (z := 0) rfl
          rw [hr1, ← hnext.out] at hset
          replace hset := Lib.hid hset
          clear hdv hr1
          go_wp2_with (fail)
          go_roundw
          case rel => exact ⟨s, t + 1, by omega, by first | rfl | go_num | (congr 1; omega), by have := hst.out; unfold Hid; omega, hset⟩
          case measure => simp [intOf]; omega
end Go.Proofs.Ytnbkmkeiophjoaa
