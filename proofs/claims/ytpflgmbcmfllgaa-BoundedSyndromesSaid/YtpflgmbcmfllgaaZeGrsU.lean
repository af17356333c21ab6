/- The reference: differences. Layer 18 of the reference: Dual. -/
import Derived.IntWalk
import Derived.Test.YtpflgmbcmfllgaaZeRF
import Derived.Test.YtpflgmbcmfllgaaZeGrsT
namespace Go.Proofs.Ytpflgmbcmfllgaa
open Go.RowKit Cw

set_option maxHeartbeats 800000 in
theorem Sub_any (D : Desc) (x y : Int) (A : Option Addr) (n c : Nat) (w : World) :
    Calls Try.prog 103 #[.agg #[.int .i64 D.p, .int .i64 D.m, .slice A n c], .int .i64 x, .int .i64 y] w fun e w' =>
      e = .returned (.int .i64 (ci (eli D x - eli D y))) ∧ Below w.heap.size w w' := by
  have hN := fun w => Lib.hid (Neg_any D y A n c w)
  generalize hz : -(eli D y) = z
  rw [hz] at hN
  have hA := fun w => Lib.hid (Add_any D x (ci z) A n c w)
  have hfin : Hid (ci (eli D x + eli D (ci z)) = ci (eli D x - eli D y)) := by
    show ci (eli D x + eli D (ci z)) = _
    rw [eli_ci, ← hz]; rfl
  clear hz
  have k0 := Lib.hid (alloc3 w (.int .i64 D.p) (.int .i64 D.m) (.slice A n c) 24)
  go_enter Try.func103, Try.ntmps103
  go_wp2
  go_region_held3 (fun w' => w'.cell? ⟨w.heap.size, 0, none⟩ = some (.int .i64 D.p) ∧ w'.cell? ⟨w.heap.size, 1, none⟩ = some (.int .i64 D.m) ∧ w'.cell? ⟨w.heap.size, 2, none⟩ = some (.slice A n c)) (first | exact k0.out | exact k2.out | exact k1.out)
    (first
      | (go_at_call 26; refine (hN _).out.mono ?_; rintro e w1 ⟨rfl, hb1⟩; have k1 := Lib.hid (keep3 (b := w.heap.size) hb1 (by simp) k0.out); have hs1 := hb1.size; simp only [World.drew, World.size_alloc] at hs1)
      | (go_at_call 71; refine (hA _).out.mono ?_; rintro e w2 ⟨rfl, hb2⟩; have k2 := Lib.hid (keep3 (b := w.heap.size) hb2 (by omega) k1.out)))
  go_wp2
  go_ret
  exact ⟨ret_int hfin.out, ((((Below.refl _ _).alloc (Nat.le_refl _) _).drew).trans (hb1.mono (by simp))).trans (hb2.mono (by omega))⟩
end Go.Proofs.Ytpflgmbcmfllgaa

namespace Go.Proofs.Ytpflgmbcmfllgaa
open Go.RowKit Cw
open Cw.CField (inv)

set_option maxRecDepth 100000 in
set_option maxHeartbeats 4000000 in
theorem Dual18_any (F : FD) (K : Int) (pts mul : List Int) (A A1 A2 : Option Addr) (c c1 c2 : Nat) (w : World) (hr : Rd w w.heap.size A (modL F.toDesc)) (hr1 : Rd w w.heap.size A1 pts) (hr2 : Rd w w.heap.size A2 mul)
    (hlen : mul.length = pts.length) (hl : pts.length ≤ 64) (hK0 : 0 ≤ K) (hKn : K ≤ (pts.length : Int)) :
    Calls Try.prog 52 #[.agg #[.int .i64 F.p, .int .i64 F.m, .slice A F.mod.length c, .int .i64 K, .slice A1 pts.length c1, .slice A2 mul.length c2]] w fun e w' => ∃ g, e = .returned (.agg #[.int .i64 F.p, .int .i64 F.m, .slice A F.mod.length c, .int .i64 ((pts.length : Int) - K), .slice A1 pts.length c1, .slice (some ⟨g, 0, none⟩) pts.length pts.length]) ∧
      Rd w' w'.heap.size (some ⟨g, 0, none⟩) (dualL F pts mul) ∧ Below w.heap.size w w' := by
  have hM := fun y z W hr => Lib.hid (Mul_any F.toDesc y z A c W hr)
  have hSb := fun y z W => Lib.hid (Sub_any F.toDesc y z A F.mod.length c W)
  have hIv := fun y W hr => Lib.hid (Inv_any F y A c W hr)
  have hmk := mk_ints pts.length (by omega)
  obtain ⟨Z, hZ⟩ : ∃ Z, Z = (w.alloc (.cells #[.int .i64 F.p, .int .i64 F.m, .slice A F.mod.length c, .int .i64 K, .slice A1 pts.length c1, .slice A2 mul.length c2] 49)).alloc (.cells #[.int .i64 0, .int .i64 0, .slice none 0 0, .int .i64 0, .slice none 0 0, .slice none 0 0] 49) := ⟨_, rfl⟩
  have hB : Below w.heap.size w Z := by rw [hZ]; exact ((Below.refl _ _).alloc (Nat.le_refl _) _).alloc (by simp) _
  have hZs : Z.heap.size = w.heap.size + 2 := by rw [hZ]; simp
  have kz : Z.cell? ⟨w.heap.size, 0, none⟩ = some (.int .i64 F.p) ∧ Z.cell? ⟨w.heap.size, 1, none⟩ = some (.int .i64 F.m) ∧ Z.cell? ⟨w.heap.size, 2, none⟩ = some (.slice A F.mod.length c) ∧ Z.cell? ⟨w.heap.size, 3, none⟩ = some (.int .i64 K) ∧ Z.cell? ⟨w.heap.size, 4, none⟩ = some (.slice A1 pts.length c1) ∧ Z.cell? ⟨w.heap.size, 5, none⟩ = some (.slice A2 mul.length c2) := by rw [hZ]; simp [go_sem]
  have sz : Six Z (w.heap.size + 1) (.int .i64 0) (.int .i64 0) (.slice none 0 0) (.int .i64 0) (.slice none 0 0) (.slice none 0 0) := by
    rw [hZ]; have := Six.new (w.alloc (.cells #[.int .i64 F.p, .int .i64 F.m, .slice A F.mod.length c, .int .i64 K, .slice A1 pts.length c1, .slice A2 mul.length c2] 49)) (.int .i64 0) (.int .i64 0) (.slice none 0 0) (.int .i64 0) (.slice none 0 0) (.slice none 0 0) 49; rw [World.size_alloc] at this; exact this
  obtain ⟨Y, hY⟩ : ∃ Y, Y = Z.alloc (.cells (Array.replicate pts.length (Value.int .i64 0)) 3) := ⟨_, rfl⟩
  obtain ⟨gW, hgW⟩ : ∃ gW, gW = w.heap.size + 1 + 1 := ⟨_, rfl⟩
  have hib : IB Y gW (upd pts.length 0 (dualV F pts mul)) := by
    rw [upd_zero, hY, hgW, show w.heap.size + 1 + 1 = Z.heap.size by omega]; exact IB.newz Z pts.length
  have hbY : Below Z.heap.size Z Y := by rw [hY]; exact (Below.refl _ _).alloc (Nat.le_refl _) _
  have hYs : gW < Y.heap.size := by rw [hY, World.size_alloc]; omega
  have kY := Lib.hid (keep6 hbY (by omega) kz)
  have sY := Lib.hid (sz.keep hbY (by omega))
  have hBY := hB.trans (hbY.mono hB.size)
  have hlenH := Lib.hid hlen
  rw [hZ] at hY
  replace hY := Lib.hid hY
  have hgW1 : w.heap.size + 1 < gW := by omega
  replace hib := Lib.hid hib
  clear hlen kz sz hbY hB hZs hZ
  go_enter Try.func52, Try.ntmps52
  go_wp2_with (fail)
  rw [← hY.out]
  simp only [← hgW]
  replace hgW := Lib.hid hgW
  go_loopw [5, 6, 7] (fun i _ _ wr => ∃ k : Nat, k ≤ pts.length ∧ i = .int .i64 k ∧ Hid (wr.cell? ⟨w.heap.size, 0, none⟩ = some (.int .i64 F.p) ∧ wr.cell? ⟨w.heap.size, 1, none⟩ = some (.int .i64 F.m) ∧ wr.cell? ⟨w.heap.size, 2, none⟩ = some (.slice A F.mod.length c) ∧ wr.cell? ⟨w.heap.size, 3, none⟩ = some (.int .i64 K) ∧ wr.cell? ⟨w.heap.size, 4, none⟩ = some (.slice A1 pts.length c1) ∧ wr.cell? ⟨w.heap.size, 5, none⟩ = some (.slice A2 mul.length c2)) ∧ Hid (Six wr (w.heap.size + 1) (.int .i64 0) (.int .i64 0) (.slice none 0 0) (.int .i64 0) (.slice none 0 0) (.slice none 0 0)) ∧ Hid (IB wr gW (upd pts.length k (dualV F pts mul))) ∧ Below w.heap.size w wr ∧ gW < wr.heap.size) (fun i _ _ _ => pts.length - (intOf i).toNat)
  case atStart => exact ⟨0, by omega, rfl, kY, sY, hib, hBY, hYs⟩
  case round =>
    clear kY sY hib hBY hYs
    obtain ⟨wo, rfl⟩ : ∃ wo : World, wo = wr := ⟨_, rfl⟩
    obtain ⟨k, hk, rfl, kk, sx, hib, hBw, hgo⟩ := hrel
    have hlto : w.heap.size < wo.heap.size := by omega
    by_cases hkn : k < pts.length
    · obtain ⟨b1, o1, rfl, hbb1, hc1⟩ := hr1.at_ hkn
      obtain ⟨b2, o2, rfl, hbb2, hc2⟩ := hr2.at_ (by rw [hlenH.out]; exact hkn : k < mul.length)
      have hd1 := (hBw.cell (p := ⟨b1, o1 + k, none⟩) hbb1).trans hc1
      have hd2 := (hBw.cell (p := ⟨b2, o2 + k, none⟩) hbb2).trans hc2
      obtain ⟨x, hx⟩ : ∃ x, x = pts[k]?.getD 0 := ⟨_, rfl⟩
      obtain ⟨y, hy⟩ : ∃ y, y = mul[k]?.getD 0 := ⟨_, rfl⟩
      rw [← hx] at hd1
      rw [← hy] at hd2
      replace hx := Lib.hid hx
      replace hy := Lib.hid hy
      have hk0 : (0 : Int) ≤ (k : Int) := by omega
      have hk1 : (k : Int) < (pts.length : Int) := by omega
      have hk2 : (k : Int) < (mul.length : Int) := by rw [hlenH.out]; exact hk1
      replace hd1 := Lib.hid hd1
      clear hc1 hc2
      obtain ⟨q0, q1, q2, q3, q4, q5⟩ := kk.out
      go_wp2_with (fail)
      clear q0 q1 q2 q3 q4 q5 hd2
      go_loopw [7, 6] (fun j' y' wr => ∃ (j : Nat) (z : Int), j ≤ pts.length ∧ j' = .int .i64 j ∧ y' = .int .i64 z ∧ Hid (eli F.toDesc z = dprod F.toDesc pts k (eli F.toDesc y) j) ∧ Below wo.heap.size wo wr) (fun j' _ _ => pts.length - (intOf j').toNat)
      case atStart => exact ⟨0, y, by omega, rfl, rfl, rfl, Below.refl _ _⟩
      case round =>
        obtain ⟨wi, rfl⟩ : ∃ wi : World, wi = wr := ⟨_, rfl⟩
        obtain ⟨j, z, hj, rfl, rfl, hz, hbi⟩ := hrel
        have hbi1 := hBw.trans (hbi.mono hBw.size)
        have hri := (hr.below hbi1).more hbi1.size
        have kki := keep6 hbi hlto kk.out
        have hlti : w.heap.size < wi.heap.size := Nat.lt_of_lt_of_le hlto hbi.size
        by_cases hjn : j < pts.length
        · obtain ⟨b1', o1', ee, hbb1', hc1⟩ := hr1.at_ hjn
          cases ee
          have hd3 := (hbi1.cell (p := ⟨b1, o1 + j, none⟩) hbb1').trans hc1
          have hd1i := (hbi.cell (p := ⟨b1, o1 + k, none⟩) (Nat.lt_of_lt_of_le hbb1 hBw.size)).trans hd1.out
          obtain ⟨xj, hxj⟩ : ∃ xj, xj = pts[j]?.getD 0 := ⟨_, rfl⟩
          rw [← hxj] at hd3
          replace hxj := Lib.hid hxj
          have hj0 : (0 : Int) ≤ (j : Int) := by omega
          have hj1 : (j : Int) < (pts.length : Int) := by omega
          clear hc1
          by_cases hjk : j = k
          · have hjb : ((j : Int) != (k : Int)) = false := by rw [bne_eq_false_iff_eq]; omega
            have hz2 : Hid (eli F.toDesc z = dprod F.toDesc pts k (eli F.toDesc y) (j + 1)) := by unfold Hid; rw [hz.out, hjk, dprod_self]
            clear hjk hz
            go_wp2_with (fail)
            go_roundw
            case rel => exact ⟨j + 1, z, by omega, by go_num, rfl, hz2, hbi⟩
            case measure => simp [intOf]; omega
          · have hjb : ((j : Int) != (k : Int)) = true := by rw [bne_iff_ne]; omega
            have hS := hSb x xj
            have hM1 := fun W h => (hM z (ci (eli F.toDesc x - eli F.toDesc xj)) W h).out
            rw [eli_ci] at hM1
            have hz2 : Hid (eli F.toDesc z * (eli F.toDesc x - eli F.toDesc xj) = dprod F.toDesc pts k (eli F.toDesc y) (j + 1)) := by unfold Hid; rw [hz.out, dprod_other _ _ _ hjk, hx.out, hxj.out]
            rw [hz2.out] at hM1
            replace hM1 := fun W h => Lib.hid (hM1 W h)
            have kk8 := Lib.hid (show _ ∧ _ ∧ _ ∧ _ ∧ _ ∧ _ ∧ _ ∧ _ from ⟨kki.1, kki.2.1, kki.2.2.1, kki.2.2.2.1, kki.2.2.2.2.1, kki.2.2.2.2.2, hd1i, hd3⟩)
            have hb1' := Nat.lt_of_lt_of_le hbb1 hbi1.size
            clear hjk hz kki hd1i hd3
            go_wp2_with (fail)
            go_region_held3 (fun w' => w'.cell? ⟨w.heap.size, 0, none⟩ = some (.int .i64 F.p) ∧ w'.cell? ⟨w.heap.size, 1, none⟩ = some (.int .i64 F.m) ∧ w'.cell? ⟨w.heap.size, 2, none⟩ = some (.slice A F.mod.length c) ∧ w'.cell? ⟨w.heap.size, 3, none⟩ = some (.int .i64 K) ∧ w'.cell? ⟨w.heap.size, 4, none⟩ = some (.slice (some ⟨b1, o1, none⟩) pts.length c1) ∧ w'.cell? ⟨w.heap.size, 5, none⟩ = some (.slice (some ⟨b2, o2, none⟩) mul.length c2) ∧ w'.cell? ⟨b1, o1 + k, none⟩ = some (.int .i64 x) ∧ w'.cell? ⟨b1, o1 + j, none⟩ = some (.int .i64 xj)) (first | exact kk8.out | exact kk9.out | exact kk10.out)
              (first
                | (go_at_call 103; (with_reducible refine (hS _).out.mono ?_); rintro e w5 ⟨rfl, hb5⟩; have kk9 := Lib.hid (keep8 hb5 hlti hb1' hb1' kk8.out); have hs5 : wi.heap.size ≤ w5.heap.size := hb5.size; have hB5 := hbi1.drew.trans (hb5.mono hbi1.size); have hM2 := hM1 w5 ((hr.below hB5).more hB5.size))
                | (go_at_call 72; (with_reducible refine hM2.out.mono ?_); rintro e w6 ⟨rfl, hb6⟩; have kk10 := Lib.hid (keep8 hb6 (Nat.lt_of_lt_of_le hlti hs5) (Nat.lt_of_lt_of_le hb1' hs5) (Nat.lt_of_lt_of_le hb1' hs5) kk9.out)))
            go_wp2_with (fail)
            go_roundw
            case rel => exact ⟨j + 1, _, by omega, by go_num, rfl, by unfold Hid; exact eli_ci _, (hbi.drew.trans (hb5.mono hbi.size)).trans (hb6.mono (Nat.le_trans hbi.size hs5))⟩
            case measure => simp [intOf]; omega
        · obtain rfl : j = pts.length := by omega
          have hval : ci (inv (eli F.toDesc z)) = dualV F pts mul k := by unfold dualV; rw [hz.out, hy.out]
          have hI := fun W h => (hIv z W h).out
          rw [hval] at hI
          have hI2 := Lib.hid (hI wi hri)
          obtain ⟨dv, hdv⟩ : ∃ dv, dv = dualV F pts mul k := ⟨_, rfl⟩
          rw [← hdv] at hI2
          have hibi := hib.out.below hbi hgo
          have hgi : gW < wi.heap.size := Nat.lt_of_lt_of_le hgo hbi.size
          have sxi := sx.out.keep hbi (by omega)
          replace hibi := Lib.hid hibi
          replace hdv := Lib.hid hdv
          replace sxi := Lib.hid sxi
          clear hval hz hI
          have kkiH := Lib.hid kki
          obtain ⟨q0, q1, q2, q3, q4, q5⟩ := kki
          go_wp2_with (fail)
          (with_reducible refine hI2.out.mono ?_)
          rintro e w5 ⟨rfl, hb5⟩
          have hib5 := hibi.out.below hb5 hgi
          have hcW := hib5.cell (i := k) (by rw [upd_length]; exact hkn)
          have hfW := hib5.frozen k
          have hset := hib5.set_ k dv
          rw [hdv.out, upd_set, ← hdv.out] at hset
          have hb56 : Below gW w5 (w5.setCell ⟨gW, k, none⟩ (.int .i64 dv)) := (Below.refl _ _).setCell (p := ⟨gW, k, none⟩) (Nat.le_refl _) _
          have hg5 : gW < w5.heap.size := Nat.lt_of_lt_of_le hgi hb5.size
          have kk6 := Lib.hid (keep6 hb56 (by omega) (keep6 hb5 hlti kkiH.out))
          have sx6 := Lib.hid ((sxi.out.keep hb5 (by omega)).keep hb56 hgW1)
          have hB6 := (hbi1.trans (hb5.mono hbi1.size)).trans (hb56.mono (by omega))
          have hs6 : gW < (w5.setCell ⟨gW, k, none⟩ (.int .i64 dv)).heap.size := Nat.lt_of_lt_of_le hg5 (grown_set _ _ _).size
          replace hset := Lib.hid hset
          clear q0 q1 q2 q3 q4 q5
          go_wp2_with (fail)
          go_roundw
          case rel => exact ⟨k + 1, by omega, by go_num, kk6, sx6, hset, hB6, hs6⟩
          case measure => simp [intOf]; omega
    · obtain rfl : k = pts.length := by omega
      obtain ⟨q0, q1, q2, q3, q4, q5⟩ := kk.out
      obtain ⟨p0, p1, p2, p3, p4, p5, e0, e1, e2, e3, e4, e5⟩ := sx.out
      have hwr := (IntWalk.i64_in ((pts.length : Int) - K) (by omega))
      have hib2 := hib.out
      rw [upd_full] at hib2
      replace hib2 := Lib.hid hib2
      go_wp2_with (fail)
      refine bodyPost_ret (v := .agg #[.int .i64 F.p, .int .i64 F.m, .slice A F.mod.length c, .int .i64 ((pts.length : Int) - K), .slice A1 pts.length c1, .slice (some ⟨gW, 0, none⟩) pts.length pts.length]) (by simp [results, Try.results52, go_sem, p0, p1, p2, p3, p4, p5]) rfl ⟨gW, rfl, ?_, hBw.trans ((set6 _ _ _ _ _ _).mono (Nat.le_succ _))⟩
      have hrd : Rd wo wo.heap.size (some ⟨gW, 0, none⟩) (dualL F pts mul) := hib2.out.rd
      exact (hrd.set6 (fun a e => by cases e; show gW ≠ _; omega) _ _ _ _ _ _).more (by simp [World.setCell])
end Go.Proofs.Ytpflgmbcmfllgaa
