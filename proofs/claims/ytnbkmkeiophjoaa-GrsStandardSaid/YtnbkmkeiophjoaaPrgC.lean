/- The program's product of two residues. -/
import Derived.Test.YtnbkmkeiophjoaaPrgB
import Derived.Laws.CopyOwn
import Derived.StillTailTactics
namespace Go.Proofs.Ytnbkmkeiophjoaa
open Go.RowKit Cw

theorem digitsOf_ci (D : Desc) (u : R D) (w : World) : Calls Try.prog 142 #[.int .i64 (ci u), .int .i64 D.p, .int .i64 D.m] w fun e w' =>
    ∃ g, e = .returned (.slice (some ⟨g, 0, none⟩) D.m D.m) ∧ w.heap.size ≤ g ∧ IB w' g (dl u) ∧ Below w.heap.size w w' := by
  have hp0 := D.p2; have hp1 := D.p256; have hp2 := D.m8
  have hl := ci_le u
  have hy := ci_toNat u
  have h := digitsOf_any (rcode u) D.p D.m w (by omega) (by omega) (by omega) (by have := rcode_lt u; have := D.q256; omega)
  rw [show lst D.m (dgi D.p (rcode u)) = dl u from lst_congr fun i hi => by unfold dgi; rw [di_rcode _ hi]] at h
  refine h.mono ?_
  rintro e w' ⟨g, rfl, h1, h2, h3⟩
  have hl : (dl u).length = D.m := lst_length _ _
  rw [hl]
  exact ⟨g, rfl, h1, h2, h3⟩

/-- The list shifted by one place. -/
def shl {D : Desc} (h : R D) : List Int := lst D.m fun j => if j = 0 then 0 else (di h (j - 1) : Nat)
/-- One step of Horner's rule. -/
def hstep {D : Desc} (h u : R D) (b : Nat) : R D := T h + sc (zp D.p b) * u
theorem hstep_di {D : Desc} (h u : R D) (b : Nat) {j : Nat} (hj : j < D.m) :
    di (hstep h u b) j = ((if j = 0 then 0 else di h (j - 1)) + (D.p - di h (D.m - 1)) * D.mod.getD j 0 + b * di u j) % D.p := by
  have hlt := di_lt h (D.m - 1)
  rw [← zp_val (p := D.p)]
  unfold di hstep
  congr 1
  show (T h).v j + (sc (zp D.p b) * u).v j = _
  rw [sc_mul_v _ _ hj, T_v hj, zp_add, zp_add, zp_mul, zp_mul, zp_neg (Nat.le_of_lt (Zp.lt _)), zp_of_val, zp_of_val]
  congr 1
  rw [sub_d, neg_mul]
  congr 1
  by_cases e : j = 0
  · rw [if_pos e, if_pos e]; rfl
  · rw [if_neg e, if_neg e, zp_of_val]
/-- Horner's values, from the top. -/
def hor {D : Desc} (u v : R D) : Nat → R D
  | 0 => 0
  | k+1 => hstep (hor u v k) u (di v (D.m - 1 - k))
theorem hor_eq {D : Desc} (u v : R D) : ∀ k, k ≤ D.m → hor u v k * pw (Xc D) (D.m - k) + u * ev D (di v) (D.m - k) = u * v
  | 0, _ => by rw [Nat.sub_zero, ev_digits]; show 0 * _ + _ = _; rw [zero_mul, zero_add]
  | k+1, hk => by
    have ih := hor_eq u v k (by omega)
    obtain ⟨t, ht⟩ : ∃ t, D.m - k = t + 1 := ⟨D.m - k - 1, by omega⟩
    rw [ht, ev_succ, pw_succ] at ih
    rw [show D.m - (k + 1) = t by omega, ← ih]
    show (T (hor u v k) + sc (zp D.p (di v (D.m - 1 - k))) * u) * pw (Xc D) t + _ = _
    rw [show D.m - 1 - k = t by omega, T_eq, add_mul, mul_add]
    show hor u v k * Xc D * pw (Xc D) t + _ + _ = _
    ac_rfl
theorem hor_full {D : Desc} (u v : R D) : hor u v D.m = u * v := by
  have h := hor_eq u v D.m (Nat.le_refl _)
  rw [Nat.sub_self, pw_zero, mul_one] at h
  show hor u v D.m = u * v
  rw [← h]
  show _ = _ + u * rsum 0 _
  rw [rsum_zero, mul_zero, add_zero]

structure MuSt (D : Desc) (u v : R D) (A : Option Addr) (n c g1 g2 g3 : Nat) (w : World) (l : List Int) (wr : World) : Prop where
  i1 : IB wr g1 (dl u)
  i2 : IB wr g2 (dl v)
  i3 : IB wr g3 l
  bw : Below w.heap.size w wr
  bx : wr.cell? ⟨w.heap.size, 0, none⟩ = some (.int .i64 D.p) ∧ wr.cell? ⟨w.heap.size, 1, none⟩ = some (.int .i64 D.m) ∧ wr.cell? ⟨w.heap.size, 2, none⟩ = some (.slice A n c)
theorem MuSt.set_ {D : Desc} {u v : R D} {A : Option Addr} {n c g1 g2 g3 : Nat} {w wr : World} {l : List Int} (h : MuSt D u v A n c g1 g2 g3 w l wr)
    (h1 : w.heap.size < g1) (h2 : g1 < g2) (h3 : g2 < g3) (k : Nat) (z : Int) : MuSt D u v A n c g1 g2 g3 w (l.set k z) (wr.setCell ⟨g3, k, none⟩ (.int .i64 z)) where
  i1 := h.i1.far (p := ⟨g3, k, none⟩) (by show g1 ≠ g3; omega) _
  i2 := h.i2.far (p := ⟨g3, k, none⟩) (by show g2 ≠ g3; omega) _
  i3 := h.i3.set_ k z
  bw := h.bw.setCell (p := ⟨g3, k, none⟩) (by show w.heap.size ≤ g3; omega) _
  bx := keep3 (B := w.heap.size + 1) ((Below.refl _ _).setCell (p := ⟨g3, k, none⟩) (by show w.heap.size + 1 ≤ g3; omega) _) (by omega) h.bx
theorem MuSt.drew {D : Desc} {u v : R D} {A : Option Addr} {n c g1 g2 g3 : Nat} {w wr : World} {l : List Int} (h : MuSt D u v A n c g1 g2 g3 w l wr) : MuSt D u v A n c g1 g2 g3 w l wr.drew :=
  ⟨h.i1, h.i2, h.i3, h.bw.drew, h.bx⟩

theorem sizeInt : (Try.prog.info? 3).map (·.size) = some 1 := by kernel_rfl
theorem copy_len {D : Desc} (h : R D) : (((dl h).take (D.m - 1)).map (Value.int .i64)).length = Nat.min (D.m - 1) (D.m - 1) := by
  rw [List.length_map, List.length_take, show (dl h).length = D.m from lst_length _ _]
  show min (D.m - 1) D.m = min (D.m - 1) (D.m - 1)
  omega
theorem copy_fit {D : Desc} (h : R D) : 1 + (((dl h).take (D.m - 1)).map (Value.int .i64)).length ≤ ((dl h).map (Value.int .i64)).length := by
  have := D.m1
  rw [List.length_map, List.length_take, List.length_map, show (dl h).length = D.m from lst_length _ _]; omega
theorem copy_src {D : Desc} (h : R D) {w : World} {g : Nat} (hi : IB w g (dl h)) : 0 < (((dl h).take (D.m - 1)).map (Value.int .i64)).length →
    some (⟨g, 1, none⟩ : Addr) = some ⟨g, 1, none⟩ ∧ ∃ ad, some (⟨g, 0, none⟩ : Addr) = some ad ∧ ∀ j v, (((dl h).take (D.m - 1)).map (Value.int .i64))[j]? = some v → w.cell? (ad.add j) = some v := fun _ => by
  refine ⟨rfl, _, rfl, fun j v hv => ?_⟩
  rw [List.getElem?_map, List.getElem?_take] at hv
  by_cases hj : j < D.m - 1
  · rw [if_pos hj] at hv
    have hl : j < (dl h).length := by rw [show (dl h).length = D.m from lst_length _ _]; omega
    have hc := hi.cell hl
    rw [List.getElem?_eq_getElem hl] at hv hc
    have hv2 : Value.int .i64 ((dl h)[j]) = v := by simpa using hv
    rw [← hv2]
    have e : (⟨g, 0, none⟩ : Addr).add j = ⟨g, j, none⟩ := by unfold Addr.add; split <;> simp_all
    rw [e, hc]; rfl
  · rw [if_neg hj] at hv; simp at hv
theorem copy_splice {D : Desc} (h : R D) : splice ((dl h).map (Value.int .i64)) 1 (((dl h).take (D.m - 1)).map (Value.int .i64)) =
    (lst D.m fun j => if j = 0 then (di h 0 : Nat) else (di h (j - 1) : Nat)).map (Value.int .i64) := by
  have hm := D.m1
  unfold splice dl
  rw [lst_take _ (by omega), ← List.map_take, ← List.map_drop, ← List.map_append, ← List.map_append]
  congr 1
  apply List.ext_getElem
  · simp [lst]; omega
  · intro i h1 h2
    have hi : i < D.m := by simpa [lst] using h2
    simp only [lst, List.getElem_append, List.getElem_map, List.getElem_range, List.length_take, List.length_map, List.length_range, List.getElem_take, List.getElem_drop]
    by_cases e : i = 0
    · subst e; simp [hm]
    · rw [if_neg e]
      have h3 : i - min 1 D.m < D.m - 1 := by omega
      have h4 : min 1 D.m = 1 := by omega
      have h5 : i < min 1 D.m + (D.m - 1) := by omega
      have h6 : ¬ i < min 1 D.m := by omega
      simp only [h4]
      rw [dif_neg (by omega), dif_pos (by omega)]
theorem MuSt.copied {D : Desc} {u v : R D} {A : Option Addr} {n c g1 g2 g3 : Nat} {w wr w' : World} {l l' : List Int} (h : MuSt D u v A n c g1 g2 g3 w l wr)
    (h1 : w.heap.size < g1) (h2 : g1 < g2) (h3 : g2 < g3) (hb : Below g3 wr w') (hi : IB w' g3 l') : MuSt D u v A n c g1 g2 g3 w l' w' where
  i1 := h.i1.below hb (by omega)
  i2 := h.i2.below hb h3
  i3 := hi
  bw := h.bw.trans (hb.mono (by omega))
  bx := keep3 hb (by omega) h.bx

set_option maxRecDepth 100000 in
set_option maxHeartbeats 4000000 in
theorem multiply_two (D : Desc) (hm : 2 ≤ D.m) (u v : R D) (A : Option Addr) (c : Nat) (w : World) (hr : Rd w w.heap.size A (modL D)) :
    Calls Try.prog 129 #[.agg #[.int .i64 D.p, .int .i64 D.m, .slice A D.mod.length c], .int .i64 (ci u), .int .i64 (ci v)] w fun e w' =>
      e = .returned (.int .i64 (ci (u * v))) ∧ Below w.heap.size w w' := by
  have hp0 := D.p2; have hp1 := D.p256; have hp2 := D.m8
  have hml : D.mod.length = D.m := by have := D.hlen; rw [if_neg (by omega)] at this; exact this
  have hml1 : D.mod.length ≤ D.m := by omega
  have hml2 : D.m ≤ D.mod.length := by omega
  clear hml
  have hDx := fun w => Lib.hid (digitsOf_ci D u w)
  have hDy := fun w => Lib.hid (digitsOf_ci D v w)
  have hmk := mk_ints D.m (by omega)
  have k0 := Lib.hid (alloc3 w (.int .i64 D.p) (.int .i64 D.m) (.slice A D.mod.length c) 24)
  have hl1 : (dl u).length = D.m := lst_length _ _
  have hl2 : (dl v).length = D.m := lst_length _ _
  have hl1H := Lib.hid hl1
  have hl2H := Lib.hid hl2
  clear hl1 hl2
  go_enter Try.func129, Try.ntmps129
  go_wp2_with (fail)
  go_region_held3 (fun w' => w'.cell? ⟨w.heap.size, 0, none⟩ = some (.int .i64 D.p) ∧ w'.cell? ⟨w.heap.size, 1, none⟩ = some (.int .i64 D.m) ∧ w'.cell? ⟨w.heap.size, 2, none⟩ = some (.slice A D.mod.length c)) (first | exact k0.out | exact k1.out | exact k2.out)
    (first
      | (go_at_call 142; refine (hDx _).out.mono ?_; clear hDx; rintro e w1 ⟨g1, rfl, hg1, hib1, hb1⟩; have k1 := Lib.hid (keep3 (b := w.heap.size) hb1 (by simp) k0.out); have hs1 := hb1.size; simp only [World.drew, World.size_alloc] at hs1 hg1)
      | (go_at_call 142; refine (hDy _).out.mono ?_; rintro e w2 ⟨g2, rfl, hg2, hib2, hb2⟩; have k2 := Lib.hid (keep3 (b := w.heap.size) hb2 (by omega) k1.out)))
  have hs2 := hb2.size
  have hg1l := hib1.lt
  have hg2l := hib2.lt
  have hib1' := hib1.below hb2 (by omega)
  have hbw2 : Below w.heap.size w w2 := ((((Below.refl _ _).alloc (Nat.le_refl _) _).drew).trans (hb1.mono (by simp))).trans (hb2.mono (by omega))
  have hb0 : w.heap.size < g1 := by omega
  have hne : g1 < g2 := by omega
  have hst : Hid (MuSt D u v A D.mod.length c g1 g2 w2.heap.size w (dl (hor u v 0)) (w2.alloc (.cells (Array.replicate D.m (Value.int .i64 0)) 3))) :=
    ⟨hib1'.alloc _, hib2.alloc _, by
      have := IB.newz w2 D.m; rw [lst_zero] at this
      have e : dl (hor u v 0) = lst D.m fun _ => 0 := lst_congr fun i hi => rfl
      rw [e]; exact this, hbw2.alloc (by omega) _, keep3 (B := w2.heap.size) ((Below.refl _ _).alloc (Nat.le_refl _) _) (by omega) k2.out⟩
  have hne2 : g2 < w2.heap.size := hg2l
  have kc := k2.out
  obtain ⟨kc0, kc1, kc2⟩ := kc
  have hlt0 : w.heap.size < w2.heap.size := by omega
  clear hib1 hb1 hb2 k1 k0 hib2 hib1' hbw2
  go_wp2_with (fail)
  clear kc0 kc1 kc2 k2 hmk
  generalize w2.heap.size = g3 at *
  go_loopw [10, 11, 12, 13, 54] (fun i _ _ _ _ wr => ∃ t k : Nat, t ≤ D.m ∧ i = .int .i64 ((t : Int) - 1) ∧ Hid (t + k = D.m) ∧ Hid (MuSt D u v A D.mod.length c g1 g2 g3 w (dl (hor u v k)) wr)) (fun i _ _ _ _ _ => (intOf i + 1).toNat)
  case atStart => exact ⟨D.m, 0, by omega, rfl, by simp [Hid], hst⟩
  case round =>
    obtain ⟨t, k, ht, rfl, htk, hms⟩ := hrel
    obtain ⟨kc0, kc1, kc2⟩ := hms.out.bx
    cases t with
    | zero =>
      have hfin : Hid (hor u v k = u * v) := by
        have : k = D.m := by have := htk.out; omega
        unfold Hid; rw [this, hor_full]
      have hV := Lib.hid (valueOf_any D.p D.m (di (u * v)) (some ⟨g3, 0, none⟩) D.m wr (by omega) hp1 hp2 (fun i _ => di_lt _ i) D.hq
        (by have h4 := hms.out.i3.rd; rw [hfin.out] at h4; exact h4))
      have hbw := hms.out.bw
      clear hms hfin htk
      go_wp2_with (fail)
      refine hV.out.mono ?_
      rintro e w4 ⟨rfl, rfl⟩
      go_wp2_with (fail)
      go_ret
      exact ⟨rfl, hbw⟩
    | succ s =>
      rw [show ((s + 1 : Nat) : Int) - 1 = (s : Int) by omega]
      obtain ⟨h, hh⟩ : ∃ h, h = hor u v k := ⟨_, rfl⟩
      rw [← hh] at hms
      replace hh := Lib.hid hh
      have hsm : s < D.m := by omega
      obtain ⟨tp, htp⟩ : ∃ tp, tp = di h (D.m - 1) := ⟨_, rfl⟩
      have htpp : tp < D.p := by rw [htp]; exact di_lt _ _
      obtain ⟨bs, hbs⟩ : ∃ bs, bs = di v s := ⟨_, rfl⟩
      have hbsp : bs < D.p := by rw [hbs]; exact di_lt _ _
      have hct := hms.out.i3.cell (i := D.m - 1) (by rw [show (dl h).length = D.m from lst_length _ _]; omega)
      unfold dl at hct
      rw [lst_get _ (by omega), ← htp] at hct
      replace htp := Lib.hid htp
      replace hbs := Lib.hid hbs
      have hm0 : D.m - 1 < D.m := by omega
      go_wp2_with (fail)
      have hd1 : (1 : Int) ≤ (D.m : Int) := by omega
      have hd2 : (0 : Int) ≤ (D.m : Int) - 1 := by omega
      have hd3 : (D.m : Int) - 1 ≤ (D.m : Int) := by omega
      have hd4 : ((D.m : Int) - 1).toNat = D.m - 1 := by omega
      have hd5 : ¬ D.m = 1 := by omega
      have e1 : IntKind.i64.wrap ((D.m : Int) - 1) = (D.m : Int) - 1 := IntWalk.i64_in _ (by omega)
      go_still_tail 7, (by kernel_rfl)
      change wpList _ _ _ _ _ wr.drew
      clear e1 hd4 hd5
      refine wpList_copy_splice rfl (.tmp 43) (.tmp 48) 22 22 rfl 3 Try.underlying22 sizeInt (some ⟨g3, 1, none⟩) (some ⟨g3, 0, none⟩) (D.m - 1) (D.m - 1) (D.m - 1) D.m rfl rfl g3 1 ((dl h).map (Value.int .i64)) 3 hms.out.drew.i3
        (((dl h).take (D.m - 1)).map (Value.int .i64)) (copy_len h) (copy_src h hms.out.drew.i3) (copy_fit h) (by intro x hx; obtain ⟨y, _, rfl⟩ := List.mem_map.1 hx; rfl) g3 wr.drew (Below.refl _ _) (Nat.le_refl _) ?_
      intro w4 hg4 hb4
      have hms4 := Lib.hid (hms.out.drew.copied hb0 hne hne2 hb4 (by have := hg4.out; rw [copy_splice] at this; exact this))
      clear hg4 hb4 hms kc0 kc1 kc2 hct
      obtain ⟨kc0, kc1, kc2⟩ := hms4.out.bx
      have hf := hms4.out.i3.frozen 0
      have hc0 := hms4.out.i3.cell (i := 0) (by rw [lst_length]; omega)
      have hms3 := Lib.hid (hms4.out.set_ hb0 hne hne2 0 0)
      replace hms3 : Hid (MuSt D u v A D.mod.length c g1 g2 g3 w (lst D.m (fun j => if j = 0 then 0 else (di h (j - 1) : Nat))) (w4.setCell ⟨g3, 0, none⟩ (.int .i64 0))) := by
        have h5 := hms3.out
        rw [lst_set] at h5
        rw [show (fun j => if j = 0 then (0 : Int) else ((di h (j - 1) : Nat) : Int)) = fun j => if j = 0 then (0 : Int) else if j = 0 then ((di h 0 : Nat) : Int) else ((di h (j - 1) : Nat) : Int) from funext fun j => by by_cases e : j = 0 <;> simp [e]]
        exact h5
      clear hms4
      have hm0 : 0 < D.m := by omega
      go_wp2_with (fail)
      clear hf hc0 kc0 kc1 kc2
      have hmb : decide ((1 : Int) < (D.m : Int)) = true := decide_eq_true (by omega)
      go_loopw [12, 13, 54] (fun _ _ i wr => ∃ l : Nat, l ≤ D.m ∧ i = .int .i64 l ∧ Hid (MuSt D u v A D.mod.length c g1 g2 g3 w (mix D.m l (fun j => (di (hstep h u bs) j : Nat)) (fun j => if j = 0 then 0 else (di h (j - 1) : Nat))) wr)) (fun _ _ i _ => D.m - (intOf i).toNat)
      case atStart => exact ⟨0, by omega, rfl, by rw [mix_zero]; exact hms3⟩
      case round =>
        clear hms3
        obtain ⟨l, hl, rfl, hms⟩ := hrel
        obtain ⟨kc0, kc1, kc2⟩ := hms.out.bx
        by_cases hlt : l < D.m
        · obtain ⟨z, hz⟩ : ∃ z : Nat, z = if l = 0 then 0 else di h (l - 1) := ⟨_, rfl⟩
          have hzp : z < D.p := by
            rw [hz]; by_cases e : l = 0
            · rw [if_pos e]; omega
            · rw [if_neg e]; exact di_lt _ _
          have hc3 := hms.out.i3.cell (i := l) (by rw [mix_length]; exact hlt)
          rw [mix_get_at _ _ hlt, show (if l = 0 then (0 : Int) else (di h (l - 1) : Nat)) = (z : Int) by rw [hz]; by_cases e : l = 0 <;> simp [e]] at hc3
          have hc1 := hms.out.i1.cell (i := l) (by rw [hl1H.out]; exact hlt)
          unfold dl at hc1
          rw [lst_get _ hlt] at hc1
          have hc2 := hms.out.i2.cell (i := s) (by rw [hl2H.out]; exact hsm)
          unfold dl at hc2
          rw [lst_get _ hsm, ← hbs.out] at hc2
          have hf := hms.out.i3.frozen l
          obtain ⟨al, hal⟩ : ∃ al, al = di u l := ⟨_, rfl⟩
          rw [← hal] at hc1
          have halp : al < D.p := by rw [hal]; exact di_lt _ _
          obtain ⟨b, off, rfl, hb, hcm⟩ := hr.at_ (k := l) (by rw [modL_length]; omega)
          rw [modL_get D (by omega)] at hcm
          have hcm2 := (hms.out.bw.cell (p := ⟨b, off + l, none⟩) hb).trans hcm
          clear hcm
          obtain ⟨ml, hmle⟩ : ∃ ml, ml = D.mod.getD l 0 := ⟨_, rfl⟩
          have hmlp : ml < D.p := by rw [hmle]; exact D.hmod l
          rw [← hmle] at hcm2
          have hmll : l < D.mod.length := by omega
          obtain ⟨hm1a, hm1b⟩ : (0 : Int) ≤ ((D.p : Int) - (tp : Int)) * (ml : Int) ∧ ((D.p : Int) - (tp : Int)) * (ml : Int) ≤ 65536 := by
            have h1 := Nat.mul_le_mul (Nat.le_trans (Nat.sub_le D.p tp) hp1) (Nat.le_trans (Nat.le_of_lt hmlp) hp1)
            have h2 : (((D.p - tp) * ml : Nat) : Int) = ((D.p : Int) - (tp : Int)) * (ml : Int) := by rw [Int.natCast_mul, Int.natCast_sub (Nat.le_of_lt htpp)]
            omega
          obtain ⟨hm2a, hm2b⟩ : (0 : Int) ≤ (bs : Int) * (al : Int) ∧ (bs : Int) * (al : Int) ≤ 65536 := by
            have h1 := Nat.mul_le_mul (Nat.le_trans (Nat.le_of_lt hbsp) hp1) (Nat.le_trans (Nat.le_of_lt halp) hp1)
            have h2 : ((bs * al : Nat) : Int) = (bs : Int) * (al : Int) := by simp
            omega
          have hval : ((di (hstep h u bs) l : Nat) : Int) = ((z : Int) + ((D.p : Int) - (tp : Int)) * (ml : Int) + (bs : Int) * (al : Int)) % (D.p : Int) := by
            rw [hstep_di _ _ _ hlt, ← hz, ← htp.out, ← hal, ← hmle]
            rw [Int.natCast_emod, Int.natCast_add, Int.natCast_add, Int.natCast_mul, Int.natCast_mul, Int.natCast_sub (Nat.le_of_lt htpp)]
          have hset := (hms.out.set_ hb0 hne hne2 l ((di (hstep h u bs) l : Nat) : Int)).drew
          rw [mix_set D.m l (fun j => ((di (hstep h u bs) j : Nat) : Int)), hval] at hset
          have hset := Lib.hid hset
          clear hms hz hal hval hmle
          have hl0 : (l : Int) < (D.m : Int) := by omega
          have hs0 : (s : Int) < (D.m : Int) := by omega
          have hpz : ¬ D.p = 0 := by omega
          have hX0 : 0 ≤ ((z : Int) + ((D.p : Int) - (tp : Int)) * (ml : Int) + (bs : Int) * (al : Int)) := by omega
          have hXm := Int.emod_lt_of_pos ((z : Int) + ((D.p : Int) - (tp : Int)) * (ml : Int) + (bs : Int) * (al : Int)) (show (0 : Int) < D.p by omega)
          have hXn := Int.emod_nonneg ((z : Int) + ((D.p : Int) - (tp : Int)) * (ml : Int) + (bs : Int) * (al : Int)) (show (D.p : Int) ≠ 0 by omega)
          have e1 : IntKind.i64.wrap ((D.p : Int) - (tp : Int)) = (D.p : Int) - (tp : Int) := IntWalk.i64_in _ (by omega)
          have e2 : IntKind.i64.wrap (((D.p : Int) - (tp : Int)) * (ml : Int)) = ((D.p : Int) - (tp : Int)) * (ml : Int) := IntWalk.i64_in _ (by omega)
          have e3 : IntKind.i64.wrap ((z : Int) + ((D.p : Int) - (tp : Int)) * (ml : Int)) = (z : Int) + ((D.p : Int) - (tp : Int)) * (ml : Int) := IntWalk.i64_in _ (by omega)
          have e4 : IntKind.i64.wrap ((bs : Int) * (al : Int)) = (bs : Int) * (al : Int) := IntWalk.i64_in _ (by omega)
          have e5 : IntKind.i64.wrap ((z : Int) + ((D.p : Int) - (tp : Int)) * (ml : Int) + (bs : Int) * (al : Int)) = ((z : Int) + ((D.p : Int) - (tp : Int)) * (ml : Int) + (bs : Int) * (al : Int)) := IntWalk.i64_in _ (by omega)
          have e6 : ((z : Int) + ((D.p : Int) - (tp : Int)) * (ml : Int) + (bs : Int) * (al : Int)).tmod (D.p : Int) = ((z : Int) + ((D.p : Int) - (tp : Int)) * (ml : Int) + (bs : Int) * (al : Int)) % (D.p : Int) := Int.tmod_eq_emod_of_nonneg hX0
          go_wp2_with (fail)
          go_still_tail 27, (by kernel_rfl)
          change wpList _ _ _ _ _ wr.drew
          clear e1 e2 e3 e4 e5 e6 hpz
          go_wp2_with (fail)
          go_roundw
          case rel => exact ⟨l + 1, by omega, by go_num, hset⟩
          case measure => simp [intOf]; omega
        · obtain rfl : l = D.m := by omega
          go_wp2_with (fail)
          go_roundw
          case rel =>
            refine ⟨s, k + 1, by omega, by first | rfl | go_num | (congr 1; omega), by have := htk.out; unfold Hid; omega, ?_⟩
            have h5 := hms.out
            rw [mix_full] at h5
            rw [hh.out, hbs.out] at h5
            show MuSt D u v A D.mod.length c g1 g2 g3 w (dl (hstep (hor u v k) u (di v (D.m - 1 - k)))) wr
            rw [show D.m - 1 - k = s by have := htk.out; omega]
            exact h5
          case measure => simp [intOf]
end Go.Proofs.Ytnbkmkeiophjoaa
