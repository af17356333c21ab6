/- The program's generator matrix. Layer 18: Encode, Check, the reference's Elements. Layer 18 of the program: Standard. grs.Generator. -/
import Derived.Test.YtakonlfojblcmaaGreatZbCodC
import Derived.Test.YtakonlfojblcmaaGreatZbGrsC
import Derived.Test.YtakonlfojblcmaaGreatZbApR
import Derived.Test.YtakonlfojblcmaaGreatZbTk
namespace Go.Proofs.YtakonlfojblcmaaGreat
open Go.RowKit Cw
attribute [local go_sem] Oper.semAt_some

def gM (D : Desc) (pts mul : List Int) : Nat → Nat → R D := fun i j => eli D (mul[j]?.getD 0) * pw (eli D (pts[j]?.getD 0)) i
theorem gM_zero (D : Desc) (pts mul : List Int) (h : ∀ x ∈ mul, 0 ≤ x ∧ x < D.q) : rowL D mul.length (gM D pts mul 0) = mul := by
 apply List.ext_getElem
 ·exact rowL_length _ _ _
 ·intro j h1 h2
  have h3 := rowL_get D (gM D pts mul 0) (j := j) (m := mul.length) h2
  rw [List.getElem?_eq_getElem h1, Option.getD_some] at h3
  rw [h3]
  unfold gM
  rw [show pw (eli D (pts[j]?.getD 0)) 0 = 1 from rfl, mul_one, List.getElem?_eq_getElem h2, Option.getD_some]
  exact ci_eli_in (h _ (List.getElem_mem h2))
theorem OwnM.kept {w w' : World} {B n b : Nat} {v : Value} {rows : Nat → List Int} (h : OwnM w B v n rows) (hg : w.grownBy w' (some b)) (hb : b < B) : OwnM w' B v n rows := by
 obtain ⟨hs, h1, h2, h3⟩ := h
 refine ⟨hs, h1, World.ownsRow.kept h2 hg (.inr fun e => by have := (World.ownsRow.lt h2 _ e).1; omega), fun i hi => ?_⟩
 obtain ⟨Ai, ci', a1, a2, a3, a4, a5⟩ := h3 i hi
 refine ⟨Ai, ci', a1, fun hn => ?_, a3, a4, a5⟩
 obtain ⟨b2, off, e, hbl, hcell⟩ := a2 hn
 have h5 := (a5 (List.length_pos_iff.1 hn) _ e).2
 exact ⟨b2, off, e, Nat.lt_of_lt_of_le hbl hg.size, fun j hj => hg.cell (hcell j hj) fun e2 => by
  have h6 : b2 = b := by injection e2
  have h7 : B ≤ b2 := h5
  omega⟩

set_option maxRecDepth 100000 in
set_option maxHeartbeats 4000000 in
theorem gGen_any (F : FD) (kn n : Nat) (pts mul : List Int) (A A1 A2 : Option Addr) (c c1 c2 gf : Nat) (w : World) (hg : GF w w.heap.size gf F) (hr1 : Rd w w.heap.size A1 pts) (hr2 : Rd w w.heap.size A2 mul) (hl1 : pts.length = n) (hl2 : mul.length = n) (h0 : 1 ≤ n) (h64 : n ≤ 64) (hk64 : kn ≤ 64) (hel : ∀ x ∈ mul, 0 ≤ x ∧ x < F.q) :
    Calls Tryz.prog 206 #[.pointer (some ⟨gf, 0, none⟩), .agg #[.int .i64 F.p, .int .i64 F.m, .slice A F.mod.length c, .int .i64 kn, .slice A1 n c1, .slice A2 n c2]] w fun e w' => ∃ Al cl, e = .returned (.agg #[.int .i64 n, .slice Al kn cl]) ∧
      RdMU w' w.heap.size w'.heap.size Al kn (rowsL F.toDesc n (gM F.toDesc pts mul)) ∧ Below w.heap.size w w' := by
  have hrow0 : rowL F.toDesc n (gM F.toDesc pts mul 0) = mul := by rw [← hl2]; exact gM_zero _ _ _ hel
  obtain ⟨Z, hZ⟩ : ∃ Z, Z = ((w.alloc (.cells #[.int .i64 F.p, .int .i64 F.m, .slice A F.mod.length c, .int .i64 kn, .slice A1 n c1, .slice A2 n c2] 61)).alloc (.cells #[.int .i64 0, .slice none 0 0] 78)).alloc (.cells #[.int .i64 n, .slice none 0 0] 78) := ⟨_, rfl⟩
  have hBZ : Below w.heap.size w Z := by rw [hZ]; exact (((Below.refl _ _).alloc (Nat.le_refl _) _).alloc (by simp) _).alloc (by simp; omega) _
  have hZs : Z.heap.size = w.heap.size + 1 + 1 + 1 := by rw [hZ]; simp
  obtain ⟨s, hs⟩ : ∃ s, s = w.heap.size := ⟨_, rfl⟩
  have kz : (Z.cell? ⟨s, 4, none⟩ = some (.slice A1 n c1) ∧ Z.cell? ⟨s + 1 + 1, 0, none⟩ = some (.int .i64 n) ∧ Z.frozen? ⟨s + 1 + 1, 1, none⟩ = false ∧ Z.cell? ⟨s + 1, 0, none⟩ = some (.int .i64 0) ∧ Z.cell? ⟨s + 1, 1, none⟩ = some (.slice none 0 0) ∧ Z.frozen? ⟨s + 1, 0, none⟩ = false ∧ Z.frozen? ⟨s + 1, 1, none⟩ = false) ∧ Z.cell? ⟨s + 1 + 1, 1, none⟩ = some (.slice none 0 0) ∧ Z.cell? ⟨w.heap.size, 3, none⟩ = some (.int .i64 kn) := by rw [hZ, hs]; simp [go_sem]
  have o1 : Own (Z.alloc (.cells #[] 3)) (w.heap.size + 1 + 1 + 1) (.slice (some ⟨w.heap.size + 1 + 1 + 1, 0, none⟩) 0 0) [] := by
    rw [← hZs]; exact Own.of_IB (l := []) (heap_alloc_new Z _) (Nat.le_refl _) (by simp [maxLen])
  have hbz : Below Z.heap.size Z (Z.alloc (.cells #[] 3)) := (Below.refl _ _).alloc (Nat.le_refl _) _
  have hB4 := hBZ.trans (hbz.mono hBZ.size)
  have r1 : Rd (Z.alloc (.cells #[] 3)) w.heap.size A2 mul := hr2.below hB4
  have hle : ([] : List Int).length + mul.length ≤ 1000000000 := by rw [hl2]; simp; omega
  have hsz : w.heap.size + 1 + 1 + 1 ≤ (Z.alloc (.cells #[] 3)).heap.size := by rw [World.size_alloc, hZs]; exact Nat.le_succ _
  have hbz3 := hbz.mono (Nat.le_of_eq hZs.symm)
  have hZs4 : s + 1 + 1 < w.heap.size + 1 + 1 + 1 := by omega
  have key : ∀ w1 : World, Below (w.heap.size + 1 + 1 + 1) (Z.alloc (.cells #[] 3)) w1 → (w1.cell? ⟨s, 4, none⟩ = some (.slice A1 n c1) ∧ w1.cell? ⟨s + 1 + 1, 0, none⟩ = some (.int .i64 n) ∧ w1.frozen? ⟨s + 1 + 1, 1, none⟩ = false ∧ w1.cell? ⟨s + 1, 0, none⟩ = some (.int .i64 0) ∧ w1.cell? ⟨s + 1, 1, none⟩ = some (.slice none 0 0) ∧ w1.frozen? ⟨s + 1, 0, none⟩ = false ∧ w1.frozen? ⟨s + 1, 1, none⟩ = false) ∧ w1.cell? ⟨s + 1 + 1, 1, none⟩ = some (.slice none 0 0) ∧ Below w.heap.size w w1 ∧ w1.cell? ⟨w.heap.size, 3, none⟩ = some (.int .i64 kn) := fun w1 hb1 => by
    have hb := hbz3.trans hb1
    obtain ⟨⟨a1, a2, a3, a4, a5, a6, a7⟩, a8, a9⟩ := kz
    exact ⟨⟨(hb.cell (p := ⟨s, 4, none⟩) (show s < _ by omega)).trans a1, (hb.cell (p := ⟨s + 1 + 1, 0, none⟩) hZs4).trans a2, (hb.frozen (p := ⟨s + 1 + 1, 1, none⟩) hZs4).trans a3, (hb.cell (p := ⟨s + 1, 0, none⟩) (show s + 1 < _ by omega)).trans a4, (hb.cell (p := ⟨s + 1, 1, none⟩) (show s + 1 < _ by omega)).trans a5,
      (hb.frozen (p := ⟨s + 1, 0, none⟩) (show s + 1 < _ by omega)).trans a6, (hb.frozen (p := ⟨s + 1, 1, none⟩) (show s + 1 < _ by omega)).trans a7⟩, (hb.cell (p := ⟨s + 1 + 1, 1, none⟩) hZs4).trans a8, hB4.trans (hb1.mono (by omega)), (hb.cell (p := ⟨w.heap.size, 3, none⟩) (show w.heap.size < _ by omega)).trans a9⟩
  rw [hZ] at o1 r1 hsz key
  replace hl1 := Lib.hid hl1
  have hln : Hid (n = mul.length) := hl2.symm
  replace hl2 := Lib.hid hl2
  replace hrow0 := Lib.hid hrow0
  have hsw : w.heap.size ≤ s := Nat.le_of_eq hs.symm
  have hsw2 : s ≤ w.heap.size := Nat.le_of_eq hs
  replace key := Lib.hid key
  replace hs := Lib.hid hs
  clear hZ hZs hBZ hbz hbz3 kz hB4 hZs4
  go_enter Tryz.func206, Tryz.ntmps206
  go_wp2_with (at_builtin; refine wpList_appN rfl (.tmp 13) (.tmp 15) rfl (w.heap.size + 1 + 1 + 1) _ [] w.heap.size A2 c2 mul o1 r1 rfl rfl hln.out hle hsz ?_; intro v1 w1 ho1 hb1 _ _; rw [List.nil_append, ← hrow0.out] at ho1; have kK := (key.out w1 hb1).2.2.2)
  obtain ⟨kg1, kx1, hB1, -⟩ := key.out w1 hb1
  obtain ⟨Ar, cr, rfl, -, -, hAr⟩ := ho1.form
  rw [rowL_length] at ho1
  obtain ⟨b, rfl⟩ := ho1.zero (by rw [rowL_length]; omega)
  obtain ⟨hb3, hbl, hcr, hcrm, hcel⟩ := ho1.rowCells
  rw [rowL_length]
  obtain ⟨B, hBB⟩ : ∃ B, B = w1.heap.size := ⟨_, rfl⟩
  have hs' := hs.out.symm
  simp only [hs']
  clear hs'
  have hbB : b < B := by omega
  have hsb : s + 1 + 1 < b := by omega
  have hgB : w.heap.size ≤ B := by omega
  have hBw : B ≤ w1.heap.size := Nat.le_of_eq hBB
  replace hBB := Lib.hid hBB
  replace hcel := Lib.hid hcel
  replace kg1 := Lib.hid kg1
  clear ho1 hAr o1 r1 hle hsz key hb1 kK hr2
  have keepGX : ∀ W W' : World, Below B W W' → Hid (W.cell? ⟨s, 4, none⟩ = some (.slice A1 n c1) ∧ W.cell? ⟨s + 1 + 1, 0, none⟩ = some (.int .i64 n) ∧ W.frozen? ⟨s + 1 + 1, 1, none⟩ = false ∧ W.cell? ⟨s + 1, 0, none⟩ = some (.int .i64 0) ∧ W.cell? ⟨s + 1, 1, none⟩ = some (.slice none 0 0) ∧ W.frozen? ⟨s + 1, 0, none⟩ = false ∧ W.frozen? ⟨s + 1, 1, none⟩ = false) → Hid (W'.cell? ⟨s, 4, none⟩ = some (.slice A1 n c1) ∧ W'.cell? ⟨s + 1 + 1, 0, none⟩ = some (.int .i64 n) ∧ W'.frozen? ⟨s + 1 + 1, 1, none⟩ = false ∧ W'.cell? ⟨s + 1, 0, none⟩ = some (.int .i64 0) ∧ W'.cell? ⟨s + 1, 1, none⟩ = some (.slice none 0 0) ∧ W'.frozen? ⟨s + 1, 0, none⟩ = false ∧ W'.frozen? ⟨s + 1, 1, none⟩ = false) := fun W W' h ⟨a1, a2, a3, a4, a5, a6, a7⟩ =>
    ⟨(h.cell (p := ⟨s, 4, none⟩) (show s < B by omega)).trans a1, (h.cell (p := ⟨s + 1 + 1, 0, none⟩) (show s + 1 + 1 < B by omega)).trans a2, (h.frozen (p := ⟨s + 1 + 1, 1, none⟩) (show s + 1 + 1 < B by omega)).trans a3, (h.cell (p := ⟨s + 1, 0, none⟩) (show s + 1 < B by omega)).trans a4, (h.cell (p := ⟨s + 1, 1, none⟩) (show s + 1 < B by omega)).trans a5,
      (h.frozen (p := ⟨s + 1, 0, none⟩) (show s + 1 < B by omega)).trans a6, (h.frozen (p := ⟨s + 1, 1, none⟩) (show s + 1 < B by omega)).trans a7⟩
  have setGX : ∀ (W : World) (g i : Nat) (u : Value), g ≠ s → g ≠ s + 1 → ((⟨s + 1 + 1, 0, none⟩ : Addr) ≠ ⟨g, i, none⟩) → Hid (W.cell? ⟨s, 4, none⟩ = some (.slice A1 n c1) ∧ W.cell? ⟨s + 1 + 1, 0, none⟩ = some (.int .i64 n) ∧ W.frozen? ⟨s + 1 + 1, 1, none⟩ = false ∧ W.cell? ⟨s + 1, 0, none⟩ = some (.int .i64 0) ∧ W.cell? ⟨s + 1, 1, none⟩ = some (.slice none 0 0) ∧ W.frozen? ⟨s + 1, 0, none⟩ = false ∧ W.frozen? ⟨s + 1, 1, none⟩ = false) → Hid ((W.setCell ⟨g, i, none⟩ u).cell? ⟨s, 4, none⟩ = some (.slice A1 n c1) ∧ (W.setCell ⟨g, i, none⟩ u).cell? ⟨s + 1 + 1, 0, none⟩ = some (.int .i64 n) ∧ (W.setCell ⟨g, i, none⟩ u).frozen? ⟨s + 1 + 1, 1, none⟩ = false ∧ (W.setCell ⟨g, i, none⟩ u).cell? ⟨s + 1, 0, none⟩ = some (.int .i64 0) ∧ (W.setCell ⟨g, i, none⟩ u).cell? ⟨s + 1, 1, none⟩ = some (.slice none 0 0) ∧ (W.setCell ⟨g, i, none⟩ u).frozen? ⟨s + 1, 0, none⟩ = false ∧ (W.setCell ⟨g, i, none⟩ u).frozen? ⟨s + 1, 1, none⟩ = false) := fun W g i u h1 h2 h3 ⟨a1, a2, a3, a4, a5, a6, a7⟩ =>
    ⟨(World.cell?_setCell_far _ _ _ _ h1).trans a1, (World.cell?_setCell_other _ _ _ _ (fun e => h3 (by first | exact e | exact e.symm))).trans a2, by simp [go_sem, a3], (World.cell?_setCell_far _ _ _ _ h2).trans a4, (World.cell?_setCell_far _ _ _ _ h2).trans a5, by simp [go_sem, a6], by simp [go_sem, a7]⟩
  go_loopw [19, 7, 8] (fun iS _ _ wr => ∃ (k : Nat) (v : Value), k ≤ kn ∧ iS = .int .i64 k ∧ wr.cell? ⟨s + 1 + 1, 1, none⟩ = some v ∧ OwnM wr B v k (rowsL F.toDesc n (gM F.toDesc pts mul)) ∧
    Hid (∀ j, j < n → wr.cell? ⟨b, j, none⟩ = some (.int .i64 (ci (gM F.toDesc pts mul k j))) ∧ wr.frozen? ⟨b, j, none⟩ = false) ∧ Hid (wr.cell? ⟨s, 4, none⟩ = some (.slice A1 n c1) ∧ wr.cell? ⟨s + 1 + 1, 0, none⟩ = some (.int .i64 n) ∧ wr.frozen? ⟨s + 1 + 1, 1, none⟩ = false ∧ wr.cell? ⟨s + 1, 0, none⟩ = some (.int .i64 0) ∧ wr.cell? ⟨s + 1, 1, none⟩ = some (.slice none 0 0) ∧ wr.frozen? ⟨s + 1, 0, none⟩ = false ∧ wr.frozen? ⟨s + 1, 1, none⟩ = false) ∧ Below w.heap.size w wr ∧ B ≤ wr.heap.size) (fun iS _ _ _ => kn - (intOf iS).toNat)
  case atStart => exact ⟨0, _, by omega, rfl, kx1, OwnM.nil _ _ _, hcel, kg1, hB1, hBw⟩
  case round =>
    clear hcel kg1 hB1 hBw kx1
    obtain ⟨w3, rfl⟩ : ∃ w3 : World, w3 = wr := ⟨_, rfl⟩
    obtain ⟨k, v, hk, rfl, hxv, hown, hcel, hgx, hbw, hB3⟩ := hrel
    obtain ⟨Av, cv, rfl⟩ := hown.size
    obtain ⟨e4, e0, e1, m0, m1, n0, n1⟩ := hgx.out
    by_cases hlt : k < kn
    · have hs1 : (0 : Int) ≤ (k : Int) := by omega
      have hb3s : b < w3.heap.size := by omega
      have hX3 : s + 1 + 1 < w3.heap.size := by omega
      have hbW1 : Below w3.heap.size w3 (w3.alloc (.cells #[] 3)).drew := ((Below.refl _ _).alloc (Nat.le_refl _) _).drew
      have o1 : Own (w3.alloc (.cells #[] 3)).drew w3.heap.size (.slice (some ⟨w3.heap.size, 0, none⟩) 0 0) [] := (own_empty (heap_alloc_new w3 (.cells #[] 3)) (Nat.le_refl _)).drew
      have r1 : Rd (w3.alloc (.cells #[] 3)).drew w3.heap.size (some ⟨b, 0, none⟩) (rowL F.toDesc n (gM F.toDesc pts mul k)) := Rd.below (fun _ => ⟨b, 0, rfl, hb3s, fun j hj => by
        rw [rowL_length] at hj
        rw [rowL_get _ _ hj, Nat.zero_add]
        exact (hcel.out j hj).1⟩) hbW1
      have hle : ([] : List Int).length + (rowL F.toDesc n (gM F.toDesc pts mul k)).length ≤ 1000000000 := by rw [rowL_length]; simp; omega
      have hlk : Hid (n = (rowL F.toDesc n (gM F.toDesc pts mul k)).length) := (rowL_length _ _ _).symm
      have hsz : w3.heap.size ≤ (w3.alloc (.cells #[] 3)).drew.heap.size := by simp
      have hxv1 : (w3.alloc (.cells #[] 3)).drew.cell? ⟨s + 1 + 1, 1, none⟩ = some (.slice Av k cv) := (hbW1.cell (p := ⟨s + 1 + 1, 1, none⟩) hX3).trans hxv
      go_upto_region 5 with (fail)
      go_cut [] from 20 to 48 (fun wx => ∃ v' : Value, wx.cell? ⟨s + 1 + 1, 1, none⟩ = some v' ∧ OwnM wx B v' (k + 1) (rowsL F.toDesc n (gM F.toDesc pts mul)) ∧ Hid (∀ j, j < n → wx.cell? ⟨b, j, none⟩ = some (.int .i64 (ci (gM F.toDesc pts mul k j))) ∧ wx.frozen? ⟨b, j, none⟩ = false) ∧ Hid (wx.cell? ⟨s, 4, none⟩ = some (.slice A1 n c1) ∧ wx.cell? ⟨s + 1 + 1, 0, none⟩ = some (.int .i64 n) ∧ wx.frozen? ⟨s + 1 + 1, 1, none⟩ = false ∧ wx.cell? ⟨s + 1, 0, none⟩ = some (.int .i64 0) ∧ wx.cell? ⟨s + 1, 1, none⟩ = some (.slice none 0 0) ∧ wx.frozen? ⟨s + 1, 0, none⟩ = false ∧ wx.frozen? ⟨s + 1, 1, none⟩ = false) ∧ Below w.heap.size w wx ∧ B ≤ wx.heap.size)
      case first =>
        refine wp_region_held_drew (S := fun w' => True) (by kernel_rfl) (by (try dsimp only); all_goals trivial) (fun hHeld => ?_)
        refine tk 0 ?_; try simp only [pS]
        refine tk 3 ?_; try simp only [pS]
        refine wpAnyH_ready (rs := [1, 2]) (by kernel_rfl) (by simp) ?_
        refine AllReadyH.cons (o := ⟨_, _, _, _, _, _⟩) rfl (fun K hK => ?_) ?_
        · go_simp
          refine hK.out _ _ (by (try dsimp only); all_goals trivial) (fun hHeld => ?_)
          clear hK K
          try simp only [pS]
          refine rd 2 fun K hK => ?_
          go_simp
          refine hK.out _ _ (by (try dsimp only); all_goals trivial) (fun hHeld => ?_)
          clear hK K
          try simp only [pS]
          refine rd 4 fun K hK => ?_
          refine step_appN (n2 := n) rfl (.tmp 23) (.tmp 24) rfl w3.heap.size _ [] w3.heap.size (some ⟨b, 0, none⟩) cr (rowL F.toDesc n (gM F.toDesc pts mul k)) o1 r1 (by rfl) (by rfl) hlk.out hle hsz ?_
          intro v4 w4 ho4 hb4 _ _
          rw [List.nil_append] at ho4
          obtain ⟨A4, c4, rfl, hc4, hr4, hA4⟩ := ho4.form
          rw [rowL_length] at hc4 ho4
          rw [rowL_length]
          have hcm := Own.capM ho4
          have hb34 := hbW1.trans hb4
          have hown4 := hown.below hb34 (Nat.le_refl _)
          have hxv4 := (hb34.cell (p := ⟨s + 1 + 1, 1, none⟩) hX3).trans hxv
          have hs34 := hb34.size
          have hX4 : s + 1 + 1 < w4.heap.size := Nat.lt_of_lt_of_le hX3 hs34
          obtain ⟨hds, q1, q2, q3⟩ := hown4
          refine hK.out _ _ (by (try dsimp only); all_goals trivial) (fun hHeld => ?_)
          clear hK K
          try simp only [pS]
          refine rd 5 fun K hK => ?_
          go_simp
          refine hK.out _ _ (by (try dsimp only); all_goals trivial) (fun hHeld => ?_)
          clear hK K
          try simp only [pS]
          refine rd 6 fun K hK => ?_
          refine step_app1V rfl (.tmp 22) (.tmp 26) rfl B _ hds _ rfl q2 (by rfl) (by rfl) rfl (by rw [q1]; omega) (Nat.le_trans hB3 hs34) ?_
          intro v6 w6 ho6 hb6 hg6 hv6
          have hsn := OwnM.snoc (rows := rowsL F.toDesc n (gM F.toDesc pts mul)) q1 q3 hr4 (by rw [rowsL_length]; exact hc4) hcm (fun _ a e => ⟨fun e2 => by have h1 := (hA4 a e).1; have h2 := (World.ownsRow.lt (hown.choose_spec.2.1) _ e2).2; omega, by have h1 := (hA4 a e).1; omega⟩) (by rw [rowsL_length]; exact ho6) hg6 hv6
          obtain ⟨A6, c6, rfl⟩ := hsn.size
          have hxv6 := (hb6.cell (p := ⟨s + 1 + 1, 1, none⟩) (show s + 1 + 1 < B by omega)).trans hxv4
          have hf6 := (keepGX _ _ ((hb34.mono hB3).trans hb6) hgx).out.2.2.1
          refine hK.out _ _ (by (try dsimp only); all_goals trivial) (fun hHeld => ?_)
          clear hK K
          try simp only [pS]
          refine tk 7 ?_; try simp only [pS]
          refine rd 8 fun K hK => ?_
          go_simp
          refine hK.out _ _ (by (try dsimp only); all_goals trivial) (fun hHeld => ?_)
          clear hK K
          try simp only [pS]
          refine wpAnyH_done (by kernel_rfl) ?_ _
          have hb36 : Below B w3 w6 := (hb34.mono hB3).trans hb6
          have hgF := keepGX _ _ hb36 hgx
          have hcF : Hid (∀ j, j < n → w6.cell? ⟨b, j, none⟩ = some (.int .i64 (ci (gM F.toDesc pts mul k j))) ∧ w6.frozen? ⟨b, j, none⟩ = false) := fun j hj => ⟨(hb36.cell (p := ⟨b, j, none⟩) hbB).trans (hcel.out j hj).1, (hb36.frozen (p := ⟨b, j, none⟩) hbB).trans (hcel.out j hj).2⟩
          have hcF2 : Hid (∀ j, j < n → (w6.setCell ⟨s + 1 + 1, 1, none⟩ (.slice A6 (k + 1) c6)).cell? ⟨b, j, none⟩ = some (.int .i64 (ci (gM F.toDesc pts mul k j))) ∧ (w6.setCell ⟨s + 1 + 1, 1, none⟩ (.slice A6 (k + 1) c6)).frozen? ⟨b, j, none⟩ = false) := fun j hj => ⟨(World.cell?_setCell_far _ _ _ _ (show s + 1 + 1 ≠ b by omega)).trans (hcF.out j hj).1, by have := (hcF.out j hj).2; simp [go_sem, this]⟩
          have hgF2 := setGX w6 (s + 1 + 1) 1 (.slice A6 (k + 1) c6) (by omega) (by omega) (by intro e; injection e with e1 e2; omega) hgF
          have hoF := hsn.kept (grown_set w6 ⟨s + 1 + 1, 1, none⟩ (.slice A6 (k + 1) c6)) (show s + 1 + 1 < B by omega)
          have hxF := World.cell?_setCell_same w6 ⟨s + 1 + 1, 1, none⟩ (.slice A6 (k + 1) c6) hxv6
          have hBF := (hbw.trans (hb36.mono hgB)).setCell (p := ⟨s + 1 + 1, 1, none⟩) (show w.heap.size ≤ s + 1 + 1 by omega) (.slice A6 (k + 1) c6)
          have hsF : B ≤ (w6.setCell ⟨s + 1 + 1, 1, none⟩ (.slice A6 (k + 1) c6)).heap.size := by simp only [World.setCell, Array.size_modify]; exact Nat.le_trans hB3 hb36.size
          replace hxF := Lib.hid hxF
          go_wp2_with (fail)
          go_meet
          exact ⟨_, hxF.out, hoF, hcF2, hgF2, hBF, hsF⟩
        refine AllReadyH.cons (o := ⟨_, _, _, _, _, _⟩) rfl (fun K hK => ?_) AllReadyH.nil
        go_simp
        refine hK.out _ _ (by (try dsimp only); all_goals trivial) (fun hHeld => ?_)
        clear hK K
        try simp only [pS]
        refine wpAnyH_ready (rs := [1, 4]) (by kernel_rfl) (by simp) ?_
        refine AllReadyH.cons (o := ⟨_, _, _, _, _, _⟩) rfl (fun K hK => ?_) ?_
        · go_simp
          refine hK.out _ _ (by (try dsimp only); all_goals trivial) (fun hHeld => ?_)
          clear hK K
          try simp only [pS]
          refine rd 4 fun K hK => ?_
          refine step_appN (n2 := n) rfl (.tmp 23) (.tmp 24) rfl w3.heap.size _ [] w3.heap.size (some ⟨b, 0, none⟩) cr (rowL F.toDesc n (gM F.toDesc pts mul k)) o1 r1 (by rfl) (by rfl) hlk.out hle hsz ?_
          intro v4 w4 ho4 hb4 _ _
          rw [List.nil_append] at ho4
          obtain ⟨A4, c4, rfl, hc4, hr4, hA4⟩ := ho4.form
          rw [rowL_length] at hc4 ho4
          rw [rowL_length]
          have hcm := Own.capM ho4
          have hb34 := hbW1.trans hb4
          have hown4 := hown.below hb34 (Nat.le_refl _)
          have hxv4 := (hb34.cell (p := ⟨s + 1 + 1, 1, none⟩) hX3).trans hxv
          have hs34 := hb34.size
          have hX4 : s + 1 + 1 < w4.heap.size := Nat.lt_of_lt_of_le hX3 hs34
          obtain ⟨hds, q1, q2, q3⟩ := hown4
          refine hK.out _ _ (by (try dsimp only); all_goals trivial) (fun hHeld => ?_)
          clear hK K
          try simp only [pS]
          refine rd 5 fun K hK => ?_
          go_simp
          refine hK.out _ _ (by (try dsimp only); all_goals trivial) (fun hHeld => ?_)
          clear hK K
          try simp only [pS]
          refine rd 6 fun K hK => ?_
          refine step_app1V rfl (.tmp 22) (.tmp 26) rfl B _ hds _ rfl q2 (by rfl) (by rfl) rfl (by rw [q1]; omega) (Nat.le_trans hB3 hs34) ?_
          intro v6 w6 ho6 hb6 hg6 hv6
          have hsn := OwnM.snoc (rows := rowsL F.toDesc n (gM F.toDesc pts mul)) q1 q3 hr4 (by rw [rowsL_length]; exact hc4) hcm (fun _ a e => ⟨fun e2 => by have h1 := (hA4 a e).1; have h2 := (World.ownsRow.lt (hown.choose_spec.2.1) _ e2).2; omega, by have h1 := (hA4 a e).1; omega⟩) (by rw [rowsL_length]; exact ho6) hg6 hv6
          obtain ⟨A6, c6, rfl⟩ := hsn.size
          have hxv6 := (hb6.cell (p := ⟨s + 1 + 1, 1, none⟩) (show s + 1 + 1 < B by omega)).trans hxv4
          have hf6 := (keepGX _ _ ((hb34.mono hB3).trans hb6) hgx).out.2.2.1
          refine hK.out _ _ (by (try dsimp only); all_goals trivial) (fun hHeld => ?_)
          clear hK K
          try simp only [pS]
          refine tk 7 ?_; try simp only [pS]
          refine rd 8 fun K hK => ?_
          go_simp
          refine hK.out _ _ (by (try dsimp only); all_goals trivial) (fun hHeld => ?_)
          clear hK K
          try simp only [pS]
          refine wpAnyH_done (by kernel_rfl) ?_ _
          have hb36 : Below B w3 w6 := (hb34.mono hB3).trans hb6
          have hgF := keepGX _ _ hb36 hgx
          have hcF : Hid (∀ j, j < n → w6.cell? ⟨b, j, none⟩ = some (.int .i64 (ci (gM F.toDesc pts mul k j))) ∧ w6.frozen? ⟨b, j, none⟩ = false) := fun j hj => ⟨(hb36.cell (p := ⟨b, j, none⟩) hbB).trans (hcel.out j hj).1, (hb36.frozen (p := ⟨b, j, none⟩) hbB).trans (hcel.out j hj).2⟩
          have hcF2 : Hid (∀ j, j < n → (w6.setCell ⟨s + 1 + 1, 1, none⟩ (.slice A6 (k + 1) c6)).cell? ⟨b, j, none⟩ = some (.int .i64 (ci (gM F.toDesc pts mul k j))) ∧ (w6.setCell ⟨s + 1 + 1, 1, none⟩ (.slice A6 (k + 1) c6)).frozen? ⟨b, j, none⟩ = false) := fun j hj => ⟨(World.cell?_setCell_far _ _ _ _ (show s + 1 + 1 ≠ b by omega)).trans (hcF.out j hj).1, by have := (hcF.out j hj).2; simp [go_sem, this]⟩
          have hgF2 := setGX w6 (s + 1 + 1) 1 (.slice A6 (k + 1) c6) (by omega) (by omega) (by intro e; injection e with e1 e2; omega) hgF
          have hoF := hsn.kept (grown_set w6 ⟨s + 1 + 1, 1, none⟩ (.slice A6 (k + 1) c6)) (show s + 1 + 1 < B by omega)
          have hxF := World.cell?_setCell_same w6 ⟨s + 1 + 1, 1, none⟩ (.slice A6 (k + 1) c6) hxv6
          have hBF := (hbw.trans (hb36.mono hgB)).setCell (p := ⟨s + 1 + 1, 1, none⟩) (show w.heap.size ≤ s + 1 + 1 by omega) (.slice A6 (k + 1) c6)
          have hsF : B ≤ (w6.setCell ⟨s + 1 + 1, 1, none⟩ (.slice A6 (k + 1) c6)).heap.size := by simp only [World.setCell, Array.size_modify]; exact Nat.le_trans hB3 hb36.size
          replace hxF := Lib.hid hxF
          go_wp2_with (fail)
          go_meet
          exact ⟨_, hxF.out, hoF, hcF2, hgF2, hBF, hsF⟩
        refine AllReadyH.cons (o := ⟨_, _, _, _, _, _⟩) rfl (fun K hK => ?_) AllReadyH.nil
        refine step_appN (n2 := n) rfl (.tmp 23) (.tmp 24) rfl w3.heap.size _ [] w3.heap.size (some ⟨b, 0, none⟩) cr (rowL F.toDesc n (gM F.toDesc pts mul k)) o1 r1 (by rfl) (by rfl) hlk.out hle hsz ?_
        intro v4 w4 ho4 hb4 _ _
        rw [List.nil_append] at ho4
        obtain ⟨A4, c4, rfl, hc4, hr4, hA4⟩ := ho4.form
        rw [rowL_length] at hc4 ho4
        rw [rowL_length]
        have hcm := Own.capM ho4
        have hb34 := hbW1.trans hb4
        have hown4 := hown.below hb34 (Nat.le_refl _)
        have hxv4 := (hb34.cell (p := ⟨s + 1 + 1, 1, none⟩) hX3).trans hxv
        have hs34 := hb34.size
        have hX4 : s + 1 + 1 < w4.heap.size := Nat.lt_of_lt_of_le hX3 hs34
        obtain ⟨hds, q1, q2, q3⟩ := hown4
        refine hK.out _ _ (by (try dsimp only); all_goals trivial) (fun hHeld => ?_)
        clear hK K
        try simp only [pS]
        refine wpAnyH_ready (rs := [1, 5]) (by kernel_rfl) (by simp) ?_
        refine AllReadyH.cons (o := ⟨_, _, _, _, _, _⟩) rfl (fun K hK => ?_) ?_
        · go_simp
          refine hK.out _ _ (by (try dsimp only); all_goals trivial) (fun hHeld => ?_)
          clear hK K
          try simp only [pS]
          refine rd 5 fun K hK => ?_
          go_simp
          refine hK.out _ _ (by (try dsimp only); all_goals trivial) (fun hHeld => ?_)
          clear hK K
          try simp only [pS]
          refine rd 6 fun K hK => ?_
          refine step_app1V rfl (.tmp 22) (.tmp 26) rfl B _ hds _ rfl q2 (by rfl) (by rfl) rfl (by rw [q1]; omega) (Nat.le_trans hB3 hs34) ?_
          intro v6 w6 ho6 hb6 hg6 hv6
          have hsn := OwnM.snoc (rows := rowsL F.toDesc n (gM F.toDesc pts mul)) q1 q3 hr4 (by rw [rowsL_length]; exact hc4) hcm (fun _ a e => ⟨fun e2 => by have h1 := (hA4 a e).1; have h2 := (World.ownsRow.lt (hown.choose_spec.2.1) _ e2).2; omega, by have h1 := (hA4 a e).1; omega⟩) (by rw [rowsL_length]; exact ho6) hg6 hv6
          obtain ⟨A6, c6, rfl⟩ := hsn.size
          have hxv6 := (hb6.cell (p := ⟨s + 1 + 1, 1, none⟩) (show s + 1 + 1 < B by omega)).trans hxv4
          have hf6 := (keepGX _ _ ((hb34.mono hB3).trans hb6) hgx).out.2.2.1
          refine hK.out _ _ (by (try dsimp only); all_goals trivial) (fun hHeld => ?_)
          clear hK K
          try simp only [pS]
          refine tk 7 ?_; try simp only [pS]
          refine rd 8 fun K hK => ?_
          go_simp
          refine hK.out _ _ (by (try dsimp only); all_goals trivial) (fun hHeld => ?_)
          clear hK K
          try simp only [pS]
          refine wpAnyH_done (by kernel_rfl) ?_ _
          have hb36 : Below B w3 w6 := (hb34.mono hB3).trans hb6
          have hgF := keepGX _ _ hb36 hgx
          have hcF : Hid (∀ j, j < n → w6.cell? ⟨b, j, none⟩ = some (.int .i64 (ci (gM F.toDesc pts mul k j))) ∧ w6.frozen? ⟨b, j, none⟩ = false) := fun j hj => ⟨(hb36.cell (p := ⟨b, j, none⟩) hbB).trans (hcel.out j hj).1, (hb36.frozen (p := ⟨b, j, none⟩) hbB).trans (hcel.out j hj).2⟩
          have hcF2 : Hid (∀ j, j < n → (w6.setCell ⟨s + 1 + 1, 1, none⟩ (.slice A6 (k + 1) c6)).cell? ⟨b, j, none⟩ = some (.int .i64 (ci (gM F.toDesc pts mul k j))) ∧ (w6.setCell ⟨s + 1 + 1, 1, none⟩ (.slice A6 (k + 1) c6)).frozen? ⟨b, j, none⟩ = false) := fun j hj => ⟨(World.cell?_setCell_far _ _ _ _ (show s + 1 + 1 ≠ b by omega)).trans (hcF.out j hj).1, by have := (hcF.out j hj).2; simp [go_sem, this]⟩
          have hgF2 := setGX w6 (s + 1 + 1) 1 (.slice A6 (k + 1) c6) (by omega) (by omega) (by intro e; injection e with e1 e2; omega) hgF
          have hoF := hsn.kept (grown_set w6 ⟨s + 1 + 1, 1, none⟩ (.slice A6 (k + 1) c6)) (show s + 1 + 1 < B by omega)
          have hxF := World.cell?_setCell_same w6 ⟨s + 1 + 1, 1, none⟩ (.slice A6 (k + 1) c6) hxv6
          have hBF := (hbw.trans (hb36.mono hgB)).setCell (p := ⟨s + 1 + 1, 1, none⟩) (show w.heap.size ≤ s + 1 + 1 by omega) (.slice A6 (k + 1) c6)
          have hsF : B ≤ (w6.setCell ⟨s + 1 + 1, 1, none⟩ (.slice A6 (k + 1) c6)).heap.size := by simp only [World.setCell, Array.size_modify]; exact Nat.le_trans hB3 hb36.size
          replace hxF := Lib.hid hxF
          go_wp2_with (fail)
          go_meet
          exact ⟨_, hxF.out, hoF, hcF2, hgF2, hBF, hsF⟩
        refine AllReadyH.cons (o := ⟨_, _, _, _, _, _⟩) rfl (fun K hK => ?_) AllReadyH.nil
        go_simp
        refine hK.out _ _ (by (try dsimp only); all_goals trivial) (fun hHeld => ?_)
        clear hK K
        try simp only [pS]
        refine rd 1 fun K hK => ?_
        go_simp
        refine hK.out _ _ (by (try dsimp only); all_goals trivial) (fun hHeld => ?_)
        clear hK K
        try simp only [pS]
        refine rd 6 fun K hK => ?_
        refine step_app1V rfl (.tmp 22) (.tmp 26) rfl B _ hds _ rfl q2 (by rfl) (by rfl) rfl (by rw [q1]; omega) (Nat.le_trans hB3 hs34) ?_
        intro v6 w6 ho6 hb6 hg6 hv6
        have hsn := OwnM.snoc (rows := rowsL F.toDesc n (gM F.toDesc pts mul)) q1 q3 hr4 (by rw [rowsL_length]; exact hc4) hcm (fun _ a e => ⟨fun e2 => by have h1 := (hA4 a e).1; have h2 := (World.ownsRow.lt (hown.choose_spec.2.1) _ e2).2; omega, by have h1 := (hA4 a e).1; omega⟩) (by rw [rowsL_length]; exact ho6) hg6 hv6
        obtain ⟨A6, c6, rfl⟩ := hsn.size
        have hxv6 := (hb6.cell (p := ⟨s + 1 + 1, 1, none⟩) (show s + 1 + 1 < B by omega)).trans hxv4
        have hf6 := (keepGX _ _ ((hb34.mono hB3).trans hb6) hgx).out.2.2.1
        refine hK.out _ _ (by (try dsimp only); all_goals trivial) (fun hHeld => ?_)
        clear hK K
        try simp only [pS]
        refine tk 7 ?_; try simp only [pS]
        refine rd 8 fun K hK => ?_
        go_simp
        refine hK.out _ _ (by (try dsimp only); all_goals trivial) (fun hHeld => ?_)
        clear hK K
        try simp only [pS]
        refine wpAnyH_done (by kernel_rfl) ?_ _
        have hb36 : Below B w3 w6 := (hb34.mono hB3).trans hb6
        have hgF := keepGX _ _ hb36 hgx
        have hcF : Hid (∀ j, j < n → w6.cell? ⟨b, j, none⟩ = some (.int .i64 (ci (gM F.toDesc pts mul k j))) ∧ w6.frozen? ⟨b, j, none⟩ = false) := fun j hj => ⟨(hb36.cell (p := ⟨b, j, none⟩) hbB).trans (hcel.out j hj).1, (hb36.frozen (p := ⟨b, j, none⟩) hbB).trans (hcel.out j hj).2⟩
        have hcF2 : Hid (∀ j, j < n → (w6.setCell ⟨s + 1 + 1, 1, none⟩ (.slice A6 (k + 1) c6)).cell? ⟨b, j, none⟩ = some (.int .i64 (ci (gM F.toDesc pts mul k j))) ∧ (w6.setCell ⟨s + 1 + 1, 1, none⟩ (.slice A6 (k + 1) c6)).frozen? ⟨b, j, none⟩ = false) := fun j hj => ⟨(World.cell?_setCell_far _ _ _ _ (show s + 1 + 1 ≠ b by omega)).trans (hcF.out j hj).1, by have := (hcF.out j hj).2; simp [go_sem, this]⟩
        have hgF2 := setGX w6 (s + 1 + 1) 1 (.slice A6 (k + 1) c6) (by omega) (by omega) (by intro e; injection e with e1 e2; omega) hgF
        have hoF := hsn.kept (grown_set w6 ⟨s + 1 + 1, 1, none⟩ (.slice A6 (k + 1) c6)) (show s + 1 + 1 < B by omega)
        have hxF := World.cell?_setCell_same w6 ⟨s + 1 + 1, 1, none⟩ (.slice A6 (k + 1) c6) hxv6
        have hBF := (hbw.trans (hb36.mono hgB)).setCell (p := ⟨s + 1 + 1, 1, none⟩) (show w.heap.size ≤ s + 1 + 1 by omega) (.slice A6 (k + 1) c6)
        have hsF : B ≤ (w6.setCell ⟨s + 1 + 1, 1, none⟩ (.slice A6 (k + 1) c6)).heap.size := by simp only [World.setCell, Array.size_modify]; exact Nat.le_trans hB3 hb36.size
        replace hxF := Lib.hid hxF
        go_wp2_with (fail)
        go_meet
        exact ⟨_, hxF.out, hoF, hcF2, hgF2, hBF, hsF⟩
      case rest =>
        obtain ⟨v', hx5, hown5, hcel5, hgx5, hB5, hs5⟩ := hcut
        obtain ⟨w5, rfl⟩ : ∃ w5 : World, w5 = wc := ⟨_, rfl⟩
        clear hxv hown hcel hgx hbw hB3 hb3s hX3 hbW1 o1 r1 hle hlk hsz hxv1 e4 e0 e1 m0 m1 n0 n1
        obtain ⟨e4, e0, e1, m0, m1, n0, n1⟩ := hgx5.out
        have hcel6 : Hid (∀ t, t < n → w5.cell? ⟨b, t, none⟩ = some (.int .i64 (ci (if t < 0 then gM F.toDesc pts mul (k + 1) t else gM F.toDesc pts mul k t))) ∧ w5.frozen? ⟨b, t, none⟩ = false) := fun t ht => by
          rw [if_neg (Nat.not_lt_zero _)]; exact hcel5.out t ht
        go_wp2_with (fail)
        go_loopw [32, 7, 8] (fun jS _ _ wr => ∃ j : Nat, j ≤ n ∧ jS = .int .i64 j ∧ wr.cell? ⟨s + 1 + 1, 1, none⟩ = some v' ∧ OwnM wr B v' (k + 1) (rowsL F.toDesc n (gM F.toDesc pts mul)) ∧
          Hid (∀ t, t < n → wr.cell? ⟨b, t, none⟩ = some (.int .i64 (ci (if t < j then gM F.toDesc pts mul (k + 1) t else gM F.toDesc pts mul k t))) ∧ wr.frozen? ⟨b, t, none⟩ = false) ∧ Hid (wr.cell? ⟨s, 4, none⟩ = some (.slice A1 n c1) ∧ wr.cell? ⟨s + 1 + 1, 0, none⟩ = some (.int .i64 n) ∧ wr.frozen? ⟨s + 1 + 1, 1, none⟩ = false ∧ wr.cell? ⟨s + 1, 0, none⟩ = some (.int .i64 0) ∧ wr.cell? ⟨s + 1, 1, none⟩ = some (.slice none 0 0) ∧ wr.frozen? ⟨s + 1, 0, none⟩ = false ∧ wr.frozen? ⟨s + 1, 1, none⟩ = false) ∧ Below w.heap.size w wr ∧ B ≤ wr.heap.size) (fun jS _ _ _ => n - (intOf jS).toNat)
        case atStart => exact ⟨0, by omega, rfl, hx5, hown5, hcel6, hgx5, hB5, hs5⟩
        case round =>
          clear hx5 hown5 hcel5 hcel6 hgx5 hB5 hs5 e4 e0 e1 m0 m1 n0 n1
          obtain ⟨w6, rfl⟩ : ∃ w6 : World, w6 = wr := ⟨_, rfl⟩
          obtain ⟨j, hj, rfl, hx6, hown6, hcel6, hgx6, hB6, hs6⟩ := hrel
          by_cases hjn : j < n
          · have hj0 : (0 : Int) ≤ (j : Int) := by omega
            have hj1 : (j : Int) < (n : Int) := by omega
            obtain ⟨bp, op, rfl, hbp, hcp⟩ := hr1.at_ (k := j) (by rw [hl1.out]; exact hjn)
            have hpx := (hB6.cell (p := ⟨bp, op + j, none⟩) hbp).trans hcp
            obtain ⟨hry, hrf⟩ := hcel6.out j hjn
            rw [if_neg (Nat.lt_irrefl _)] at hry
            obtain ⟨xj, hxj⟩ : ∃ x, x = pts[j]?.getD 0 := ⟨_, rfl⟩
            rw [← hxj] at hpx
            have hM := gMul_any F (ci (gM F.toDesc pts mul k j)) xj gf w6 ((hg.below hB6).more hB6.size)
            have hstep : eli F.toDesc (ci (gM F.toDesc pts mul k j)) * eli F.toDesc xj = gM F.toDesc pts mul (k + 1) j := by
              rw [eli_ci, hxj]; unfold gM; rw [pw_succ, mul_a]
            rw [hstep] at hM
            obtain ⟨y0, hy0⟩ : ∃ y, y = ci (gM F.toDesc pts mul k j) := ⟨_, rfl⟩
            obtain ⟨y1, hy1⟩ : ∃ y, y = ci (gM F.toDesc pts mul (k + 1) j) := ⟨_, rfl⟩
            rw [← hy0] at hM hry
            rw [← hy1] at hM
            replace hM := Lib.hid hM
            replace hy0 := Lib.hid hy0
            replace hy1 := Lib.hid hy1
            replace hxj := Lib.hid hxj
            have hb6s : b < w6.heap.size := by omega
            clear hcp hstep
            go_wp2_with (fail)
            (with_reducible refine hM.out.mono ?_)
            rintro e w7 ⟨rfl, hb7⟩
            have hry7 := (hb7.cell (p := ⟨b, j, none⟩) hb6s).trans hry
            have hrf7 := (hb7.frozen (p := ⟨b, j, none⟩) hb6s).trans hrf
            have hx8 : Hid ((w7.setCell ⟨b, j, none⟩ (.int .i64 y1)).cell? ⟨s + 1 + 1, 1, none⟩ = some v') := (World.cell?_setCell_far _ _ _ _ (show b ≠ s + 1 + 1 by omega)).trans ((hb7.cell (p := ⟨s + 1 + 1, 1, none⟩) (show s + 1 + 1 < w6.heap.size by omega)).trans hx6)
            have hown8 := Lib.hid ((hown6.below hb7 (Nat.le_refl _)).kept (grown_set w7 ⟨b, j, none⟩ (.int .i64 y1)) (show b < B from hbB))
            have hgx8 := setGX w7 b j (.int .i64 y1) (by omega) (by omega) (by intro e; injection e with e1 e2; omega) (keepGX _ _ (hb7.mono hs6) hgx6)
            have hB8 := Lib.hid ((hB6.trans (hb7.mono hB6.size)).setCell (p := ⟨b, j, none⟩) (show w.heap.size ≤ b by omega) (.int .i64 y1))
            have hs8 : Hid (B ≤ (w7.setCell ⟨b, j, none⟩ (.int .i64 y1)).heap.size) := by unfold Hid; simp only [World.setCell, Array.size_modify]; exact Nat.le_trans hs6 hb7.size
            have hcel8 : Hid (∀ t, t < n → (w7.setCell ⟨b, j, none⟩ (.int .i64 y1)).cell? ⟨b, t, none⟩ = some (.int .i64 (ci (if t < j + 1 then gM F.toDesc pts mul (k + 1) t else gM F.toDesc pts mul k t))) ∧ (w7.setCell ⟨b, j, none⟩ (.int .i64 y1)).frozen? ⟨b, t, none⟩ = false) := fun t ht => by
              have h0 := hcel6.out t ht
              have h1 := (hb7.frozen (p := ⟨b, t, none⟩) hb6s).trans h0.2
              refine ⟨?_, by simp [go_sem, h1]⟩
              by_cases e : t = j
              · subst e
                rw [if_pos (Nat.lt_succ_self _), ← hy1.out]
                exact World.cell?_setCell_same _ _ _ hry7
              · rw [ite_succ e]
                exact (hdr_other e).trans ((hb7.cell (p := ⟨b, t, none⟩) hb6s).trans h0.1)
            clear hry hrf
            go_wp2_with (fail)
            go_roundw
            case rel => exact ⟨j + 1, by omega, by go_num, hx8.out, hown8.out, hcel8, hgx8, hB8.out, hs8.out⟩
            case measure => simp [intOf]; omega
          · obtain rfl : j = n := by omega
            have hcel9 : Hid (∀ t, t < j → w6.cell? ⟨b, t, none⟩ = some (.int .i64 (ci (gM F.toDesc pts mul (k + 1) t))) ∧ w6.frozen? ⟨b, t, none⟩ = false) := fun t ht => by
              have h0 := hcel6.out t ht
              rwa [if_pos ht] at h0
            go_wp2_with (fail)
            go_roundw
            case rel => exact ⟨k + 1, v', by omega, by go_num, hx6, hown6, hcel9, hgx6, hB6, hs6⟩
            case measure => simp [intOf]; omega
    · obtain rfl : k = kn := by omega
      have hru : RdMU w3 B w3.heap.size Av k (rowsL F.toDesc n (gM F.toDesc pts mul)) := by
        by_cases hk0 : 0 < k
        · obtain ⟨g, c', e, hg', -, -, hmb⟩ := hown.mb hk0
          have e2 : Av = some ⟨g, 0, none⟩ := by injection e
          rw [e2]; exact hmb.rdmU hg'
        · obtain rfl : k = 0 := by omega
          exact RdMU.zero
      have hruF : Hid (RdMU ((w3.setCell ⟨s + 1, 0, none⟩ (.int .i64 n)).setCell ⟨s + 1, 1, none⟩ (.slice Av k cv)) B w3.heap.size Av k (rowsL F.toDesc n (gM F.toDesc pts mul))) := hru.keepU fun p hp _ => set2_above (b := s + 1) (L := B) (by omega) _ _ p hp
      have hBF := Lib.hid (hbw.trans ((set2 (w3 := w3) (b := s + 1) (.int .i64 n) (.slice Av k cv)).mono (by omega)))
      have hsF : Hid (w3.heap.size ≤ ((w3.setCell ⟨s + 1, 0, none⟩ (.int .i64 n)).setCell ⟨s + 1, 1, none⟩ (.slice Av k cv)).heap.size) := by unfold Hid; simp [World.setCell]
      clear hru hcel hown
      go_wp2_with (fail)
      refine bodyPost_ret (v := .agg #[.int .i64 n, .slice Av k cv]) (by simp [results, Tryz.results206, go_sem, m0, m1]) rfl ⟨Av, cv, rfl, (hruF.out.low hgB).more hsF.out, hBF.out⟩
end Go.Proofs.YtakonlfojblcmaaGreat

namespace Go.Proofs.YtakonlfojblcmaaGreat
open Go.RowKit Cw

theorem gchkD_zero {D : Desc} {K : Int} {pts mul : List Int} (h : gchkD D K pts mul = 0) : 1 ≤ pts.length ∧ pts.length ≤ 64 ∧ mul.length = pts.length ∧ elB D pts = true ∧ elB D mul = true ∧ twB pts = false ∧ ¬ (0 : Int) ∈ mul ∧ 0 ≤ K ∧ K ≤ (pts.length : Int) := by
 unfold gchkD at h
 by_cases h1 : pts.length < 1 ∨ 64 < pts.length
 ·rw [if_pos h1] at h; cases h
 rw [if_neg h1] at h
 by_cases h2 : mul.length ≠ pts.length
 ·rw [if_pos h2] at h; cases h
 rw [if_neg h2] at h
 by_cases h3 : elB D pts = false ∨ elB D mul = false
 ·rw [if_pos h3] at h; cases h
 rw [if_neg h3] at h
 by_cases h4 : twB pts = true
 ·rw [if_pos h4] at h; cases h
 rw [if_neg h4] at h
 by_cases h5 : (0 : Int) ∈ mul
 ·rw [if_pos h5] at h; cases h
 rw [if_neg h5] at h
 by_cases h6 : K < 0 ∨ (pts.length : Int) < K
 ·rw [if_pos h6] at h; cases h
 refine ⟨by omega, by omega, Classical.not_not.1 h2, ?_, ?_, ?_, h5, by omega, by omega⟩
 ·rcases Bool.eq_false_or_eq_true (elB D pts) with e | e
  ·exact e
  ·exact absurd (.inl e) h3
 ·rcases Bool.eq_false_or_eq_true (elB D mul) with e | e
  ·exact e
  ·exact absurd (.inr e) h3
 ·rwa [Bool.not_eq_true] at h4

set_option maxHeartbeats 1000000 in
theorem gCheck_D (D : Desc) (K : Int) (pts mul : List Int) (A A1 A2 : Option Addr) (c c1 c2 : Nat) (w : World) (hr : Rd w w.heap.size A (modL D)) (hg : Good D.p D.m (modL D)) (hr1 : Rd w w.heap.size A1 pts) (hr2 : Rd w w.heap.size A2 mul) (h1 : pts.length ≤ c1) (h1' : c1 ≤ maxLen) (h2 : mul.length ≤ maxLen) :
  Calls Tryz.prog 193 #[.agg #[.int .i64 D.p, .int .i64 D.m, .slice A D.mod.length c, .int .i64 K, .slice A1 pts.length c1, .slice A2 mul.length c2]] w fun e w' => e = .returned (.int .i64 (gchkD D K pts mul)) ∧ Below w.heap.size w w' := by
 have hO := fun W a b c' => Lib.hid (gOpen_D D K pts mul A A1 A2 c c1 c2 W a hg b c' h1 h1' h2)
 have hB : Below w.heap.size w (w.alloc (.cells #[.int .i64 D.p, .int .i64 D.m, .slice A D.mod.length c, .int .i64 K, .slice A1 pts.length c1, .slice A2 mul.length c2] 61)) := (Below.refl _ _).alloc (Nat.le_refl _) _
 have hO2 := hO _ ((hr.below hB).more hB.size) ((hr1.below hB).more hB.size) ((hr2.below hB).more hB.size)
 clear hO hg
 go_enter Tryz.func193, Tryz.ntmps193
 go_wp2_with (fail)
 (with_reducible refine hO2.out.mono ?_)
 rintro e w1 ⟨hb1, g, F, rfl, hgf, hgl, ⟨hz, rfl⟩ | ⟨hz, rfl⟩⟩
 ·replace hz := Lib.hid hz
  go_wp2_with (fail)
  go_ret
  exact ⟨by rw [hz.out]; rfl, hB.trans (hb1.mono hB.size)⟩
 ·clear hz
  go_wp2_with (fail)
  go_ret
  exact ⟨rfl, hB.trans (hb1.mono hB.size)⟩

end Go.Proofs.YtakonlfojblcmaaGreat

namespace Go.Proofs.YtakonlfojblcmaaGreat
open Go.RowKit Cw

def Six (w : World) (b : Nat) (v0 v1 v2 v3 v4 v5 : Value) : Prop :=
 w.cell? ⟨b, 0, none⟩ = some v0 ∧ w.cell? ⟨b, 1, none⟩ = some v1 ∧ w.cell? ⟨b, 2, none⟩ = some v2 ∧ w.cell? ⟨b, 3, none⟩ = some v3 ∧ w.cell? ⟨b, 4, none⟩ = some v4 ∧ w.cell? ⟨b, 5, none⟩ = some v5 ∧
 w.frozen? ⟨b, 0, none⟩ = false ∧ w.frozen? ⟨b, 1, none⟩ = false ∧ w.frozen? ⟨b, 2, none⟩ = false ∧ w.frozen? ⟨b, 3, none⟩ = false ∧ w.frozen? ⟨b, 4, none⟩ = false ∧ w.frozen? ⟨b, 5, none⟩ = false
theorem Six.keep {B b : Nat} {w w1 : World} {v0 v1 v2 v3 v4 v5 : Value} (h : Six w b v0 v1 v2 v3 v4 v5) (hb : Below B w w1) (hlt : b < B) : Six w1 b v0 v1 v2 v3 v4 v5 := by
 obtain ⟨a0, a1, a2, a3, a4, a5, f0, f1, f2, f3, f4, f5⟩ := h
 exact ⟨(hb.cell (p := ⟨b, 0, none⟩) hlt).trans a0, (hb.cell (p := ⟨b, 1, none⟩) hlt).trans a1, (hb.cell (p := ⟨b, 2, none⟩) hlt).trans a2, (hb.cell (p := ⟨b, 3, none⟩) hlt).trans a3, (hb.cell (p := ⟨b, 4, none⟩) hlt).trans a4, (hb.cell (p := ⟨b, 5, none⟩) hlt).trans a5,
  (hb.frozen (p := ⟨b, 0, none⟩) hlt).trans f0, (hb.frozen (p := ⟨b, 1, none⟩) hlt).trans f1, (hb.frozen (p := ⟨b, 2, none⟩) hlt).trans f2, (hb.frozen (p := ⟨b, 3, none⟩) hlt).trans f3, (hb.frozen (p := ⟨b, 4, none⟩) hlt).trans f4, (hb.frozen (p := ⟨b, 5, none⟩) hlt).trans f5⟩
theorem Six.new (w : World) (v0 v1 v2 v3 v4 v5 : Value) (t : TypeId) : Six (w.alloc (.cells #[v0, v1, v2, v3, v4, v5] t)) w.heap.size v0 v1 v2 v3 v4 v5 := by
 obtain ⟨a0, a1, a2, a3, a4, a5⟩ := alloc6 w v0 v1 v2 v3 v4 v5 t
 exact ⟨a0, a1, a2, a3, a4, a5, World.frozen?_alloc_at _ _ _ _ rfl, World.frozen?_alloc_at _ _ _ _ rfl, World.frozen?_alloc_at _ _ _ _ rfl, World.frozen?_alloc_at _ _ _ _ rfl, World.frozen?_alloc_at _ _ _ _ rfl, World.frozen?_alloc_at _ _ _ _ rfl⟩
theorem set6 {w3 : World} {b : Nat} (u0 u1 u2 u3 u4 u5 : Value) : Below b w3 ((((((w3.setCell ⟨b, 0, none⟩ u0).setCell ⟨b, 1, none⟩ u1).setCell ⟨b, 2, none⟩ u2).setCell ⟨b, 3, none⟩ u3).setCell ⟨b, 4, none⟩ u4).setCell ⟨b, 5, none⟩ u5) :=
 ((((((Below.refl _ _).setCell (p := ⟨b, 0, none⟩) (Nat.le_refl _) _).setCell (p := ⟨b, 1, none⟩) (Nat.le_refl _) _).setCell (p := ⟨b, 2, none⟩) (Nat.le_refl _) _).setCell (p := ⟨b, 3, none⟩) (Nat.le_refl _) _).setCell (p := ⟨b, 4, none⟩) (Nat.le_refl _) _).setCell (p := ⟨b, 5, none⟩) (Nat.le_refl _) _

theorem Rd.set6 {w : World} {B b : Nat} {A : Option Addr} {l : List Int} (h : Rd w B A l) (hA : ∀ a, A = some a → a.block ≠ b) (u0 u1 u2 u3 u4 u5 : Value) : Rd ((((((w.setCell ⟨b, 0, none⟩ u0).setCell ⟨b, 1, none⟩ u1).setCell ⟨b, 2, none⟩ u2).setCell ⟨b, 3, none⟩ u3).setCell ⟨b, 4, none⟩ u4).setCell ⟨b, 5, none⟩ u5) B A l :=
 (((((h.far hA 0 u0).far hA 1 u1).far hA 2 u2).far hA 3 u3).far hA 4 u4).far hA 5 u5

end Go.Proofs.YtakonlfojblcmaaGreat

namespace Go.Proofs.YtakonlfojblcmaaGreat
open Go.RowKit Cw
attribute [local go_sem] Oper.semAt_some

def Two (w : World) (b : Nat) (v0 v1 : Value) : Prop := w.cell? ⟨b, 0, none⟩ = some v0 ∧ w.cell? ⟨b, 1, none⟩ = some v1 ∧ w.frozen? ⟨b, 0, none⟩ = false ∧ w.frozen? ⟨b, 1, none⟩ = false
theorem Two.keep {B b : Nat} {w w1 : World} {v0 v1 : Value} (h : Two w b v0 v1) (hb : Below B w w1) (hlt : b < B) : Two w1 b v0 v1 :=
 ⟨(hb.cell (p := ⟨b, 0, none⟩) hlt).trans h.1, (hb.cell (p := ⟨b, 1, none⟩) hlt).trans h.2.1, (hb.frozen (p := ⟨b, 0, none⟩) hlt).trans h.2.2.1, (hb.frozen (p := ⟨b, 1, none⟩) hlt).trans h.2.2.2⟩
theorem Two.new (w : World) (v0 v1 : Value) (t : TypeId) : Two (w.alloc (.cells #[v0, v1] t)) w.heap.size v0 v1 := by unfold Two; simp [go_sem]

def GenrPost (D : Desc) (K : Int) (pts mul : List Int) (w : World) (e : Ending) (w' : World) : Prop :=
 Below w.heap.size w w' ∧ ((gchkD D K pts mul ≠ 0 ∧ e = .returned (.tuple #[.agg #[.int .i64 0, .slice none 0 0], .int .i64 (gchkD D K pts mul)])) ∨
  (gchkD D K pts mul = 0 ∧ ∃ Al cl, e = .returned (.tuple #[.agg #[.int .i64 pts.length, .slice Al K.toNat cl], .int .i64 0]) ∧ RdM w' w'.heap.size Al K.toNat (rowsL D pts.length (gM D pts mul))))
set_option maxRecDepth 100000 in
set_option maxHeartbeats 2000000 in
theorem gGenr_D (D : Desc) (K : Int) (pts mul : List Int) (A A1 A2 : Option Addr) (c c1 c2 : Nat) (w : World) (hr : Rd w w.heap.size A (modL D)) (hg : Good D.p D.m (modL D)) (hr1 : Rd w w.heap.size A1 pts) (hr2 : Rd w w.heap.size A2 mul) (h1 : pts.length ≤ c1) (h1' : c1 ≤ maxLen) (h2 : mul.length ≤ maxLen) :
  Calls Tryz.prog 141 #[.agg #[.int .i64 D.p, .int .i64 D.m, .slice A D.mod.length c, .int .i64 K, .slice A1 pts.length c1, .slice A2 mul.length c2]] w (GenrPost D K pts mul w) := by
 have hN := fun W a b c' => Lib.hid (gOpen_D D K pts mul A A1 A2 c c1 c2 W a hg b c' h1 h1' h2)
 obtain ⟨Z, hZ⟩ : ∃ Z, Z = (w.alloc (.cells #[.int .i64 D.p, .int .i64 D.m, .slice A D.mod.length c, .int .i64 K, .slice A1 pts.length c1, .slice A2 mul.length c2] 61)).alloc (.cells #[.int .i64 0, .slice none 0 0] 78) := ⟨_, rfl⟩
 have hB : Below w.heap.size w Z := by rw [hZ]; exact ((Below.refl _ _).alloc (Nat.le_refl _) _).alloc (by simp) _
 have hZs : Z.heap.size = w.heap.size + 2 := by rw [hZ]; simp
 have k0 := Lib.hid (show Z.cell? ⟨w.heap.size, 0, none⟩ = some (.int .i64 D.p) ∧ Z.cell? ⟨w.heap.size, 1, none⟩ = some (.int .i64 D.m) ∧ Z.cell? ⟨w.heap.size, 2, none⟩ = some (.slice A D.mod.length c) ∧ Z.cell? ⟨w.heap.size, 3, none⟩ = some (.int .i64 K) ∧ Z.cell? ⟨w.heap.size, 4, none⟩ = some (.slice A1 pts.length c1) ∧ Z.cell? ⟨w.heap.size, 5, none⟩ = some (.slice A2 mul.length c2) from by rw [hZ]; simp [go_sem])
 have k1 : Two Z (w.heap.size + 1) (.int .i64 0) (.slice none 0 0) := by
  rw [hZ]; have := Two.new (w.alloc (.cells #[.int .i64 D.p, .int .i64 D.m, .slice A D.mod.length c, .int .i64 K, .slice A1 pts.length c1, .slice A2 mul.length c2] 61)) (.int .i64 0) (.slice none 0 0) 78; rw [World.size_alloc] at this; exact this
 have hN2 := hN Z ((hr.below hB).more hB.size) ((hr1.below hB).more hB.size) ((hr2.below hB).more hB.size)
 replace hZ := Lib.hid hZ
 clear hg hN
 go_enter Tryz.func141, Tryz.ntmps141
 go_wp2_with (fail)
 rw [← hZ.out]
 (with_reducible refine hN2.out.mono ?_)
 rintro e w1 ⟨hb1, g, F, rfl, hgf, hgl, ⟨hz, rfl⟩ | ⟨hz, rfl⟩⟩
 rotate_left
 ·have hzb : (gchkD F.toDesc K pts mul != 0) = true := by rw [bne_iff_ne]; exact hz
  obtain ⟨a0, a1, f0, f1⟩ := k1.keep hb1 (by omega)
  clear k1
  have hBe := Lib.hid ((hB.trans (hb1.mono hB.size)).trans ((set2 (w3 := w1) (b := w.heap.size + 1) (.int .i64 0) (.slice none 0 0)).mono (Nat.le_succ _)))
  replace hz := Lib.hid hz
  go_wp2_with (fail)
  refine bodyPost_ret (v := .tuple #[.agg #[.int .i64 0, .slice none 0 0], .int .i64 (gchkD F.toDesc K pts mul)]) (by simp [results, Tryz.results141, go_sem, a0, a1]) rfl ⟨hBe.out, .inl ⟨hz.out, rfl⟩⟩
 obtain ⟨hp1, hp64, hlen, -, hel, -, -, hK0, hKn⟩ := gchkD_zero hz
 obtain ⟨kn, rfl⟩ := Int.eq_ofNat_of_zero_le hK0
 have hs1 := hb1.size
 have hB1 := hB.trans (hb1.mono hB.size)
 have r1 := k1.keep hb1 (by omega)
 have kk1 := keep6 hb1 (by omega) k0.out
 rw [hlen] at kk1
 simp only [hlen]
 have hG := Lib.hid (gGen_any F kn pts.length pts mul A A1 A2 c c1 c2 g w1 hgf ((hr1.below hB1).more hB1.size) ((hr2.below hB1).more hB1.size) rfl hlen hp1 hp64 (by omega) (of_decide_eq_true hel))
 obtain ⟨q0, q1, q2, q3, q4, q5⟩ := kk1
 replace hz := Lib.hid hz
 replace hlen := Lib.hid hlen
 replace hel := Lib.hid hel
 clear hN2 k0 hr hr1 hr2
 go_wp2_with (fail)
 (with_reducible refine hG.out.mono ?_)
 rintro e w2 ⟨Al, cl, rfl, hru, hb2⟩
 have hs2 := hb2.size
 obtain ⟨a0, a1, f0, f1⟩ := r1.keep hb2 (by omega)
 have hBf := Lib.hid ((hB1.trans (hb2.mono hB1.size)).trans ((set2 (w3 := w2) (b := w.heap.size + 1) (.int .i64 pts.length) (.slice Al kn cl)).mono (Nat.le_succ _)))
 have hrf : Hid (RdMU ((w2.setCell ⟨w.heap.size + 1, 0, none⟩ (.int .i64 pts.length)).setCell ⟨w.heap.size + 1, 1, none⟩ (.slice Al kn cl)) w1.heap.size w2.heap.size Al kn (rowsL F.toDesc pts.length (gM F.toDesc pts mul))) := hru.keepU fun p hp _ => set2_above (b := w.heap.size + 1) (L := w1.heap.size) (by omega) _ _ p hp
 have hsz : Hid (w2.heap.size ≤ ((w2.setCell ⟨w.heap.size + 1, 0, none⟩ (.int .i64 pts.length)).setCell ⟨w.heap.size + 1, 1, none⟩ (.slice Al kn cl)).heap.size) := by unfold Hid; simp [World.setCell]
 clear hru hG r1
 go_wp2_with (fail)
 refine bodyPost_ret (v := .tuple #[.agg #[.int .i64 pts.length, .slice Al kn cl], .int .i64 0]) (by simp [results, Tryz.results141, go_sem, a0, a1]) rfl ⟨hBf.out, .inr ⟨hz.out, Al, cl, rfl, hrf.out.rdm.more hsz.out⟩⟩

end Go.Proofs.YtakonlfojblcmaaGreat
