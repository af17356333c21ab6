/- Layer 18 of the program: copied, Dual. -/
import Derived.Test.YtemanlkgfhmclaaGrsF
namespace Go.Proofs.Ytemanlkgfhmclaa
open Go.RowKit Cw

/-- A list that is read and a list of the call's own share no block. -/
def DisA (A : Option Addr) (l : List Int) (v : Value) : Prop := l ≠ [] → ∀ a, A = some a → v.ownBlock ≠ some a.block
section
variable {A : Option Addr} {l : List Int} {v u : Value} {B : Nat} {W W' Z : World}
theorem DisA.made (hA : ∀ b, A = some b → W.heap.size ≤ b.block) (h : ∀ k, v.ownBlock = some k → B ≤ k ∧ k < W.heap.size) : DisA A l v := fun _ a e e2 => by
  have h1 := hA a e; have h2 := (h _ e2).2; omega
theorem Rd.blt (h : Rd W B A l) (hn : l ≠ []) : ∀ a, A = some a → a.block < B := fun a e => by
  obtain ⟨b, off, e2, hbl, -⟩ := h (by first | exact hn | exact List.length_pos_iff.2 hn)
  rw [e2] at e; cases e; exact hbl
theorem DisA.late (h : Rd W W.heap.size A l) : DisA A l (.slice (some ⟨W.heap.size, 0, none⟩) 0 0) := fun hn a e e2 => by
  have h1 := h.blt hn a e
  simp [Value.ownBlock] at e2; omega
theorem DisA.step (h : DisA A l v) (hr : Rd W W.heap.size A l) (hv : u.ownBlock = v.ownBlock ∨ ∀ k, u.ownBlock = some k → W.heap.size ≤ k) : DisA A l u := fun hn a e e2 => by
  rcases hv with h1 | h1
  · exact h hn a e (h1 ▸ e2)
  · have := h1 _ e2; have := hr.blt hn a e; omega
theorem Rd.grown (h : Rd W B A l) (hg : W.grownBy W' v.ownBlock) (hd : DisA A l v) (_hB : B ≤ W.heap.size) : Rd W' B A l := fun hn => by
  obtain ⟨b, off, e, hbl, hcell⟩ := h hn
  refine ⟨b, off, e, hbl, fun j hj => hg.cell (hcell j hj) fun e2 => ?_⟩
  exact hd (by first | exact hn | exact List.length_pos_iff.1 hn) _ e e2.symm
theorem Dis.late (h : ∀ k, v.ownBlock = some k → B ≤ k ∧ k < W.heap.size) : Dis v (.slice (some ⟨W.heap.size, 0, none⟩) 0 0) := fun k h1 h2 => by
  have := (h k h1).2
  simp [Value.ownBlock] at h2; omega
theorem cpSz {n : Nat} (hZs : Z.heap.size = n) (h : Below B Z W) : n ≤ W.heap.size := hZs ▸ h.size
theorem cpAl (W : World) (t : TypeId) : Below W.heap.size W (W.alloc (.cells #[] t)) := (Below.refl _ _).alloc (Nat.le_refl _) _
theorem cpS {g : Nat} {v0 v1 v2 v3 v4 v5 : Value} (h : Z.cell? ⟨g, 0, none⟩ = some v0 ∧ Z.cell? ⟨g, 1, none⟩ = some v1 ∧ Z.cell? ⟨g, 2, none⟩ = some v2 ∧ Z.cell? ⟨g, 3, none⟩ = some v3 ∧ Z.cell? ⟨g, 4, none⟩ = some v4 ∧ Z.cell? ⟨g, 5, none⟩ = some v5) (hlt : g < B) (hb : Below B Z W) :
    (W.cell? ⟨g, 0, none⟩ = some v0 ∧ W.cell? ⟨g, 1, none⟩ = some v1 ∧ W.cell? ⟨g, 2, none⟩ = some v2 ∧ W.cell? ⟨g, 3, none⟩ = some v3 ∧ W.cell? ⟨g, 4, none⟩ = some v4 ∧ W.cell? ⟨g, 5, none⟩ = some v5) ∧ Below B Z W :=
  ⟨keep6 hb hlt h, hb⟩
theorem Own.set6 {g : Nat} (h : Own W (g + 1) v l) (u0 u1 u2 u3 u4 u5 : Value) : Own ((((((W.setCell ⟨g, 0, none⟩ u0).setCell ⟨g, 1, none⟩ u1).setCell ⟨g, 2, none⟩ u2).setCell ⟨g, 3, none⟩ u3).setCell ⟨g, 4, none⟩ u4).setCell ⟨g, 5, none⟩ u5) (g + 1) v l :=
  (((((h.farB 0 u0).farB 1 u1).farB 2 u2).farB 3 u3).farB 4 u4).farB 5 u5
theorem Own.lower {B' : Nat} (h : Own W B v l) (hB : B' ≤ B) : Own W B' v l := by
  refine ⟨h.1, ?_⟩
  rcases h.2 with hn | ⟨g, cap, cur, rfl, hb, rest⟩
  · exact .inl hn
  · exact .inr ⟨g, cap, cur, rfl, Nat.le_trans hB hb, rest⟩
end

/-- What copied hands back. -/
def CopyPost (F : FD) (K : Int) (pts mul : List Int) (w : World) (e : Ending) (w' : World) : Prop :=
  ∃ A3 c3 A4 c4 A5 c5, e = .returned (.agg #[.int .i64 F.p, .int .i64 F.m, .slice A3 F.mod.length c3, .int .i64 K, .slice A4 pts.length c4, .slice A5 mul.length c5]) ∧ Rd w' w'.heap.size A3 (modL F.toDesc) ∧
    Own w' w.heap.size (.slice A4 pts.length c4) pts ∧ Own w' w.heap.size (.slice A5 mul.length c5) mul ∧ Dis (.slice A4 pts.length c4) (.slice A5 mul.length c5) ∧ DisA A3 (modL F.toDesc) (.slice A4 pts.length c4) ∧ DisA A3 (modL F.toDesc) (.slice A5 mul.length c5) ∧ (∀ b, A3 = some b → w.heap.size ≤ b.block) ∧ Below w.heap.size w w'

set_option maxRecDepth 100000 in
set_option maxHeartbeats 4000000 in
theorem gCopied_any (F : FD) (K : Int) (pts mul : List Int) (A A1 A2 : Option Addr) (c c1 c2 : Nat) (g : Nat) (w : World) (hg : GF w w.heap.size g F) (hr1 : Rd w w.heap.size A1 pts) (hr2 : Rd w w.heap.size A2 mul) (h1 : pts.length ≤ 64) (h2 : mul.length ≤ 64) :
    Calls Try.prog 40 #[.pointer (some ⟨g, 0, none⟩), .agg #[.int .i64 F.p, .int .i64 F.m, .slice A F.mod.length c, .int .i64 K, .slice A1 pts.length c1, .slice A2 mul.length c2]] w (CopyPost F K pts mul w) := by
  have hFi := fun W h => Lib.hid (gField_any F g W h)
  obtain ⟨Y, hY⟩ : ∃ Y, Y = (w.alloc (.cells #[.int .i64 F.p, .int .i64 F.m, .slice A F.mod.length c, .int .i64 K, .slice A1 pts.length c1, .slice A2 mul.length c2] 26)).alloc (.cells #[.int .i64 0, .int .i64 0, .slice none 0 0, .int .i64 0, .slice none 0 0, .slice none 0 0] 26) := ⟨_, rfl⟩
  obtain ⟨Z, hZ⟩ : ∃ Z, Z = Y.drew := ⟨_, rfl⟩
  have hBZ : Hid (Below w.heap.size w Z) := by rw [hZ, hY]; exact (((Below.refl _ _).alloc (Nat.le_refl _) _).alloc (by simp) _).drew
  have hZs : Hid (Z.heap.size = w.heap.size + 2) := by rw [hZ, hY]; simp [Hid]
  have hk6 : Hid (Z.cell? ⟨w.heap.size, 0, none⟩ = some (.int .i64 F.p) ∧ Z.cell? ⟨w.heap.size, 1, none⟩ = some (.int .i64 F.m) ∧ Z.cell? ⟨w.heap.size, 2, none⟩ = some (.slice A F.mod.length c) ∧ Z.cell? ⟨w.heap.size, 3, none⟩ = some (.int .i64 K) ∧ Z.cell? ⟨w.heap.size, 4, none⟩ = some (.slice A1 pts.length c1) ∧ Z.cell? ⟨w.heap.size, 5, none⟩ = some (.slice A2 mul.length c2)) := by rw [hZ, hY]; simp [Hid, go_sem]
  have r6 : Hid (Six Z (w.heap.size + 1) (.int .i64 0) (.int .i64 0) (.slice none 0 0) (.int .i64 0) (.slice none 0 0) (.slice none 0 0)) := by
    rw [hZ, hY]; have := Six.new (w.alloc (.cells #[.int .i64 F.p, .int .i64 F.m, .slice A F.mod.length c, .int .i64 K, .slice A1 pts.length c1, .slice A2 mul.length c2] 26)) (.int .i64 0) (.int .i64 0) (.slice none 0 0) (.int .i64 0) (.slice none 0 0) (.slice none 0 0) 26; rw [World.size_alloc] at this; exact this
  have hgZ : Hid (GF Z (w.heap.size + 2) g F) := (hg.below hBZ.out).more (Nat.le_add_right _ _)
  replace hr1 : Hid (Rd Z (w.heap.size + 2) A1 pts) := (hr1.below hBZ.out).more (Nat.le_add_right _ _)
  replace hr2 : Hid (Rd Z (w.heap.size + 2) A2 mul) := (hr2.below hBZ.out).more (Nat.le_add_right _ _)
  have hH := cpS hk6.out (Nat.lt_add_of_pos_right (by decide) : w.heap.size < w.heap.size + 2) (Below.refl _ _)
  replace hY := Lib.hid hY
  replace hZ := Lib.hid hZ
  clear hg
  go_enter Try.func40, Try.ntmps40
  go_wp2_with (fail)
  rw [← hY.out]
  refine wp_region_held_drew (S := fun w' => w'.cell? ⟨w.heap.size, 0, none⟩ = some (.int .i64 F.p) ∧ w'.cell? ⟨w.heap.size, 1, none⟩ = some (.int .i64 F.m) ∧ w'.cell? ⟨w.heap.size, 2, none⟩ = some (.slice A F.mod.length c) ∧ w'.cell? ⟨w.heap.size, 3, none⟩ = some (.int .i64 K) ∧ w'.cell? ⟨w.heap.size, 4, none⟩ = some (.slice A1 pts.length c1) ∧ w'.cell? ⟨w.heap.size, 5, none⟩ = some (.slice A2 mul.length c2)) (by kernel_rfl) (by (try dsimp only); rw [← hZ.out]; exact hH.1) (fun hHeld => ?_)
  refine wpAnyH_take (i := 0) (oi := ⟨_, _, _, _, _, _⟩) (v := ?_) rfl (by kernel_rfl) (by kernel_rfl) (by kernel_rfl) (fun _ _ _ h => h) (Or.inl ⟨by rfl, ?_⟩) (by assumption) ?_
  rotate_left
  · intro w hSw; (try dsimp only at hSw); go_simp; try with_reducible rfl
  try simp only [Act.put, List.setIfInBounds_toArray, List.set_cons_zero, List.set_cons_succ]
  refine wpAnyH_take (i := 2) (oi := ⟨_, _, _, _, _, _⟩) (v := ?_) rfl (by kernel_rfl) (by kernel_rfl) (by kernel_rfl) (fun _ _ _ h => h) (Or.inl ⟨by rfl, ?_⟩) (by assumption) ?_
  rotate_left
  · intro w hSw; (try dsimp only at hSw); go_simp; try with_reducible rfl
  try simp only [Act.put, List.setIfInBounds_toArray, List.set_cons_zero, List.set_cons_succ]
  refine wpAnyH_take (i := 3) (oi := ⟨_, _, _, _, _, _⟩) (v := ?_) rfl (by kernel_rfl) (by kernel_rfl) (by kernel_rfl) (fun _ _ _ h => h) (Or.inl ⟨by rfl, ?_⟩) (by assumption) ?_
  rotate_left
  · intro w hSw; (try dsimp only at hSw); go_simp; try with_reducible rfl
  try simp only [Act.put, List.setIfInBounds_toArray, List.set_cons_zero, List.set_cons_succ]
  refine wpAnyH_take (i := 5) (oi := ⟨_, _, _, _, _, _⟩) (v := ?_) rfl (by kernel_rfl) (by kernel_rfl) (by kernel_rfl) (fun _ _ _ h => h) (Or.inl ⟨by rfl, ?_⟩) (by assumption) ?_
  rotate_left
  · intro w hSw; (try dsimp only at hSw); go_simp; try with_reducible rfl
  try simp only [Act.put, List.setIfInBounds_toArray, List.set_cons_zero, List.set_cons_succ]
  refine wpAnyH_take (i := 6) (oi := ⟨_, _, _, _, _, _⟩) (v := ?_) rfl (by kernel_rfl) (by kernel_rfl) (by kernel_rfl) (fun _ _ _ h => h) (Or.inl ⟨by rfl, ?_⟩) (by assumption) ?_
  rotate_left
  · intro w hSw; (try dsimp only at hSw); go_simp; try with_reducible rfl
  try simp only [Act.put, List.setIfInBounds_toArray, List.set_cons_zero, List.set_cons_succ]
  refine wpAnyH_take (i := 9) (oi := ⟨_, _, _, _, _, _⟩) (v := ?_) rfl (by kernel_rfl) (by kernel_rfl) (by kernel_rfl) (fun _ _ _ h => h) (Or.inl ⟨by rfl, ?_⟩) (by assumption) ?_
  rotate_left
  · intro w hSw; (try dsimp only at hSw); go_simp; try with_reducible rfl
  try simp only [Act.put, List.setIfInBounds_toArray, List.set_cons_zero, List.set_cons_succ]
  refine wpAnyH_take (i := 10) (oi := ⟨_, _, _, _, _, _⟩) (v := ?_) rfl (by kernel_rfl) (by kernel_rfl) (by kernel_rfl) (fun _ _ _ h => h) (Or.inl ⟨by rfl, ?_⟩) (by assumption) ?_
  rotate_left
  · intro w hSw; (try dsimp only at hSw); go_simp; try with_reducible rfl
  try simp only [Act.put, List.setIfInBounds_toArray, List.set_cons_zero, List.set_cons_succ]
  rw [← hZ.out]
  refine wpAnyH_ready (rs := [1, 4, 8]) (by kernel_rfl) (by simp) ?_
  refine AllReadyH.cons (o := ⟨_, _, _, _, _, _⟩) rfl (fun K hK => ?_) ?_
  · go_simp
    go_at_call 37
    (with_reducible refine (hFi _ ((hgZ.out.below hH.2).more (cpSz hZs.out hH.2))).out.mono ?_)
    rintro e W1 ⟨A3, c3, rfl, hrf, hA3, hb⟩
    replace hA3 : ∀ b, A3 = some b → w.heap.size + 2 ≤ b.block := fun b e => Nat.le_trans (cpSz hZs.out hH.2) (hA3 b e)
    replace hH := cpS hk6.out (Nat.lt_add_of_pos_right (by decide)) (hH.2.trans (hb.mono (cpSz hZs.out hH.2)))
    clear hb
    go_wp2_with (fail)
    refine hK.out _ _ (by (try dsimp only); exact hH.1) (fun hHeld => ?_)
    clear hK K hHeld
    try simp only [Act.put, List.setIfInBounds_toArray, List.set_cons_zero, List.set_cons_succ]
    refine wpAnyH_ready (rs := [4, 8]) (by kernel_rfl) (by simp) ?_
    refine AllReadyH.cons (o := ⟨_, _, _, _, _, _⟩) rfl (fun K hK => ?_) ?_
    · go_simp
      have hb := cpAl W1 3
      have o4 : Own (W1.alloc (.cells #[] 3)) (w.heap.size + 2) (.slice (some ⟨W1.heap.size, 0, none⟩) 0 0) [] := own_empty (heap_alloc_new W1 (.cells #[] 3)) (cpSz hZs.out hH.2)
      replace hH := cpS hk6.out (Nat.lt_add_of_pos_right (by decide)) (hH.2.trans (hb.mono (cpSz hZs.out hH.2)))
      have d4 : DisA A3 (modL F.toDesc) (.slice (some ⟨W1.heap.size, 0, none⟩) 0 0) := DisA.late hrf
      replace hrf := (hrf.below hb).more hb.size
      clear hb
      refine hK.out _ _ (by (try dsimp only); exact hH.1) (fun hHeld => ?_)
      clear hK K hHeld
      try simp only [Act.put, List.setIfInBounds_toArray, List.set_cons_zero, List.set_cons_succ]
      generalize W1.alloc (.cells #[] 3) = W2 at *
      refine wpAnyH_ready (rs := [7, 8]) (by kernel_rfl) (by simp) ?_
      refine AllReadyH.cons (o := ⟨_, _, _, _, _, _⟩) rfl (fun K hK => ?_) ?_
      · refine step_appN rfl (.tmp 9) (.tmp 11) rfl (w.heap.size + 2) _ [] (w.heap.size + 2) A1 c1 pts o4 (hr1.out.below hH.2) rfl rfl rfl (by rw [List.length_nil]; omega) (cpSz hZs.out hH.2) ?_
        intro v3 W3 o4n hb hg hv
        rw [List.nil_append] at o4n
        obtain ⟨B4, k4, rfl, -, -, -⟩ := o4n.form
        have d4n := DisA.step d4 hrf hv
        replace hrf := (hrf.grown hg d4 (Nat.le_refl _)).more hg.size
        replace hH := cpS hk6.out (Nat.lt_add_of_pos_right (by decide)) (hH.2.trans hb)
        clear hb hg hv o4 d4
        have o4 := o4n
        have d4 := d4n
        clear o4n d4n
        refine hK.out _ _ (by (try dsimp only); exact hH.1) (fun hHeld => ?_)
        clear hK K hHeld
        try simp only [Act.put, List.setIfInBounds_toArray, List.set_cons_zero, List.set_cons_succ]
        refine wpAnyH_ready (rs := [8]) (by kernel_rfl) (by simp) ?_
        refine AllReadyH.cons (o := ⟨_, _, _, _, _, _⟩) rfl (fun K hK => ?_) AllReadyH.nil
        go_simp
        have hb := cpAl W3 3
        have o8 : Own (W3.alloc (.cells #[] 3)) (w.heap.size + 2) (.slice (some ⟨W3.heap.size, 0, none⟩) 0 0) [] := own_empty (heap_alloc_new W3 (.cells #[] 3)) (cpSz hZs.out hH.2)
        replace hH := cpS hk6.out (Nat.lt_add_of_pos_right (by decide)) (hH.2.trans (hb.mono (cpSz hZs.out hH.2)))
        have d8 : DisA A3 (modL F.toDesc) (.slice (some ⟨W3.heap.size, 0, none⟩) 0 0) := DisA.late hrf
        replace hrf := (hrf.below hb).more hb.size
        have dd := Dis.late o4.lt
        replace o4 := o4.below hb (Nat.le_refl _)
        clear hb
        refine hK.out _ _ (by (try dsimp only); exact hH.1) (fun hHeld => ?_)
        clear hK K hHeld
        try simp only [Act.put, List.setIfInBounds_toArray, List.set_cons_zero, List.set_cons_succ]
        generalize W3.alloc (.cells #[] 3) = W4 at *
        refine wpAnyH_ready (rs := [11]) (by kernel_rfl) (by simp) ?_
        refine AllReadyH.cons (o := ⟨_, _, _, _, _, _⟩) rfl (fun K hK => ?_) AllReadyH.nil
        refine step_appN rfl (.tmp 13) (.tmp 15) rfl (w.heap.size + 2) _ [] (w.heap.size + 2) A2 c2 mul o8 (hr2.out.below hH.2) rfl rfl rfl (by rw [List.length_nil]; omega) (cpSz hZs.out hH.2) ?_
        intro v3 W5 o8n hb hg hv
        rw [List.nil_append] at o8n
        obtain ⟨B8, k8, rfl, -, -, -⟩ := o8n.form
        have d8n := DisA.step d8 hrf hv
        replace hrf := (hrf.grown hg d8 (Nat.le_refl _)).more hg.size
        have ddn := (dd.symm.step o4.lt hv).symm
        replace o4 := o4.kept hg dd.ne
        replace dd := ddn
        clear ddn
        replace hH := cpS hk6.out (Nat.lt_add_of_pos_right (by decide)) (hH.2.trans hb)
        clear hb hg hv o8 d8
        have o8 := o8n
        have d8 := d8n
        clear o8n d8n
        refine hK.out _ _ (by (try dsimp only); exact hH.1) (fun hHeld => ?_)
        clear hK K hHeld
        try simp only [Act.put, List.setIfInBounds_toArray, List.set_cons_zero, List.set_cons_succ]
        obtain ⟨p0, p1, p2, p3, p4, p5, e0, e1, e2, e3, e4, e5⟩ := r6.out.keep hH.2 (Nat.lt_succ_self _)
        refine wpAnyH_take (i := 12) (oi := ⟨_, _, _, _, _, _⟩) (v := ?_) rfl (by kernel_rfl) (by kernel_rfl) (by kernel_rfl) (fun _ _ _ h => h) (Or.inl ⟨by rfl, ?_⟩) (by first | assumption | exact hH.1) ?_
        rotate_left
        · intro w hSw; (try dsimp only at hSw); go_simp; try with_reducible rfl
        try simp only [Act.put, List.setIfInBounds_toArray, List.set_cons_zero, List.set_cons_succ]
        refine wpAnyH_ready (rs := [13]) (by kernel_rfl) (by simp) ?_
        refine AllReadyH.cons (o := ⟨_, _, _, _, _, _⟩) rfl (fun K hK => ?_) AllReadyH.nil
        go_simp
        refine hK.out _ _ (by (try dsimp only); exact keep6 (set6 _ _ _ _ _ _) (Nat.lt_succ_self _) hH.1) (fun hHeld => ?_)
        clear hK K hHeld
        refine wpAnyH_done (by kernel_rfl) ?_ _
        go_wp2_with (fail)
        refine bodyPost_ret (v := .agg #[.int .i64 F.p, .int .i64 F.m, .slice A3 F.mod.length c3, .int .i64 K, .slice B4 pts.length k4, .slice B8 mul.length k8]) (by simp [results, Try.results40, go_sem, p0, p1, p2, p3, p4, p5]) rfl ⟨A3, c3, B4, k4, B8, k8, rfl, ?_, ?_, ?_, dd, d4, d8, fun b e => Nat.le_trans (Nat.le_add_right _ 2) (hA3 b e), (hBZ.out.trans (hH.2.mono (Nat.le_add_right _ _))).trans ((set6 _ _ _ _ _ _).mono (Nat.le_succ _))⟩
        · exact (hrf.set6 (fun a e => Nat.ne_of_gt (hA3 a e)) _ _ _ _ _ _).more (by simp [World.setCell])
        · exact (o4.set6 _ _ _ _ _ _).lower (by omega)
        · exact (o8.set6 _ _ _ _ _ _).lower (by omega)
      refine AllReadyH.cons (o := ⟨_, _, _, _, _, _⟩) rfl (fun K hK => ?_) AllReadyH.nil
      go_simp
      have hb := cpAl W2 3
      have o8 : Own (W2.alloc (.cells #[] 3)) (w.heap.size + 2) (.slice (some ⟨W2.heap.size, 0, none⟩) 0 0) [] := own_empty (heap_alloc_new W2 (.cells #[] 3)) (cpSz hZs.out hH.2)
      replace hH := cpS hk6.out (Nat.lt_add_of_pos_right (by decide)) (hH.2.trans (hb.mono (cpSz hZs.out hH.2)))
      have d8 : DisA A3 (modL F.toDesc) (.slice (some ⟨W2.heap.size, 0, none⟩) 0 0) := DisA.late hrf
      replace hrf := (hrf.below hb).more hb.size
      have dd := Dis.late o4.lt
      replace o4 := o4.below hb (Nat.le_refl _)
      clear hb
      refine hK.out _ _ (by (try dsimp only); exact hH.1) (fun hHeld => ?_)
      clear hK K hHeld
      try simp only [Act.put, List.setIfInBounds_toArray, List.set_cons_zero, List.set_cons_succ]
      generalize W2.alloc (.cells #[] 3) = W3 at *
      refine wpAnyH_ready (rs := [7]) (by kernel_rfl) (by simp) ?_
      refine AllReadyH.cons (o := ⟨_, _, _, _, _, _⟩) rfl (fun K hK => ?_) AllReadyH.nil
      refine step_appN rfl (.tmp 9) (.tmp 11) rfl (w.heap.size + 2) _ [] (w.heap.size + 2) A1 c1 pts o4 (hr1.out.below hH.2) rfl rfl rfl (by rw [List.length_nil]; omega) (cpSz hZs.out hH.2) ?_
      intro v3 W4 o4n hb hg hv
      rw [List.nil_append] at o4n
      obtain ⟨B4, k4, rfl, -, -, -⟩ := o4n.form
      have d4n := DisA.step d4 hrf hv
      replace hrf := (hrf.grown hg d4 (Nat.le_refl _)).more hg.size
      have ddn := dd.step o8.lt hv
      replace o8 := o8.kept hg dd.symm.ne
      replace dd := ddn
      clear ddn
      replace hH := cpS hk6.out (Nat.lt_add_of_pos_right (by decide)) (hH.2.trans hb)
      clear hb hg hv o4 d4
      have o4 := o4n
      have d4 := d4n
      clear o4n d4n
      refine hK.out _ _ (by (try dsimp only); exact hH.1) (fun hHeld => ?_)
      clear hK K hHeld
      try simp only [Act.put, List.setIfInBounds_toArray, List.set_cons_zero, List.set_cons_succ]
      refine wpAnyH_ready (rs := [11]) (by kernel_rfl) (by simp) ?_
      refine AllReadyH.cons (o := ⟨_, _, _, _, _, _⟩) rfl (fun K hK => ?_) AllReadyH.nil
      refine step_appN rfl (.tmp 13) (.tmp 15) rfl (w.heap.size + 2) _ [] (w.heap.size + 2) A2 c2 mul o8 (hr2.out.below hH.2) rfl rfl rfl (by rw [List.length_nil]; omega) (cpSz hZs.out hH.2) ?_
      intro v3 W5 o8n hb hg hv
      rw [List.nil_append] at o8n
      obtain ⟨B8, k8, rfl, -, -, -⟩ := o8n.form
      have d8n := DisA.step d8 hrf hv
      replace hrf := (hrf.grown hg d8 (Nat.le_refl _)).more hg.size
      have ddn := (dd.symm.step o4.lt hv).symm
      replace o4 := o4.kept hg dd.ne
      replace dd := ddn
      clear ddn
      replace hH := cpS hk6.out (Nat.lt_add_of_pos_right (by decide)) (hH.2.trans hb)
      clear hb hg hv o8 d8
      have o8 := o8n
      have d8 := d8n
      clear o8n d8n
      refine hK.out _ _ (by (try dsimp only); exact hH.1) (fun hHeld => ?_)
      clear hK K hHeld
      try simp only [Act.put, List.setIfInBounds_toArray, List.set_cons_zero, List.set_cons_succ]
      obtain ⟨p0, p1, p2, p3, p4, p5, e0, e1, e2, e3, e4, e5⟩ := r6.out.keep hH.2 (Nat.lt_succ_self _)
      refine wpAnyH_take (i := 12) (oi := ⟨_, _, _, _, _, _⟩) (v := ?_) rfl (by kernel_rfl) (by kernel_rfl) (by kernel_rfl) (fun _ _ _ h => h) (Or.inl ⟨by rfl, ?_⟩) (by first | assumption | exact hH.1) ?_
      rotate_left
      · intro w hSw; (try dsimp only at hSw); go_simp; try with_reducible rfl
      try simp only [Act.put, List.setIfInBounds_toArray, List.set_cons_zero, List.set_cons_succ]
      refine wpAnyH_ready (rs := [13]) (by kernel_rfl) (by simp) ?_
      refine AllReadyH.cons (o := ⟨_, _, _, _, _, _⟩) rfl (fun K hK => ?_) AllReadyH.nil
      go_simp
      refine hK.out _ _ (by (try dsimp only); exact keep6 (set6 _ _ _ _ _ _) (Nat.lt_succ_self _) hH.1) (fun hHeld => ?_)
      clear hK K hHeld
      refine wpAnyH_done (by kernel_rfl) ?_ _
      go_wp2_with (fail)
      refine bodyPost_ret (v := .agg #[.int .i64 F.p, .int .i64 F.m, .slice A3 F.mod.length c3, .int .i64 K, .slice B4 pts.length k4, .slice B8 mul.length k8]) (by simp [results, Try.results40, go_sem, p0, p1, p2, p3, p4, p5]) rfl ⟨A3, c3, B4, k4, B8, k8, rfl, ?_, ?_, ?_, dd, d4, d8, fun b e => Nat.le_trans (Nat.le_add_right _ 2) (hA3 b e), (hBZ.out.trans (hH.2.mono (Nat.le_add_right _ _))).trans ((set6 _ _ _ _ _ _).mono (Nat.le_succ _))⟩
      · exact (hrf.set6 (fun a e => Nat.ne_of_gt (hA3 a e)) _ _ _ _ _ _).more (by simp [World.setCell])
      · exact (o4.set6 _ _ _ _ _ _).lower (by omega)
      · exact (o8.set6 _ _ _ _ _ _).lower (by omega)
    refine AllReadyH.cons (o := ⟨_, _, _, _, _, _⟩) rfl (fun K hK => ?_) AllReadyH.nil
    go_simp
    have hb := cpAl W1 3
    have o8 : Own (W1.alloc (.cells #[] 3)) (w.heap.size + 2) (.slice (some ⟨W1.heap.size, 0, none⟩) 0 0) [] := own_empty (heap_alloc_new W1 (.cells #[] 3)) (cpSz hZs.out hH.2)
    replace hH := cpS hk6.out (Nat.lt_add_of_pos_right (by decide)) (hH.2.trans (hb.mono (cpSz hZs.out hH.2)))
    have d8 : DisA A3 (modL F.toDesc) (.slice (some ⟨W1.heap.size, 0, none⟩) 0 0) := DisA.late hrf
    replace hrf := (hrf.below hb).more hb.size
    clear hb
    refine hK.out _ _ (by (try dsimp only); exact hH.1) (fun hHeld => ?_)
    clear hK K hHeld
    try simp only [Act.put, List.setIfInBounds_toArray, List.set_cons_zero, List.set_cons_succ]
    generalize W1.alloc (.cells #[] 3) = W2 at *
    refine wpAnyH_ready (rs := [4]) (by kernel_rfl) (by simp) ?_
    refine AllReadyH.cons (o := ⟨_, _, _, _, _, _⟩) rfl (fun K hK => ?_) AllReadyH.nil
    go_simp
    have hb := cpAl W2 3
    have o4 : Own (W2.alloc (.cells #[] 3)) (w.heap.size + 2) (.slice (some ⟨W2.heap.size, 0, none⟩) 0 0) [] := own_empty (heap_alloc_new W2 (.cells #[] 3)) (cpSz hZs.out hH.2)
    replace hH := cpS hk6.out (Nat.lt_add_of_pos_right (by decide)) (hH.2.trans (hb.mono (cpSz hZs.out hH.2)))
    have d4 : DisA A3 (modL F.toDesc) (.slice (some ⟨W2.heap.size, 0, none⟩) 0 0) := DisA.late hrf
    replace hrf := (hrf.below hb).more hb.size
    have dd := (Dis.late o8.lt).symm
    replace o8 := o8.below hb (Nat.le_refl _)
    clear hb
    refine hK.out _ _ (by (try dsimp only); exact hH.1) (fun hHeld => ?_)
    clear hK K hHeld
    try simp only [Act.put, List.setIfInBounds_toArray, List.set_cons_zero, List.set_cons_succ]
    generalize W2.alloc (.cells #[] 3) = W3 at *
    refine wpAnyH_ready (rs := [7]) (by kernel_rfl) (by simp) ?_
    refine AllReadyH.cons (o := ⟨_, _, _, _, _, _⟩) rfl (fun K hK => ?_) AllReadyH.nil
    refine step_appN rfl (.tmp 9) (.tmp 11) rfl (w.heap.size + 2) _ [] (w.heap.size + 2) A1 c1 pts o4 (hr1.out.below hH.2) rfl rfl rfl (by rw [List.length_nil]; omega) (cpSz hZs.out hH.2) ?_
    intro v3 W4 o4n hb hg hv
    rw [List.nil_append] at o4n
    obtain ⟨B4, k4, rfl, -, -, -⟩ := o4n.form
    have d4n := DisA.step d4 hrf hv
    replace hrf := (hrf.grown hg d4 (Nat.le_refl _)).more hg.size
    have ddn := dd.step o8.lt hv
    replace o8 := o8.kept hg dd.symm.ne
    replace dd := ddn
    clear ddn
    replace hH := cpS hk6.out (Nat.lt_add_of_pos_right (by decide)) (hH.2.trans hb)
    clear hb hg hv o4 d4
    have o4 := o4n
    have d4 := d4n
    clear o4n d4n
    refine hK.out _ _ (by (try dsimp only); exact hH.1) (fun hHeld => ?_)
    clear hK K hHeld
    try simp only [Act.put, List.setIfInBounds_toArray, List.set_cons_zero, List.set_cons_succ]
    refine wpAnyH_ready (rs := [11]) (by kernel_rfl) (by simp) ?_
    refine AllReadyH.cons (o := ⟨_, _, _, _, _, _⟩) rfl (fun K hK => ?_) AllReadyH.nil
    refine step_appN rfl (.tmp 13) (.tmp 15) rfl (w.heap.size + 2) _ [] (w.heap.size + 2) A2 c2 mul o8 (hr2.out.below hH.2) rfl rfl rfl (by rw [List.length_nil]; omega) (cpSz hZs.out hH.2) ?_
    intro v3 W5 o8n hb hg hv
    rw [List.nil_append] at o8n
    obtain ⟨B8, k8, rfl, -, -, -⟩ := o8n.form
    have d8n := DisA.step d8 hrf hv
    replace hrf := (hrf.grown hg d8 (Nat.le_refl _)).more hg.size
    have ddn := (dd.symm.step o4.lt hv).symm
    replace o4 := o4.kept hg dd.ne
    replace dd := ddn
    clear ddn
    replace hH := cpS hk6.out (Nat.lt_add_of_pos_right (by decide)) (hH.2.trans hb)
    clear hb hg hv o8 d8
    have o8 := o8n
    have d8 := d8n
    clear o8n d8n
    refine hK.out _ _ (by (try dsimp only); exact hH.1) (fun hHeld => ?_)
    clear hK K hHeld
    try simp only [Act.put, List.setIfInBounds_toArray, List.set_cons_zero, List.set_cons_succ]
    obtain ⟨p0, p1, p2, p3, p4, p5, e0, e1, e2, e3, e4, e5⟩ := r6.out.keep hH.2 (Nat.lt_succ_self _)
    refine wpAnyH_take (i := 12) (oi := ⟨_, _, _, _, _, _⟩) (v := ?_) rfl (by kernel_rfl) (by kernel_rfl) (by kernel_rfl) (fun _ _ _ h => h) (Or.inl ⟨by rfl, ?_⟩) (by first | assumption | exact hH.1) ?_
    rotate_left
    · intro w hSw; (try dsimp only at hSw); go_simp; try with_reducible rfl
    try simp only [Act.put, List.setIfInBounds_toArray, List.set_cons_zero, List.set_cons_succ]
    refine wpAnyH_ready (rs := [13]) (by kernel_rfl) (by simp) ?_
    refine AllReadyH.cons (o := ⟨_, _, _, _, _, _⟩) rfl (fun K hK => ?_) AllReadyH.nil
    go_simp
    refine hK.out _ _ (by (try dsimp only); exact keep6 (set6 _ _ _ _ _ _) (Nat.lt_succ_self _) hH.1) (fun hHeld => ?_)
    clear hK K hHeld
    refine wpAnyH_done (by kernel_rfl) ?_ _
    go_wp2_with (fail)
    refine bodyPost_ret (v := .agg #[.int .i64 F.p, .int .i64 F.m, .slice A3 F.mod.length c3, .int .i64 K, .slice B4 pts.length k4, .slice B8 mul.length k8]) (by simp [results, Try.results40, go_sem, p0, p1, p2, p3, p4, p5]) rfl ⟨A3, c3, B4, k4, B8, k8, rfl, ?_, ?_, ?_, dd, d4, d8, fun b e => Nat.le_trans (Nat.le_add_right _ 2) (hA3 b e), (hBZ.out.trans (hH.2.mono (Nat.le_add_right _ _))).trans ((set6 _ _ _ _ _ _).mono (Nat.le_succ _))⟩
    · exact (hrf.set6 (fun a e => Nat.ne_of_gt (hA3 a e)) _ _ _ _ _ _).more (by simp [World.setCell])
    · exact (o4.set6 _ _ _ _ _ _).lower (by omega)
    · exact (o8.set6 _ _ _ _ _ _).lower (by omega)
  refine AllReadyH.cons (o := ⟨_, _, _, _, _, _⟩) rfl (fun K hK => ?_) ?_
  · go_simp
    have hb := cpAl Z 3
    have o4 : Own (Z.alloc (.cells #[] 3)) (w.heap.size + 2) (.slice (some ⟨Z.heap.size, 0, none⟩) 0 0) [] := own_empty (heap_alloc_new Z (.cells #[] 3)) (cpSz hZs.out hH.2)
    replace hH := cpS hk6.out (Nat.lt_add_of_pos_right (by decide)) (hH.2.trans (hb.mono (cpSz hZs.out hH.2)))
    clear hb
    refine hK.out _ _ (by (try dsimp only); exact hH.1) (fun hHeld => ?_)
    clear hK K hHeld
    try simp only [Act.put, List.setIfInBounds_toArray, List.set_cons_zero, List.set_cons_succ]
    generalize Z.alloc (.cells #[] 3) = W1 at *
    refine wpAnyH_ready (rs := [1, 8]) (by kernel_rfl) (by simp) ?_
    refine AllReadyH.cons (o := ⟨_, _, _, _, _, _⟩) rfl (fun K hK => ?_) ?_
    · go_simp
      go_at_call 37
      (with_reducible refine (hFi _ ((hgZ.out.below hH.2).more (cpSz hZs.out hH.2))).out.mono ?_)
      rintro e W2 ⟨A3, c3, rfl, hrf, hA3, hb⟩
      have d4 : DisA A3 (modL F.toDesc) _ := DisA.made hA3 o4.lt
      replace o4 := o4.below hb (Nat.le_refl _)
      replace hA3 : ∀ b, A3 = some b → w.heap.size + 2 ≤ b.block := fun b e => Nat.le_trans (cpSz hZs.out hH.2) (hA3 b e)
      replace hH := cpS hk6.out (Nat.lt_add_of_pos_right (by decide)) (hH.2.trans (hb.mono (cpSz hZs.out hH.2)))
      clear hb
      go_wp2_with (fail)
      refine hK.out _ _ (by (try dsimp only); exact hH.1) (fun hHeld => ?_)
      clear hK K hHeld
      try simp only [Act.put, List.setIfInBounds_toArray, List.set_cons_zero, List.set_cons_succ]
      refine wpAnyH_ready (rs := [7, 8]) (by kernel_rfl) (by simp) ?_
      refine AllReadyH.cons (o := ⟨_, _, _, _, _, _⟩) rfl (fun K hK => ?_) ?_
      · refine step_appN rfl (.tmp 9) (.tmp 11) rfl (w.heap.size + 2) _ [] (w.heap.size + 2) A1 c1 pts o4 (hr1.out.below hH.2) rfl rfl rfl (by rw [List.length_nil]; omega) (cpSz hZs.out hH.2) ?_
        intro v3 W3 o4n hb hg hv
        rw [List.nil_append] at o4n
        obtain ⟨B4, k4, rfl, -, -, -⟩ := o4n.form
        have d4n := DisA.step d4 hrf hv
        replace hrf := (hrf.grown hg d4 (Nat.le_refl _)).more hg.size
        replace hH := cpS hk6.out (Nat.lt_add_of_pos_right (by decide)) (hH.2.trans hb)
        clear hb hg hv o4 d4
        have o4 := o4n
        have d4 := d4n
        clear o4n d4n
        refine hK.out _ _ (by (try dsimp only); exact hH.1) (fun hHeld => ?_)
        clear hK K hHeld
        try simp only [Act.put, List.setIfInBounds_toArray, List.set_cons_zero, List.set_cons_succ]
        refine wpAnyH_ready (rs := [8]) (by kernel_rfl) (by simp) ?_
        refine AllReadyH.cons (o := ⟨_, _, _, _, _, _⟩) rfl (fun K hK => ?_) AllReadyH.nil
        go_simp
        have hb := cpAl W3 3
        have o8 : Own (W3.alloc (.cells #[] 3)) (w.heap.size + 2) (.slice (some ⟨W3.heap.size, 0, none⟩) 0 0) [] := own_empty (heap_alloc_new W3 (.cells #[] 3)) (cpSz hZs.out hH.2)
        replace hH := cpS hk6.out (Nat.lt_add_of_pos_right (by decide)) (hH.2.trans (hb.mono (cpSz hZs.out hH.2)))
        have d8 : DisA A3 (modL F.toDesc) (.slice (some ⟨W3.heap.size, 0, none⟩) 0 0) := DisA.late hrf
        replace hrf := (hrf.below hb).more hb.size
        have dd := Dis.late o4.lt
        replace o4 := o4.below hb (Nat.le_refl _)
        clear hb
        refine hK.out _ _ (by (try dsimp only); exact hH.1) (fun hHeld => ?_)
        clear hK K hHeld
        try simp only [Act.put, List.setIfInBounds_toArray, List.set_cons_zero, List.set_cons_succ]
        generalize W3.alloc (.cells #[] 3) = W4 at *
        refine wpAnyH_ready (rs := [11]) (by kernel_rfl) (by simp) ?_
        refine AllReadyH.cons (o := ⟨_, _, _, _, _, _⟩) rfl (fun K hK => ?_) AllReadyH.nil
        refine step_appN rfl (.tmp 13) (.tmp 15) rfl (w.heap.size + 2) _ [] (w.heap.size + 2) A2 c2 mul o8 (hr2.out.below hH.2) rfl rfl rfl (by rw [List.length_nil]; omega) (cpSz hZs.out hH.2) ?_
        intro v3 W5 o8n hb hg hv
        rw [List.nil_append] at o8n
        obtain ⟨B8, k8, rfl, -, -, -⟩ := o8n.form
        have d8n := DisA.step d8 hrf hv
        replace hrf := (hrf.grown hg d8 (Nat.le_refl _)).more hg.size
        have ddn := (dd.symm.step o4.lt hv).symm
        replace o4 := o4.kept hg dd.ne
        replace dd := ddn
        clear ddn
        replace hH := cpS hk6.out (Nat.lt_add_of_pos_right (by decide)) (hH.2.trans hb)
        clear hb hg hv o8 d8
        have o8 := o8n
        have d8 := d8n
        clear o8n d8n
        refine hK.out _ _ (by (try dsimp only); exact hH.1) (fun hHeld => ?_)
        clear hK K hHeld
        try simp only [Act.put, List.setIfInBounds_toArray, List.set_cons_zero, List.set_cons_succ]
        obtain ⟨p0, p1, p2, p3, p4, p5, e0, e1, e2, e3, e4, e5⟩ := r6.out.keep hH.2 (Nat.lt_succ_self _)
        refine wpAnyH_take (i := 12) (oi := ⟨_, _, _, _, _, _⟩) (v := ?_) rfl (by kernel_rfl) (by kernel_rfl) (by kernel_rfl) (fun _ _ _ h => h) (Or.inl ⟨by rfl, ?_⟩) (by first | assumption | exact hH.1) ?_
        rotate_left
        · intro w hSw; (try dsimp only at hSw); go_simp; try with_reducible rfl
        try simp only [Act.put, List.setIfInBounds_toArray, List.set_cons_zero, List.set_cons_succ]
        refine wpAnyH_ready (rs := [13]) (by kernel_rfl) (by simp) ?_
        refine AllReadyH.cons (o := ⟨_, _, _, _, _, _⟩) rfl (fun K hK => ?_) AllReadyH.nil
        go_simp
        refine hK.out _ _ (by (try dsimp only); exact keep6 (set6 _ _ _ _ _ _) (Nat.lt_succ_self _) hH.1) (fun hHeld => ?_)
        clear hK K hHeld
        refine wpAnyH_done (by kernel_rfl) ?_ _
        go_wp2_with (fail)
        refine bodyPost_ret (v := .agg #[.int .i64 F.p, .int .i64 F.m, .slice A3 F.mod.length c3, .int .i64 K, .slice B4 pts.length k4, .slice B8 mul.length k8]) (by simp [results, Try.results40, go_sem, p0, p1, p2, p3, p4, p5]) rfl ⟨A3, c3, B4, k4, B8, k8, rfl, ?_, ?_, ?_, dd, d4, d8, fun b e => Nat.le_trans (Nat.le_add_right _ 2) (hA3 b e), (hBZ.out.trans (hH.2.mono (Nat.le_add_right _ _))).trans ((set6 _ _ _ _ _ _).mono (Nat.le_succ _))⟩
        · exact (hrf.set6 (fun a e => Nat.ne_of_gt (hA3 a e)) _ _ _ _ _ _).more (by simp [World.setCell])
        · exact (o4.set6 _ _ _ _ _ _).lower (by omega)
        · exact (o8.set6 _ _ _ _ _ _).lower (by omega)
      refine AllReadyH.cons (o := ⟨_, _, _, _, _, _⟩) rfl (fun K hK => ?_) AllReadyH.nil
      go_simp
      have hb := cpAl W2 3
      have o8 : Own (W2.alloc (.cells #[] 3)) (w.heap.size + 2) (.slice (some ⟨W2.heap.size, 0, none⟩) 0 0) [] := own_empty (heap_alloc_new W2 (.cells #[] 3)) (cpSz hZs.out hH.2)
      replace hH := cpS hk6.out (Nat.lt_add_of_pos_right (by decide)) (hH.2.trans (hb.mono (cpSz hZs.out hH.2)))
      have d8 : DisA A3 (modL F.toDesc) (.slice (some ⟨W2.heap.size, 0, none⟩) 0 0) := DisA.late hrf
      replace hrf := (hrf.below hb).more hb.size
      have dd := Dis.late o4.lt
      replace o4 := o4.below hb (Nat.le_refl _)
      clear hb
      refine hK.out _ _ (by (try dsimp only); exact hH.1) (fun hHeld => ?_)
      clear hK K hHeld
      try simp only [Act.put, List.setIfInBounds_toArray, List.set_cons_zero, List.set_cons_succ]
      generalize W2.alloc (.cells #[] 3) = W3 at *
      refine wpAnyH_ready (rs := [7]) (by kernel_rfl) (by simp) ?_
      refine AllReadyH.cons (o := ⟨_, _, _, _, _, _⟩) rfl (fun K hK => ?_) AllReadyH.nil
      refine step_appN rfl (.tmp 9) (.tmp 11) rfl (w.heap.size + 2) _ [] (w.heap.size + 2) A1 c1 pts o4 (hr1.out.below hH.2) rfl rfl rfl (by rw [List.length_nil]; omega) (cpSz hZs.out hH.2) ?_
      intro v3 W4 o4n hb hg hv
      rw [List.nil_append] at o4n
      obtain ⟨B4, k4, rfl, -, -, -⟩ := o4n.form
      have d4n := DisA.step d4 hrf hv
      replace hrf := (hrf.grown hg d4 (Nat.le_refl _)).more hg.size
      have ddn := dd.step o8.lt hv
      replace o8 := o8.kept hg dd.symm.ne
      replace dd := ddn
      clear ddn
      replace hH := cpS hk6.out (Nat.lt_add_of_pos_right (by decide)) (hH.2.trans hb)
      clear hb hg hv o4 d4
      have o4 := o4n
      have d4 := d4n
      clear o4n d4n
      refine hK.out _ _ (by (try dsimp only); exact hH.1) (fun hHeld => ?_)
      clear hK K hHeld
      try simp only [Act.put, List.setIfInBounds_toArray, List.set_cons_zero, List.set_cons_succ]
      refine wpAnyH_ready (rs := [11]) (by kernel_rfl) (by simp) ?_
      refine AllReadyH.cons (o := ⟨_, _, _, _, _, _⟩) rfl (fun K hK => ?_) AllReadyH.nil
      refine step_appN rfl (.tmp 13) (.tmp 15) rfl (w.heap.size + 2) _ [] (w.heap.size + 2) A2 c2 mul o8 (hr2.out.below hH.2) rfl rfl rfl (by rw [List.length_nil]; omega) (cpSz hZs.out hH.2) ?_
      intro v3 W5 o8n hb hg hv
      rw [List.nil_append] at o8n
      obtain ⟨B8, k8, rfl, -, -, -⟩ := o8n.form
      have d8n := DisA.step d8 hrf hv
      replace hrf := (hrf.grown hg d8 (Nat.le_refl _)).more hg.size
      have ddn := (dd.symm.step o4.lt hv).symm
      replace o4 := o4.kept hg dd.ne
      replace dd := ddn
      clear ddn
      replace hH := cpS hk6.out (Nat.lt_add_of_pos_right (by decide)) (hH.2.trans hb)
      clear hb hg hv o8 d8
      have o8 := o8n
      have d8 := d8n
      clear o8n d8n
      refine hK.out _ _ (by (try dsimp only); exact hH.1) (fun hHeld => ?_)
      clear hK K hHeld
      try simp only [Act.put, List.setIfInBounds_toArray, List.set_cons_zero, List.set_cons_succ]
      obtain ⟨p0, p1, p2, p3, p4, p5, e0, e1, e2, e3, e4, e5⟩ := r6.out.keep hH.2 (Nat.lt_succ_self _)
      refine wpAnyH_take (i := 12) (oi := ⟨_, _, _, _, _, _⟩) (v := ?_) rfl (by kernel_rfl) (by kernel_rfl) (by kernel_rfl) (fun _ _ _ h => h) (Or.inl ⟨by rfl, ?_⟩) (by first | assumption | exact hH.1) ?_
      rotate_left
      · intro w hSw; (try dsimp only at hSw); go_simp; try with_reducible rfl
      try simp only [Act.put, List.setIfInBounds_toArray, List.set_cons_zero, List.set_cons_succ]
      refine wpAnyH_ready (rs := [13]) (by kernel_rfl) (by simp) ?_
      refine AllReadyH.cons (o := ⟨_, _, _, _, _, _⟩) rfl (fun K hK => ?_) AllReadyH.nil
      go_simp
      refine hK.out _ _ (by (try dsimp only); exact keep6 (set6 _ _ _ _ _ _) (Nat.lt_succ_self _) hH.1) (fun hHeld => ?_)
      clear hK K hHeld
      refine wpAnyH_done (by kernel_rfl) ?_ _
      go_wp2_with (fail)
      refine bodyPost_ret (v := .agg #[.int .i64 F.p, .int .i64 F.m, .slice A3 F.mod.length c3, .int .i64 K, .slice B4 pts.length k4, .slice B8 mul.length k8]) (by simp [results, Try.results40, go_sem, p0, p1, p2, p3, p4, p5]) rfl ⟨A3, c3, B4, k4, B8, k8, rfl, ?_, ?_, ?_, dd, d4, d8, fun b e => Nat.le_trans (Nat.le_add_right _ 2) (hA3 b e), (hBZ.out.trans (hH.2.mono (Nat.le_add_right _ _))).trans ((set6 _ _ _ _ _ _).mono (Nat.le_succ _))⟩
      · exact (hrf.set6 (fun a e => Nat.ne_of_gt (hA3 a e)) _ _ _ _ _ _).more (by simp [World.setCell])
      · exact (o4.set6 _ _ _ _ _ _).lower (by omega)
      · exact (o8.set6 _ _ _ _ _ _).lower (by omega)
    refine AllReadyH.cons (o := ⟨_, _, _, _, _, _⟩) rfl (fun K hK => ?_) AllReadyH.nil
    go_simp
    have hb := cpAl W1 3
    have o8 : Own (W1.alloc (.cells #[] 3)) (w.heap.size + 2) (.slice (some ⟨W1.heap.size, 0, none⟩) 0 0) [] := own_empty (heap_alloc_new W1 (.cells #[] 3)) (cpSz hZs.out hH.2)
    replace hH := cpS hk6.out (Nat.lt_add_of_pos_right (by decide)) (hH.2.trans (hb.mono (cpSz hZs.out hH.2)))
    have dd := Dis.late o4.lt
    replace o4 := o4.below hb (Nat.le_refl _)
    clear hb
    refine hK.out _ _ (by (try dsimp only); exact hH.1) (fun hHeld => ?_)
    clear hK K hHeld
    try simp only [Act.put, List.setIfInBounds_toArray, List.set_cons_zero, List.set_cons_succ]
    generalize W1.alloc (.cells #[] 3) = W2 at *
    refine wpAnyH_ready (rs := [1]) (by kernel_rfl) (by simp) ?_
    refine AllReadyH.cons (o := ⟨_, _, _, _, _, _⟩) rfl (fun K hK => ?_) AllReadyH.nil
    go_simp
    go_at_call 37
    (with_reducible refine (hFi _ ((hgZ.out.below hH.2).more (cpSz hZs.out hH.2))).out.mono ?_)
    rintro e W3 ⟨A3, c3, rfl, hrf, hA3, hb⟩
    have d4 : DisA A3 (modL F.toDesc) _ := DisA.made hA3 o4.lt
    replace o4 := o4.below hb (Nat.le_refl _)
    have d8 : DisA A3 (modL F.toDesc) _ := DisA.made hA3 o8.lt
    replace o8 := o8.below hb (Nat.le_refl _)
    replace hA3 : ∀ b, A3 = some b → w.heap.size + 2 ≤ b.block := fun b e => Nat.le_trans (cpSz hZs.out hH.2) (hA3 b e)
    replace hH := cpS hk6.out (Nat.lt_add_of_pos_right (by decide)) (hH.2.trans (hb.mono (cpSz hZs.out hH.2)))
    clear hb
    go_wp2_with (fail)
    refine hK.out _ _ (by (try dsimp only); exact hH.1) (fun hHeld => ?_)
    clear hK K hHeld
    try simp only [Act.put, List.setIfInBounds_toArray, List.set_cons_zero, List.set_cons_succ]
    refine wpAnyH_ready (rs := [7]) (by kernel_rfl) (by simp) ?_
    refine AllReadyH.cons (o := ⟨_, _, _, _, _, _⟩) rfl (fun K hK => ?_) AllReadyH.nil
    refine step_appN rfl (.tmp 9) (.tmp 11) rfl (w.heap.size + 2) _ [] (w.heap.size + 2) A1 c1 pts o4 (hr1.out.below hH.2) rfl rfl rfl (by rw [List.length_nil]; omega) (cpSz hZs.out hH.2) ?_
    intro v3 W4 o4n hb hg hv
    rw [List.nil_append] at o4n
    obtain ⟨B4, k4, rfl, -, -, -⟩ := o4n.form
    have d4n := DisA.step d4 hrf hv
    replace hrf := (hrf.grown hg d4 (Nat.le_refl _)).more hg.size
    have ddn := dd.step o8.lt hv
    replace o8 := o8.kept hg dd.symm.ne
    replace dd := ddn
    clear ddn
    replace hH := cpS hk6.out (Nat.lt_add_of_pos_right (by decide)) (hH.2.trans hb)
    clear hb hg hv o4 d4
    have o4 := o4n
    have d4 := d4n
    clear o4n d4n
    refine hK.out _ _ (by (try dsimp only); exact hH.1) (fun hHeld => ?_)
    clear hK K hHeld
    try simp only [Act.put, List.setIfInBounds_toArray, List.set_cons_zero, List.set_cons_succ]
    refine wpAnyH_ready (rs := [11]) (by kernel_rfl) (by simp) ?_
    refine AllReadyH.cons (o := ⟨_, _, _, _, _, _⟩) rfl (fun K hK => ?_) AllReadyH.nil
    refine step_appN rfl (.tmp 13) (.tmp 15) rfl (w.heap.size + 2) _ [] (w.heap.size + 2) A2 c2 mul o8 (hr2.out.below hH.2) rfl rfl rfl (by rw [List.length_nil]; omega) (cpSz hZs.out hH.2) ?_
    intro v3 W5 o8n hb hg hv
    rw [List.nil_append] at o8n
    obtain ⟨B8, k8, rfl, -, -, -⟩ := o8n.form
    have d8n := DisA.step d8 hrf hv
    replace hrf := (hrf.grown hg d8 (Nat.le_refl _)).more hg.size
    have ddn := (dd.symm.step o4.lt hv).symm
    replace o4 := o4.kept hg dd.ne
    replace dd := ddn
    clear ddn
    replace hH := cpS hk6.out (Nat.lt_add_of_pos_right (by decide)) (hH.2.trans hb)
    clear hb hg hv o8 d8
    have o8 := o8n
    have d8 := d8n
    clear o8n d8n
    refine hK.out _ _ (by (try dsimp only); exact hH.1) (fun hHeld => ?_)
    clear hK K hHeld
    try simp only [Act.put, List.setIfInBounds_toArray, List.set_cons_zero, List.set_cons_succ]
    obtain ⟨p0, p1, p2, p3, p4, p5, e0, e1, e2, e3, e4, e5⟩ := r6.out.keep hH.2 (Nat.lt_succ_self _)
    refine wpAnyH_take (i := 12) (oi := ⟨_, _, _, _, _, _⟩) (v := ?_) rfl (by kernel_rfl) (by kernel_rfl) (by kernel_rfl) (fun _ _ _ h => h) (Or.inl ⟨by rfl, ?_⟩) (by first | assumption | exact hH.1) ?_
    rotate_left
    · intro w hSw; (try dsimp only at hSw); go_simp; try with_reducible rfl
    try simp only [Act.put, List.setIfInBounds_toArray, List.set_cons_zero, List.set_cons_succ]
    refine wpAnyH_ready (rs := [13]) (by kernel_rfl) (by simp) ?_
    refine AllReadyH.cons (o := ⟨_, _, _, _, _, _⟩) rfl (fun K hK => ?_) AllReadyH.nil
    go_simp
    refine hK.out _ _ (by (try dsimp only); exact keep6 (set6 _ _ _ _ _ _) (Nat.lt_succ_self _) hH.1) (fun hHeld => ?_)
    clear hK K hHeld
    refine wpAnyH_done (by kernel_rfl) ?_ _
    go_wp2_with (fail)
    refine bodyPost_ret (v := .agg #[.int .i64 F.p, .int .i64 F.m, .slice A3 F.mod.length c3, .int .i64 K, .slice B4 pts.length k4, .slice B8 mul.length k8]) (by simp [results, Try.results40, go_sem, p0, p1, p2, p3, p4, p5]) rfl ⟨A3, c3, B4, k4, B8, k8, rfl, ?_, ?_, ?_, dd, d4, d8, fun b e => Nat.le_trans (Nat.le_add_right _ 2) (hA3 b e), (hBZ.out.trans (hH.2.mono (Nat.le_add_right _ _))).trans ((set6 _ _ _ _ _ _).mono (Nat.le_succ _))⟩
    · exact (hrf.set6 (fun a e => Nat.ne_of_gt (hA3 a e)) _ _ _ _ _ _).more (by simp [World.setCell])
    · exact (o4.set6 _ _ _ _ _ _).lower (by omega)
    · exact (o8.set6 _ _ _ _ _ _).lower (by omega)
  refine AllReadyH.cons (o := ⟨_, _, _, _, _, _⟩) rfl (fun K hK => ?_) AllReadyH.nil
  go_simp
  have hb := cpAl Z 3
  have o8 : Own (Z.alloc (.cells #[] 3)) (w.heap.size + 2) (.slice (some ⟨Z.heap.size, 0, none⟩) 0 0) [] := own_empty (heap_alloc_new Z (.cells #[] 3)) (cpSz hZs.out hH.2)
  replace hH := cpS hk6.out (Nat.lt_add_of_pos_right (by decide)) (hH.2.trans (hb.mono (cpSz hZs.out hH.2)))
  clear hb
  refine hK.out _ _ (by (try dsimp only); exact hH.1) (fun hHeld => ?_)
  clear hK K hHeld
  try simp only [Act.put, List.setIfInBounds_toArray, List.set_cons_zero, List.set_cons_succ]
  generalize Z.alloc (.cells #[] 3) = W1 at *
  refine wpAnyH_ready (rs := [1, 4]) (by kernel_rfl) (by simp) ?_
  refine AllReadyH.cons (o := ⟨_, _, _, _, _, _⟩) rfl (fun K hK => ?_) ?_
  · go_simp
    go_at_call 37
    (with_reducible refine (hFi _ ((hgZ.out.below hH.2).more (cpSz hZs.out hH.2))).out.mono ?_)
    rintro e W2 ⟨A3, c3, rfl, hrf, hA3, hb⟩
    have d8 : DisA A3 (modL F.toDesc) _ := DisA.made hA3 o8.lt
    replace o8 := o8.below hb (Nat.le_refl _)
    replace hA3 : ∀ b, A3 = some b → w.heap.size + 2 ≤ b.block := fun b e => Nat.le_trans (cpSz hZs.out hH.2) (hA3 b e)
    replace hH := cpS hk6.out (Nat.lt_add_of_pos_right (by decide)) (hH.2.trans (hb.mono (cpSz hZs.out hH.2)))
    clear hb
    go_wp2_with (fail)
    refine hK.out _ _ (by (try dsimp only); exact hH.1) (fun hHeld => ?_)
    clear hK K hHeld
    try simp only [Act.put, List.setIfInBounds_toArray, List.set_cons_zero, List.set_cons_succ]
    refine wpAnyH_ready (rs := [4]) (by kernel_rfl) (by simp) ?_
    refine AllReadyH.cons (o := ⟨_, _, _, _, _, _⟩) rfl (fun K hK => ?_) AllReadyH.nil
    go_simp
    have hb := cpAl W2 3
    have o4 : Own (W2.alloc (.cells #[] 3)) (w.heap.size + 2) (.slice (some ⟨W2.heap.size, 0, none⟩) 0 0) [] := own_empty (heap_alloc_new W2 (.cells #[] 3)) (cpSz hZs.out hH.2)
    replace hH := cpS hk6.out (Nat.lt_add_of_pos_right (by decide)) (hH.2.trans (hb.mono (cpSz hZs.out hH.2)))
    have d4 : DisA A3 (modL F.toDesc) (.slice (some ⟨W2.heap.size, 0, none⟩) 0 0) := DisA.late hrf
    replace hrf := (hrf.below hb).more hb.size
    have dd := (Dis.late o8.lt).symm
    replace o8 := o8.below hb (Nat.le_refl _)
    clear hb
    refine hK.out _ _ (by (try dsimp only); exact hH.1) (fun hHeld => ?_)
    clear hK K hHeld
    try simp only [Act.put, List.setIfInBounds_toArray, List.set_cons_zero, List.set_cons_succ]
    generalize W2.alloc (.cells #[] 3) = W3 at *
    refine wpAnyH_ready (rs := [7]) (by kernel_rfl) (by simp) ?_
    refine AllReadyH.cons (o := ⟨_, _, _, _, _, _⟩) rfl (fun K hK => ?_) AllReadyH.nil
    refine step_appN rfl (.tmp 9) (.tmp 11) rfl (w.heap.size + 2) _ [] (w.heap.size + 2) A1 c1 pts o4 (hr1.out.below hH.2) rfl rfl rfl (by rw [List.length_nil]; omega) (cpSz hZs.out hH.2) ?_
    intro v3 W4 o4n hb hg hv
    rw [List.nil_append] at o4n
    obtain ⟨B4, k4, rfl, -, -, -⟩ := o4n.form
    have d4n := DisA.step d4 hrf hv
    replace hrf := (hrf.grown hg d4 (Nat.le_refl _)).more hg.size
    have ddn := dd.step o8.lt hv
    replace o8 := o8.kept hg dd.symm.ne
    replace dd := ddn
    clear ddn
    replace hH := cpS hk6.out (Nat.lt_add_of_pos_right (by decide)) (hH.2.trans hb)
    clear hb hg hv o4 d4
    have o4 := o4n
    have d4 := d4n
    clear o4n d4n
    refine hK.out _ _ (by (try dsimp only); exact hH.1) (fun hHeld => ?_)
    clear hK K hHeld
    try simp only [Act.put, List.setIfInBounds_toArray, List.set_cons_zero, List.set_cons_succ]
    refine wpAnyH_ready (rs := [11]) (by kernel_rfl) (by simp) ?_
    refine AllReadyH.cons (o := ⟨_, _, _, _, _, _⟩) rfl (fun K hK => ?_) AllReadyH.nil
    refine step_appN rfl (.tmp 13) (.tmp 15) rfl (w.heap.size + 2) _ [] (w.heap.size + 2) A2 c2 mul o8 (hr2.out.below hH.2) rfl rfl rfl (by rw [List.length_nil]; omega) (cpSz hZs.out hH.2) ?_
    intro v3 W5 o8n hb hg hv
    rw [List.nil_append] at o8n
    obtain ⟨B8, k8, rfl, -, -, -⟩ := o8n.form
    have d8n := DisA.step d8 hrf hv
    replace hrf := (hrf.grown hg d8 (Nat.le_refl _)).more hg.size
    have ddn := (dd.symm.step o4.lt hv).symm
    replace o4 := o4.kept hg dd.ne
    replace dd := ddn
    clear ddn
    replace hH := cpS hk6.out (Nat.lt_add_of_pos_right (by decide)) (hH.2.trans hb)
    clear hb hg hv o8 d8
    have o8 := o8n
    have d8 := d8n
    clear o8n d8n
    refine hK.out _ _ (by (try dsimp only); exact hH.1) (fun hHeld => ?_)
    clear hK K hHeld
    try simp only [Act.put, List.setIfInBounds_toArray, List.set_cons_zero, List.set_cons_succ]
    obtain ⟨p0, p1, p2, p3, p4, p5, e0, e1, e2, e3, e4, e5⟩ := r6.out.keep hH.2 (Nat.lt_succ_self _)
    refine wpAnyH_take (i := 12) (oi := ⟨_, _, _, _, _, _⟩) (v := ?_) rfl (by kernel_rfl) (by kernel_rfl) (by kernel_rfl) (fun _ _ _ h => h) (Or.inl ⟨by rfl, ?_⟩) (by first | assumption | exact hH.1) ?_
    rotate_left
    · intro w hSw; (try dsimp only at hSw); go_simp; try with_reducible rfl
    try simp only [Act.put, List.setIfInBounds_toArray, List.set_cons_zero, List.set_cons_succ]
    refine wpAnyH_ready (rs := [13]) (by kernel_rfl) (by simp) ?_
    refine AllReadyH.cons (o := ⟨_, _, _, _, _, _⟩) rfl (fun K hK => ?_) AllReadyH.nil
    go_simp
    refine hK.out _ _ (by (try dsimp only); exact keep6 (set6 _ _ _ _ _ _) (Nat.lt_succ_self _) hH.1) (fun hHeld => ?_)
    clear hK K hHeld
    refine wpAnyH_done (by kernel_rfl) ?_ _
    go_wp2_with (fail)
    refine bodyPost_ret (v := .agg #[.int .i64 F.p, .int .i64 F.m, .slice A3 F.mod.length c3, .int .i64 K, .slice B4 pts.length k4, .slice B8 mul.length k8]) (by simp [results, Try.results40, go_sem, p0, p1, p2, p3, p4, p5]) rfl ⟨A3, c3, B4, k4, B8, k8, rfl, ?_, ?_, ?_, dd, d4, d8, fun b e => Nat.le_trans (Nat.le_add_right _ 2) (hA3 b e), (hBZ.out.trans (hH.2.mono (Nat.le_add_right _ _))).trans ((set6 _ _ _ _ _ _).mono (Nat.le_succ _))⟩
    · exact (hrf.set6 (fun a e => Nat.ne_of_gt (hA3 a e)) _ _ _ _ _ _).more (by simp [World.setCell])
    · exact (o4.set6 _ _ _ _ _ _).lower (by omega)
    · exact (o8.set6 _ _ _ _ _ _).lower (by omega)
  refine AllReadyH.cons (o := ⟨_, _, _, _, _, _⟩) rfl (fun K hK => ?_) AllReadyH.nil
  go_simp
  have hb := cpAl W1 3
  have o4 : Own (W1.alloc (.cells #[] 3)) (w.heap.size + 2) (.slice (some ⟨W1.heap.size, 0, none⟩) 0 0) [] := own_empty (heap_alloc_new W1 (.cells #[] 3)) (cpSz hZs.out hH.2)
  replace hH := cpS hk6.out (Nat.lt_add_of_pos_right (by decide)) (hH.2.trans (hb.mono (cpSz hZs.out hH.2)))
  have dd := (Dis.late o8.lt).symm
  replace o8 := o8.below hb (Nat.le_refl _)
  clear hb
  refine hK.out _ _ (by (try dsimp only); exact hH.1) (fun hHeld => ?_)
  clear hK K hHeld
  try simp only [Act.put, List.setIfInBounds_toArray, List.set_cons_zero, List.set_cons_succ]
  generalize W1.alloc (.cells #[] 3) = W2 at *
  refine wpAnyH_ready (rs := [1]) (by kernel_rfl) (by simp) ?_
  refine AllReadyH.cons (o := ⟨_, _, _, _, _, _⟩) rfl (fun K hK => ?_) AllReadyH.nil
  go_simp
  go_at_call 37
  (with_reducible refine (hFi _ ((hgZ.out.below hH.2).more (cpSz hZs.out hH.2))).out.mono ?_)
  rintro e W3 ⟨A3, c3, rfl, hrf, hA3, hb⟩
  have d4 : DisA A3 (modL F.toDesc) _ := DisA.made hA3 o4.lt
  replace o4 := o4.below hb (Nat.le_refl _)
  have d8 : DisA A3 (modL F.toDesc) _ := DisA.made hA3 o8.lt
  replace o8 := o8.below hb (Nat.le_refl _)
  replace hA3 : ∀ b, A3 = some b → w.heap.size + 2 ≤ b.block := fun b e => Nat.le_trans (cpSz hZs.out hH.2) (hA3 b e)
  replace hH := cpS hk6.out (Nat.lt_add_of_pos_right (by decide)) (hH.2.trans (hb.mono (cpSz hZs.out hH.2)))
  clear hb
  go_wp2_with (fail)
  refine hK.out _ _ (by (try dsimp only); exact hH.1) (fun hHeld => ?_)
  clear hK K hHeld
  try simp only [Act.put, List.setIfInBounds_toArray, List.set_cons_zero, List.set_cons_succ]
  refine wpAnyH_ready (rs := [7]) (by kernel_rfl) (by simp) ?_
  refine AllReadyH.cons (o := ⟨_, _, _, _, _, _⟩) rfl (fun K hK => ?_) AllReadyH.nil
  refine step_appN rfl (.tmp 9) (.tmp 11) rfl (w.heap.size + 2) _ [] (w.heap.size + 2) A1 c1 pts o4 (hr1.out.below hH.2) rfl rfl rfl (by rw [List.length_nil]; omega) (cpSz hZs.out hH.2) ?_
  intro v3 W4 o4n hb hg hv
  rw [List.nil_append] at o4n
  obtain ⟨B4, k4, rfl, -, -, -⟩ := o4n.form
  have d4n := DisA.step d4 hrf hv
  replace hrf := (hrf.grown hg d4 (Nat.le_refl _)).more hg.size
  have ddn := dd.step o8.lt hv
  replace o8 := o8.kept hg dd.symm.ne
  replace dd := ddn
  clear ddn
  replace hH := cpS hk6.out (Nat.lt_add_of_pos_right (by decide)) (hH.2.trans hb)
  clear hb hg hv o4 d4
  have o4 := o4n
  have d4 := d4n
  clear o4n d4n
  refine hK.out _ _ (by (try dsimp only); exact hH.1) (fun hHeld => ?_)
  clear hK K hHeld
  try simp only [Act.put, List.setIfInBounds_toArray, List.set_cons_zero, List.set_cons_succ]
  refine wpAnyH_ready (rs := [11]) (by kernel_rfl) (by simp) ?_
  refine AllReadyH.cons (o := ⟨_, _, _, _, _, _⟩) rfl (fun K hK => ?_) AllReadyH.nil
  refine step_appN rfl (.tmp 13) (.tmp 15) rfl (w.heap.size + 2) _ [] (w.heap.size + 2) A2 c2 mul o8 (hr2.out.below hH.2) rfl rfl rfl (by rw [List.length_nil]; omega) (cpSz hZs.out hH.2) ?_
  intro v3 W5 o8n hb hg hv
  rw [List.nil_append] at o8n
  obtain ⟨B8, k8, rfl, -, -, -⟩ := o8n.form
  have d8n := DisA.step d8 hrf hv
  replace hrf := (hrf.grown hg d8 (Nat.le_refl _)).more hg.size
  have ddn := (dd.symm.step o4.lt hv).symm
  replace o4 := o4.kept hg dd.ne
  replace dd := ddn
  clear ddn
  replace hH := cpS hk6.out (Nat.lt_add_of_pos_right (by decide)) (hH.2.trans hb)
  clear hb hg hv o8 d8
  have o8 := o8n
  have d8 := d8n
  clear o8n d8n
  refine hK.out _ _ (by (try dsimp only); exact hH.1) (fun hHeld => ?_)
  clear hK K hHeld
  try simp only [Act.put, List.setIfInBounds_toArray, List.set_cons_zero, List.set_cons_succ]
  obtain ⟨p0, p1, p2, p3, p4, p5, e0, e1, e2, e3, e4, e5⟩ := r6.out.keep hH.2 (Nat.lt_succ_self _)
  refine wpAnyH_take (i := 12) (oi := ⟨_, _, _, _, _, _⟩) (v := ?_) rfl (by kernel_rfl) (by kernel_rfl) (by kernel_rfl) (fun _ _ _ h => h) (Or.inl ⟨by rfl, ?_⟩) (by first | assumption | exact hH.1) ?_
  rotate_left
  · intro w hSw; (try dsimp only at hSw); go_simp; try with_reducible rfl
  try simp only [Act.put, List.setIfInBounds_toArray, List.set_cons_zero, List.set_cons_succ]
  refine wpAnyH_ready (rs := [13]) (by kernel_rfl) (by simp) ?_
  refine AllReadyH.cons (o := ⟨_, _, _, _, _, _⟩) rfl (fun K hK => ?_) AllReadyH.nil
  go_simp
  refine hK.out _ _ (by (try dsimp only); exact keep6 (set6 _ _ _ _ _ _) (Nat.lt_succ_self _) hH.1) (fun hHeld => ?_)
  clear hK K hHeld
  refine wpAnyH_done (by kernel_rfl) ?_ _
  go_wp2_with (fail)
  refine bodyPost_ret (v := .agg #[.int .i64 F.p, .int .i64 F.m, .slice A3 F.mod.length c3, .int .i64 K, .slice B4 pts.length k4, .slice B8 mul.length k8]) (by simp [results, Try.results40, go_sem, p0, p1, p2, p3, p4, p5]) rfl ⟨A3, c3, B4, k4, B8, k8, rfl, ?_, ?_, ?_, dd, d4, d8, fun b e => Nat.le_trans (Nat.le_add_right _ 2) (hA3 b e), (hBZ.out.trans (hH.2.mono (Nat.le_add_right _ _))).trans ((set6 _ _ _ _ _ _).mono (Nat.le_succ _))⟩
  · exact (hrf.set6 (fun a e => Nat.ne_of_gt (hA3 a e)) _ _ _ _ _ _).more (by simp [World.setCell])
  · exact (o4.set6 _ _ _ _ _ _).lower (by omega)
  · exact (o8.set6 _ _ _ _ _ _).lower (by omega)
end Go.Proofs.Ytemanlkgfhmclaa
