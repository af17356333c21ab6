/- Layer 18: Puncture of the program, Without of the reference. -/
import Derived.Test.YtnbkmkeiophjoaaSel
namespace Go.Proofs.Ytnbkmkeiophjoaa
open Go.RowKit Cw
attribute [local go_sem] Oper.semAt_some

theorem keep2c {B : Nat} {W W' : World} {p q : Addr} {u v : Value} (hb : Below B W W') (hp : p.block < B) (hq : q.block < B) (h : W.cell? p = some u ∧ W.cell? q = some v) : W'.cell? p = some u ∧ W'.cell? q = some v :=
  ⟨(hb.cell hp).trans h.1, (hb.cell hq).trans h.2⟩
theorem cell1_rd (W : World) (y : Int) : Rd (W.alloc (.cells #[.int .i64 y] 3)) (W.heap.size + 1) (some ⟨W.heap.size, 0, none⟩) [y] := fun _ => ⟨W.heap.size, 0, rfl, Nat.lt_succ_self _, fun j hj => by
  have : j = 0 := by simp at hj; omega
  subst this
  simp [go_sem]⟩
/-- A description under way: its cells, its two lists. -/
def PD (W : World) (bd : Nat) (u0 u1 u2 u3 v1 v2 : Value) (l1 l2 : List Int) : Prop := Six W bd u0 u1 u2 u3 v1 v2 ∧ Own W (bd + 1) v1 l1 ∧ Own W (bd + 1) v2 l2 ∧ Dis v1 v2 ∧ bd < W.heap.size
section
variable {W W' : World} {bd : Nat} {u0 u1 u2 u3 v1 v2 u : Value} {l1 l2 l' : List Int}
theorem PD.drew (h : PD W bd u0 u1 u2 u3 v1 v2 l1 l2) : PD W.drew bd u0 u1 u2 u3 v1 v2 l1 l2 := h
theorem PD.below (h : PD W bd u0 u1 u2 u3 v1 v2 l1 l2) (hb : Below W.heap.size W W') : PD W' bd u0 u1 u2 u3 v1 v2 l1 l2 :=
  ⟨h.1.keep hb h.2.2.2.2, h.2.1.below hb (Nat.le_refl _), h.2.2.1.below hb (Nat.le_refl _), h.2.2.2.1, Nat.lt_of_lt_of_le h.2.2.2.2 hb.size⟩
theorem PD.app4 (h : PD W bd u0 u1 u2 u3 v1 v2 l1 l2) (ho : Own W' (bd + 1) u l') (hb : Below (bd + 1) W W') (hg : W.grownBy W' v1.ownBlock) (hv : u.ownBlock = v1.ownBlock ∨ ∀ k, u.ownBlock = some k → W.heap.size ≤ k) :
    PD (W'.setCell ⟨bd, 4, none⟩ u) bd u0 u1 u2 u3 u v2 l' l2 :=
  ⟨(h.1.keep hb (Nat.lt_succ_self _)).set4 u, ho.farB 4 u, (h.2.2.1.kept hg h.2.2.2.1.symm.ne).farB 4 u, h.2.2.2.1.step h.2.2.1.lt hv, Nat.lt_of_lt_of_le (Nat.lt_of_lt_of_le h.2.2.2.2 hb.size) (grown_set _ _ _).size⟩
theorem PD.app5 (h : PD W bd u0 u1 u2 u3 v1 v2 l1 l2) (ho : Own W' (bd + 1) u l') (hb : Below (bd + 1) W W') (hg : W.grownBy W' v2.ownBlock) (hv : u.ownBlock = v2.ownBlock ∨ ∀ k, u.ownBlock = some k → W.heap.size ≤ k) :
    PD (W'.setCell ⟨bd, 5, none⟩ u) bd u0 u1 u2 u3 v1 u l1 l' :=
  ⟨(h.1.keep hb (Nat.lt_succ_self _)).set5 u, (h.2.1.kept hg h.2.2.2.1.ne).farB 5 u, ho.farB 5 u, (h.2.2.2.1.symm.step h.2.1.lt hv).symm, Nat.lt_of_lt_of_le (Nat.lt_of_lt_of_le h.2.2.2.2 hb.size) (grown_set _ _ _).size⟩
end
theorem take_succ_mem {l : List Int} {k : Nat} (hk : k < l.length) (x : Int) : x ∈ l.take (k + 1) ↔ x ∈ l.take k ∨ x = l[k]?.getD 0 := by
  rw [List.take_succ_eq_append_getElem hk, List.mem_append, List.mem_singleton, List.getElem?_eq_getElem hk, Option.getD_some]
theorem take_succ_nodup {l : List Int} {k : Nat} (hk : k < l.length) (h : (l.take k).Nodup) (hn : ¬ l[k]?.getD 0 ∈ l.take k) : (l.take (k + 1)).Nodup := by
  rw [List.take_succ_eq_append_getElem hk, List.nodup_append]
  rw [List.getElem?_eq_getElem hk, Option.getD_some] at hn
  refine ⟨h, by simp, fun x hx y hy e => hn ?_⟩
  have : y = l[k] := by simpa using hy
  rw [← this, ← e]; exact hx
theorem not_nodup_take {l : List Int} {k : Nat} (hk : k < l.length) (hn : l[k]?.getD 0 ∈ l.take k) : ¬ l.Nodup := fun h => by
  have h2 : (l.take (k + 1)).Nodup := List.Pairwise.sublist (List.take_sublist _ _) h
  rw [List.take_succ_eq_append_getElem hk, List.nodup_append] at h2
  rw [List.getElem?_eq_getElem hk, Option.getD_some] at hn
  exact h2.2.2 _ hn _ (List.mem_singleton.2 rfl) rfl
theorem seen_step {l : List Int} {k x : Nat} (hk : k < l.length) (hx : l[k]?.getD 0 = (x : Int)) : (fun i : Nat => if i = x then true else decide ((i : Int) ∈ l.take k)) = fun i : Nat => decide ((i : Int) ∈ l.take (k + 1)) := funext fun i => by
  by_cases e : i = x
  · rw [if_pos e]; exact (decide_eq_true ((take_succ_mem hk _).2 (.inr (by rw [hx, e])))).symm
  · rw [if_neg e]
    by_cases h : (i : Int) ∈ l.take k
    · rw [decide_eq_true h, decide_eq_true ((take_succ_mem hk _).2 (.inl h))]
    · rw [decide_eq_false h, decide_eq_false fun h2 => ?_]
      rcases (take_succ_mem hk _).1 h2 with h3 | h3
      · exact h h3
      · rw [hx] at h3; exact e (by omega)

theorem punErr_six {E0 : Int} {n : Nat} {a : List Int} {x : Int} (h0 : E0 = 0) (hx : x ∈ a) (hn : ¬ (0 ≤ x ∧ x < (n : Int))) : punErr E0 n a = 6 := by
  unfold punErr
  rw [if_neg (fun h => h h0), if_pos fun h => hn (h x hx)]
theorem punErr_dup {E0 : Int} {n : Nat} {a : List Int} (h0 : E0 = 0) (hr : ∀ x ∈ a, 0 ≤ x ∧ x < (n : Int)) (hd : ¬ a.Nodup) : punErr E0 n a = 18 := by
  unfold punErr
  rw [if_neg (fun h => h h0), if_neg (fun h => h hr), if_pos hd]
theorem punErr_len {E0 : Int} {n : Nat} {a : List Int} (h0 : E0 = 0) (hr : ∀ x ∈ a, 0 ≤ x ∧ x < (n : Int)) (hd : a.Nodup) (hl : a.length = n) : punErr E0 n a = 4 := by
  unfold punErr
  rw [if_neg (fun h => h h0), if_neg (fun h => h hr), if_neg (fun h => h hd), if_pos hl]
theorem punErr_ok {E0 : Int} {n : Nat} {a : List Int} (h0 : E0 = 0) (hr : ∀ x ∈ a, 0 ≤ x ∧ x < (n : Int)) (hd : a.Nodup) (hl : a.length ≠ n) : punErr E0 n a = 0 := by
  unfold punErr
  rw [if_neg (fun h => h h0), if_neg (fun h => h hr), if_neg (fun h => h hd), if_neg hl]

set_option maxHeartbeats 1000000 in
theorem gPun_bad (P M K : Int) (ml pts mul : List Int) (A A1 A2 : Option Addr) (c c1 c2 : Nat) (l1 : List Int) (Aa : Option Addr) (ca : Nat) (w : World) (hP : I64 P) (hM : I64 M) (hl : ml.length ≤ maxLen) (hr : Rd w w.heap.size A ml) (hb : ¬ Good P M ml) :
    Calls Try.prog 48 #[.agg #[.int .i64 P, .int .i64 M, .slice A ml.length c, .int .i64 K, .slice A1 pts.length c1, .slice A2 mul.length c2], .slice Aa l1.length ca] w fun e w' => e = .returned (.tuple #[.agg #[.int .i64 0, .int .i64 0, .slice none 0 0, .int .i64 0, .slice none 0 0, .slice none 0 0], .int .i64 1]) ∧ Below w.heap.size w w' := by
  have hN := fun W h => Lib.hid (gOpen_bad P M K ml pts mul A A1 A2 c c1 c2 W hP hM hl h hb)
  obtain ⟨Z, hZ⟩ : ∃ Z, Z = (w.alloc (.cells #[.int .i64 P, .int .i64 M, .slice A ml.length c, .int .i64 K, .slice A1 pts.length c1, .slice A2 mul.length c2] 27)).alloc (.cells #[.int .i64 0, .int .i64 0, .slice none 0 0, .int .i64 0, .slice none 0 0, .slice none 0 0] 27) := ⟨_, rfl⟩
  have hB : Below w.heap.size w Z := by rw [hZ]; exact ((Below.refl _ _).alloc (Nat.le_refl _) _).alloc (by simp) _
  have hZs : Z.heap.size = w.heap.size + 2 := by rw [hZ]; simp
  have k0 := Lib.hid (show Z.cell? ⟨w.heap.size, 0, none⟩ = some (.int .i64 P) ∧ Z.cell? ⟨w.heap.size, 1, none⟩ = some (.int .i64 M) ∧ Z.cell? ⟨w.heap.size, 2, none⟩ = some (.slice A ml.length c) ∧ Z.cell? ⟨w.heap.size, 3, none⟩ = some (.int .i64 K) ∧ Z.cell? ⟨w.heap.size, 4, none⟩ = some (.slice A1 pts.length c1) ∧ Z.cell? ⟨w.heap.size, 5, none⟩ = some (.slice A2 mul.length c2) from by rw [hZ]; simp [go_sem])
  have k1 : Six Z (w.heap.size + 1) (.int .i64 0) (.int .i64 0) (.slice none 0 0) (.int .i64 0) (.slice none 0 0) (.slice none 0 0) := by
    rw [hZ]; have := Six.new (w.alloc (.cells #[.int .i64 P, .int .i64 M, .slice A ml.length c, .int .i64 K, .slice A1 pts.length c1, .slice A2 mul.length c2] 27)) (.int .i64 0) (.int .i64 0) (.slice none 0 0) (.int .i64 0) (.slice none 0 0) (.slice none 0 0) 27; rw [World.size_alloc] at this; exact this
  have hN2 := hN Z ((hr.below hB).more hB.size)
  replace hZ := Lib.hid hZ
  clear hP hM hl hb hN
  go_enter Try.func48, Try.ntmps48
  go_wp2_with (fail)
  rw [← hZ.out]
  (with_reducible refine hN2.out.mono ?_)
  rintro e w1 ⟨rfl, hb1⟩
  obtain ⟨a0, a1, a2, a3, a4, a5, f0, f1, f2, f3, f4, f5⟩ := k1.keep hb1 (by omega)
  clear k1
  have hBe := (hB.trans (hb1.mono hB.size)).trans ((set6 (w3 := w1) (b := w.heap.size + 1) (.int .i64 0) (.int .i64 0) (.slice none 0 0) (.int .i64 0) (.slice none 0 0) (.slice none 0 0)).mono (Nat.le_succ _))
  clear hB hb1
  go_wp2_with (fail)
  refine bodyPost_ret (v := .tuple #[.agg #[.int .i64 0, .int .i64 0, .slice none 0 0, .int .i64 0, .slice none 0 0, .slice none 0 0], .int .i64 1]) (by simp [results, Try.results48, go_sem, a0, a1, a2, a3, a4, a5]) rfl ⟨rfl, hBe⟩

/-- What Puncture hands back over a field. -/
def PunPost (D : Desc) (K : Int) (pts mul l1 : List Int) (w : World) (e : Ending) (w' : World) : Prop :=
  Below w.heap.size w w' ∧ ((punErr (gchkD D K pts mul) pts.length l1 ≠ 0 ∧ e = .returned (.tuple #[.agg #[.int .i64 0, .int .i64 0, .slice none 0 0, .int .i64 0, .slice none 0 0, .slice none 0 0], .int .i64 (punErr (gchkD D K pts mul) pts.length l1)])) ∨
    (punErr (gchkD D K pts mul) pts.length l1 = 0 ∧ ∃ A3 c3 A4 c4 A5 c5, e = .returned (.tuple #[.agg #[.int .i64 D.p, .int .i64 D.m, .slice A3 D.mod.length c3, .int .i64 (min K ((idxL l1 pts.length).length : Int)), .slice A4 (idxL l1 pts.length).length c4, .slice A5 (idxL l1 pts.length).length c5], .int .i64 0]) ∧
      Rd w' w'.heap.size A3 (modL D) ∧ Rd w' w'.heap.size A4 (selL pts l1 pts.length) ∧ Rd w' w'.heap.size A5 (selL mul l1 pts.length) ∧ (idxL l1 pts.length).length ≤ c4 ∧ c4 ≤ maxLen))

set_option maxRecDepth 100000 in
set_option maxHeartbeats 8000000 in
theorem gPun_D (D : Desc) (K : Int) (pts mul : List Int) (A A1 A2 : Option Addr) (c c1 c2 : Nat) (l1 : List Int) (Aa : Option Addr) (ca : Nat) (w : World) (hr : Rd w w.heap.size A (modL D)) (hg : Good D.p D.m (modL D)) (hr1 : Rd w w.heap.size A1 pts) (hr2 : Rd w w.heap.size A2 mul) (h1 : pts.length ≤ c1) (h1' : c1 ≤ maxLen) (h2 : mul.length ≤ maxLen) (hra : Rd w w.heap.size Aa l1) (hla : l1.length ≤ 1000000) :
    Calls Try.prog 48 #[.agg #[.int .i64 D.p, .int .i64 D.m, .slice A D.mod.length c, .int .i64 K, .slice A1 pts.length c1, .slice A2 mul.length c2], .slice Aa l1.length ca] w (PunPost D K pts mul l1 w) := by
  have hN := fun W x y c' => Lib.hid (gOpen_D D K pts mul A A1 A2 c c1 c2 W x hg y c' h1 h1' h2)
  obtain ⟨Z, hZ⟩ : ∃ Z, Z = (w.alloc (.cells #[.int .i64 D.p, .int .i64 D.m, .slice A D.mod.length c, .int .i64 K, .slice A1 pts.length c1, .slice A2 mul.length c2] 27)).alloc (.cells #[.int .i64 0, .int .i64 0, .slice none 0 0, .int .i64 0, .slice none 0 0, .slice none 0 0] 27) := ⟨_, rfl⟩
  have hB : Below w.heap.size w Z := by rw [hZ]; exact ((Below.refl _ _).alloc (Nat.le_refl _) _).alloc (by simp) _
  have hZs : Z.heap.size = w.heap.size + 2 := by rw [hZ]; simp
  have k0 := Lib.hid (show Z.cell? ⟨w.heap.size, 0, none⟩ = some (.int .i64 D.p) ∧ Z.cell? ⟨w.heap.size, 1, none⟩ = some (.int .i64 D.m) ∧ Z.cell? ⟨w.heap.size, 2, none⟩ = some (.slice A D.mod.length c) ∧ Z.cell? ⟨w.heap.size, 3, none⟩ = some (.int .i64 K) ∧ Z.cell? ⟨w.heap.size, 4, none⟩ = some (.slice A1 pts.length c1) ∧ Z.cell? ⟨w.heap.size, 5, none⟩ = some (.slice A2 mul.length c2) from by rw [hZ]; simp [go_sem])
  have k1 : Six Z (w.heap.size + 1) (.int .i64 0) (.int .i64 0) (.slice none 0 0) (.int .i64 0) (.slice none 0 0) (.slice none 0 0) := by
    rw [hZ]; have := Six.new (w.alloc (.cells #[.int .i64 D.p, .int .i64 D.m, .slice A D.mod.length c, .int .i64 K, .slice A1 pts.length c1, .slice A2 mul.length c2] 27)) (.int .i64 0) (.int .i64 0) (.slice none 0 0) (.int .i64 0) (.slice none 0 0) (.slice none 0 0) 27; rw [World.size_alloc] at this; exact this
  have hN2 := hN Z ((hr.below hB).more hB.size) ((hr1.below hB).more hB.size) ((hr2.below hB).more hB.size)
  replace hZ := Lib.hid hZ
  clear hg hN
  go_enter Try.func48, Try.ntmps48
  go_wp2_with (fail)
  rw [← hZ.out]
  (with_reducible refine hN2.out.mono ?_)
  rintro e w1 ⟨hb1, g, F, rfl, hgf, hgl, ⟨hz, rfl⟩ | ⟨hz, rfl⟩⟩
  rotate_left
  · have haff : punErr (gchkD F.toDesc K pts mul) pts.length l1 = gchkD F.toDesc K pts mul := if_pos hz
    have hzb : (gchkD F.toDesc K pts mul != 0) = true := by rw [bne_iff_ne]; exact hz
    obtain ⟨a0, a1, a2, a3, a4, a5, f0, f1, f2, f3, f4, f5⟩ := k1.keep hb1 (by omega)
    clear k1
    have hBe := Lib.hid ((hB.trans (hb1.mono hB.size)).trans ((set6 (w3 := w1) (b := w.heap.size + 1) (.int .i64 0) (.int .i64 0) (.slice none 0 0) (.int .i64 0) (.slice none 0 0) (.slice none 0 0)).mono (Nat.le_succ _)))
    replace hz := Lib.hid hz
    go_wp2_with (fail)
    refine bodyPost_ret (v := .tuple #[.agg #[.int .i64 0, .int .i64 0, .slice none 0 0, .int .i64 0, .slice none 0 0, .slice none 0 0], .int .i64 (gchkD F.toDesc K pts mul)]) (by simp [results, Try.results48, go_sem, a0, a1, a2, a3, a4, a5]) rfl ⟨hBe.out, .inl (haff.symm ▸ ⟨hz.out, rfl⟩)⟩
  obtain ⟨hp1, hp64, hlen, -, -, -, -, hK0, hKn⟩ := gchkD_zero hz
  have hs1 := hb1.size
  have hB1 := hB.trans (hb1.mono hB.size)
  have r1 := Lib.hid (k1.keep hb1 (by omega))
  have kk1 := Lib.hid (keep6 hb1 (by omega) k0.out)
  have hra1 := (hra.below hB1).more hB1.size
  have hlt1 : w.heap.size < w1.heap.size := by omega
  have hlt1' : w.heap.size + 1 < w1.heap.size := by omega
  have hBe := Lib.hid (hB1.trans ((set6 (w3 := w1) (b := w.heap.size + 1) (.int .i64 0) (.int .i64 0) (.slice none 0 0) (.int .i64 0) (.slice none 0 0) (.slice none 0 0)).mono (Nat.le_succ _)))
  have hzH := Lib.hid hz
  have hlenH := Lib.hid hlen
  clear hz hN2 k0 k1 hlen
  obtain ⟨q0, q1, q2, q3, q4, q5⟩ := kk1.out
  go_wp2_with (fail)
  go_loop [26] (fun i => ∃ k : Nat, k ≤ l1.length ∧ i = .int .i64 k ∧ ∀ x ∈ l1.take k, 0 ≤ x ∧ x < (pts.length : Int)) (fun i => l1.length - (intOf i).toNat)
  case atStart => exact ⟨0, by omega, rfl, fun x hx => by simp at hx⟩
  case round =>
    obtain ⟨k, hk, rfl, hrg⟩ := hrel
    by_cases hkm : k < l1.length
    · obtain ⟨ba, oa, rfl, hba, hca⟩ := hra1.at_ hkm
      obtain ⟨x, hx⟩ : ∃ x, x = l1[k]?.getD 0 := ⟨_, rfl⟩
      rw [← hx] at hca
      have hxm : x ∈ l1 := by rw [hx]; exact mem_get hkm
      have hk0 : (0 : Int) ≤ (k : Int) := by omega
      have hk1 : (k : Int) < (l1.length : Int) := by omega
      replace hx := Lib.hid hx
      by_cases hx0 : x < 0
      · have hE : Hid (punErr (gchkD F.toDesc K pts mul) pts.length l1 = 6) := punErr_six hzH.out hxm (by omega)
        obtain ⟨a0, a1, a2, a3, a4, a5, f0, f1, f2, f3, f4, f5⟩ := r1.out
        go_wp2_with (fail)
        refine bodyPost_ret (v := .tuple #[.agg #[.int .i64 0, .int .i64 0, .slice none 0 0, .int .i64 0, .slice none 0 0, .slice none 0 0], .int .i64 6]) (by simp [results, Try.results48, go_sem, a0, a1, a2, a3, a4, a5]) rfl ⟨hBe.out, .inl (hE.out.symm ▸ ⟨by decide, rfl⟩)⟩
      by_cases hx1 : (pts.length : Int) ≤ x
      · have hE : Hid (punErr (gchkD F.toDesc K pts mul) pts.length l1 = 6) := punErr_six hzH.out hxm (by omega)
        obtain ⟨a0, a1, a2, a3, a4, a5, f0, f1, f2, f3, f4, f5⟩ := r1.out
        go_wp2_with (fail)
        refine bodyPost_ret (v := .tuple #[.agg #[.int .i64 0, .int .i64 0, .slice none 0 0, .int .i64 0, .slice none 0 0, .slice none 0 0], .int .i64 6]) (by simp [results, Try.results48, go_sem, a0, a1, a2, a3, a4, a5]) rfl ⟨hBe.out, .inl (hE.out.symm ▸ ⟨by decide, rfl⟩)⟩
      have hrg2 : Hid (∀ x ∈ l1.take (k + 1), 0 ≤ x ∧ x < (pts.length : Int)) := fun z hz => by
        rcases (take_succ_mem hkm z).1 hz with h3 | h3
        · exact hrg z h3
        · rw [h3, ← hx.out]; omega
      clear hrg
      go_wp2_with (fail)
      go_round
      case rel => exact ⟨k + 1, by omega, by go_num, hrg2.out⟩
      case measure => simp [intOf]; omega
    · obtain rfl : k = l1.length := by omega
      rw [List.take_length] at hrg
      replace hrg := Lib.hid hrg
      have hmk := mk_bools pts.length (by omega)
      have hbb0 := Lib.hid (BB.newz w1 pts.length)
      have hbz : Below w1.heap.size w1 (w1.alloc (.cells (Array.replicate pts.length (Value.bool false)) 4)) := (Below.refl _ _).alloc (Nat.le_refl _) _
      have hlz : w1.heap.size < (w1.alloc (.cells (Array.replicate pts.length (Value.bool false)) 4)).heap.size := by rw [World.size_alloc]; exact Nat.lt_succ_self _
      go_wp2_with (fail)
      clear q0 q1 q2 q3 q4 q5
      go_loopw [47] (fun i wr => ∃ k : Nat, k ≤ l1.length ∧ i = .int .i64 k ∧ (l1.take k).Nodup ∧ Hid (BB wr w1.heap.size pts.length (fun i => decide ((i : Int) ∈ l1.take k))) ∧ Below w1.heap.size w1 wr ∧ w1.heap.size < wr.heap.size) (fun i _ => l1.length - (intOf i).toNat)
      case atStart => exact ⟨0, by omega, rfl, by simp, by rw [show (fun i : Nat => decide ((i : Int) ∈ l1.take 0)) = fun _ => false from funext fun i => by simp]; exact hbb0, hbz, hlz⟩
      case round =>
        obtain ⟨k, hk, rfl, hnd, hbb, hbw, hlw⟩ := hrel
        obtain ⟨w3, rfl⟩ : ∃ w3 : World, w3 = wr := ⟨_, rfl⟩
        clear hbb0 hbz hlz hmk
        by_cases hkm : k < l1.length
        · obtain ⟨ba, oa, rfl, hba, hca⟩ := hra1.at_ hkm
          have hcb := (hbw.cell (p := ⟨ba, oa + k, none⟩) hba).trans hca
          obtain ⟨xn, hxn⟩ : ∃ xn : Nat, l1[k]?.getD 0 = (xn : Int) := ⟨(l1[k]?.getD 0).toNat, by have := hrg.out _ (mem_get hkm); omega⟩
          have hxl : xn < pts.length := by have := hrg.out _ (mem_get hkm); omega
          rw [hxn] at hcb
          have hcs := hbb.out.cell hxl
          have hf := hbb.out.frozen xn
          have hx0 : (0 : Int) ≤ (xn : Int) := by omega
          have hx1 : (xn : Int) < (pts.length : Int) := by omega
          have hk0 : (0 : Int) ≤ (k : Int) := by omega
          have hk1 : (k : Int) < (l1.length : Int) := by omega
          replace hxn := Lib.hid hxn
          clear hca
          by_cases hd : (xn : Int) ∈ l1.take k
          · rw [decide_eq_true hd] at hcs
            have hE : Hid (punErr (gchkD F.toDesc K pts mul) pts.length l1 = 18) := punErr_dup hzH.out hrg.out (not_nodup_take hkm (by rw [hxn.out]; exact hd))
            obtain ⟨a0, a1, a2, a3, a4, a5, f0, f1, f2, f3, f4, f5⟩ := r1.out.keep hbw hlt1'
            have hBe3 := Lib.hid ((hB1.trans (hbw.mono hB1.size)).trans ((set6 (w3 := w3) (b := w.heap.size + 1) (.int .i64 0) (.int .i64 0) (.slice none 0 0) (.int .i64 0) (.slice none 0 0) (.slice none 0 0)).mono (Nat.le_succ _)))
            clear hd hnd
            go_wp2_with (fail)
            refine bodyPost_ret (v := .tuple #[.agg #[.int .i64 0, .int .i64 0, .slice none 0 0, .int .i64 0, .slice none 0 0, .slice none 0 0], .int .i64 18]) (by simp [results, Try.results48, go_sem, a0, a1, a2, a3, a4, a5]) rfl ⟨hBe3.out, .inl (hE.out.symm ▸ ⟨by decide, rfl⟩)⟩
          · rw [decide_eq_false hd] at hcs
            have hbb2 := Lib.hid (hbb.out.set_ xn true)
            rw [seen_step hkm hxn.out] at hbb2
            have hnd2 := Lib.hid (take_succ_nodup hkm hnd (by rw [hxn.out]; exact hd))
            have hbw2 : Below w1.heap.size w1 (w3.setCell ⟨w1.heap.size, xn, none⟩ (.bool true)) := hbw.setCell (p := ⟨w1.heap.size, xn, none⟩) (Nat.le_refl _) _
            have hlw2 : w1.heap.size < (w3.setCell ⟨w1.heap.size, xn, none⟩ (.bool true)).heap.size := Nat.lt_of_lt_of_le hlw (grown_set _ _ _).size
            clear hd hnd
            go_wp2_with (fail)
            go_roundw
            case rel => exact ⟨k + 1, by omega, by go_num, hnd2.out, hbb2, hbw2, hlw2⟩
            case measure => simp [intOf]; omega
        · obtain rfl : k = l1.length := by omega
          rw [List.take_length] at hnd hbb
          replace hnd := Lib.hid hnd
          have kk3 := Lib.hid (keep6 hbw hlt1 kk1.out)
          obtain ⟨q0, q1, q2, q3, q4, q5⟩ := kk3.out
          by_cases hln : l1.length = pts.length
          · have hE : Hid (punErr (gchkD F.toDesc K pts mul) pts.length l1 = 4) := punErr_len hzH.out hrg.out hnd.out hln
            have hlb : ((l1.length : Int) == (pts.length : Int)) = true := by rw [beq_iff_eq]; omega
            obtain ⟨a0, a1, a2, a3, a4, a5, f0, f1, f2, f3, f4, f5⟩ := r1.out.keep hbw hlt1'
            have hBe3 := Lib.hid ((hB1.trans (hbw.mono hB1.size)).trans ((set6 (w3 := w3) (b := w.heap.size + 1) (.int .i64 0) (.int .i64 0) (.slice none 0 0) (.int .i64 0) (.slice none 0 0) (.slice none 0 0)).mono (Nat.le_succ _)))
            replace hln := Lib.hid hln
            go_wp2_with (fail)
            refine bodyPost_ret (v := .tuple #[.agg #[.int .i64 0, .int .i64 0, .slice none 0 0, .int .i64 0, .slice none 0 0, .slice none 0 0], .int .i64 4]) (by simp [results, Try.results48, go_sem, a0, a1, a2, a3, a4, a5]) rfl ⟨hBe3.out, .inl (hE.out.symm ▸ ⟨by decide, rfl⟩)⟩
          have hE : Hid (punErr (gchkD F.toDesc K pts mul) pts.length l1 = 0) := punErr_ok hzH.out hrg.out hnd.out hln
          have hlb : ((l1.length : Int) == (pts.length : Int)) = false := by rw [beq_eq_false_iff_ne]; omega
          replace hln := Lib.hid hln
          have hF := Lib.hid (gField_any F g w3 ((hgf.below hbw).more hbw.size))
          go_wp2_with (fail)
          (with_reducible refine hF.out.mono ?_)
          rintro e w4 ⟨A3, c3, rfl, hrf, hAf, hb4⟩
          have hb14 := hbw.trans (hb4.mono hbw.size)
          have hlt4 : w1.heap.size < w4.heap.size := Nat.lt_of_lt_of_le hlw hb4.size
          have hwbd : w.heap.size < w4.heap.size := Nat.lt_trans hlt1 hlt4
          have hbb4 := Lib.hid (hbb.out.below hb4 hlw)
          have kk4 := Lib.hid (keep6 hb14 hlt1 kk1.out)
          have hb5 : Below w4.heap.size w4 (w4.alloc (.cells #[.int .i64 F.p, .int .i64 F.m, .slice A3 F.mod.length c3, .int .i64 0, .slice none 0 0, .slice none 0 0] 27)) := (Below.refl _ _).alloc (Nat.le_refl _) _
          have hP0 : Hid (PD (w4.alloc (.cells #[.int .i64 F.p, .int .i64 F.m, .slice A3 F.mod.length c3, .int .i64 0, .slice none 0 0, .slice none 0 0] 27)) w4.heap.size (.int .i64 F.p) (.int .i64 F.m) (.slice A3 F.mod.length c3) (.int .i64 0) (.slice none 0 0) (.slice none 0 0) (selL pts l1 0) (selL mul l1 0)) :=
            ⟨Six.new w4 _ _ _ _ _ _ _, Own.nil _ _, Own.nil _ _, Dis.nil, by rw [World.size_alloc]; exact Nat.lt_succ_self _⟩
          clear q0 q1 q2 q3 q4 q5
          go_wp2_with (fail)
          go_loopw [72] (fun i wr => ∃ (k : Nat) (v1 v2 : Value), k ≤ pts.length ∧ i = .int .i64 k ∧ Hid (PD wr w4.heap.size (.int .i64 F.p) (.int .i64 F.m) (.slice A3 F.mod.length c3) (.int .i64 0) v1 v2 (selL pts l1 k) (selL mul l1 k)) ∧ Below w4.heap.size w4 wr) (fun i _ => pts.length - (intOf i).toNat)
          case atStart => exact ⟨0, _, _, by omega, rfl, hP0, hb5⟩
          case round =>
            obtain ⟨k, v1, v2, hk, rfl, hP, hbw4⟩ := hrel
            obtain ⟨w6, rfl⟩ : ∃ w6 : World, w6 = wr := ⟨_, rfl⟩
            clear hP0 hb5
            have hbb6 := hbb4.out.below hbw4 hlt4
            have kk6 := Lib.hid (keep6 hbw4 hwbd kk4.out)
            have hb16 := hb14.trans (hbw4.mono hb14.size)
            have hB6 := hB1.trans (hb16.mono hB1.size)
            by_cases hkn : k < pts.length
            · have hcs := hbb6.cell hkn
              have hk0 : (0 : Int) ≤ (k : Int) := by omega
              have hk1 : (k : Int) < (pts.length : Int) := by omega
              by_cases hni : (k : Int) ∈ l1
              · rw [decide_eq_true hni] at hcs
                have hP2 : Hid (PD w6 w4.heap.size (.int .i64 F.p) (.int .i64 F.m) (.slice A3 F.mod.length c3) (.int .i64 0) v1 v2 (selL pts l1 (k + 1)) (selL mul l1 (k + 1))) := by rw [selL_yes hni, selL_yes hni]; exact hP
                clear hni hP
                go_wp2_with (fail)
                go_roundw
                case rel => exact ⟨k + 1, v1, v2, by omega, by go_num, hP2, hbw4⟩
                case measure => simp [intOf]; omega
              · rw [decide_eq_false hni] at hcs
                obtain ⟨b1, o1, rfl, hbb1, hc1⟩ := hr1.at_ hkn
                obtain ⟨b2, o2, rfl, hbb2, hc2⟩ := hr2.at_ (by rw [hlenH.out]; exact hkn : k < mul.length)
                have hs1 := kk6.out.2.2.2.2.1
                have hx1 := (hB6.cell (p := ⟨b1, o1 + k, none⟩) hbb1).trans hc1
                have hs2a := kk6.out.2.2.2.2.2
                have hx2a := (hB6.cell (p := ⟨b2, o2 + k, none⟩) hbb2).trans hc2
                have hkm2 : (k : Int) < (mul.length : Int) := by rw [hlenH.out]; exact hk1
                replace hni := Lib.hid hni
                clear hc1 hc2
                go_wp2_with (fail)
                clear hcs
                obtain ⟨y1, hy1⟩ : ∃ y1, y1 = pts[k]?.getD 0 := ⟨_, rfl⟩
                have hka1 := Lib.hid (show w6.cell? ⟨w.heap.size, 4, none⟩ = some (.slice (some ⟨b1, o1, none⟩) pts.length c1) ∧ w6.cell? ⟨b1, o1 + k, none⟩ = some (.int .i64 y1) from ⟨hs1, by rw [hy1]; exact hx1⟩)
                have hb121 : Below w6.heap.size w6 (w6.alloc (.cells #[.int .i64 y1] 3)).drew := ((Below.refl _ w6).alloc (Nat.le_refl _) _).drew
                have hP1 : PD (w6.alloc (.cells #[.int .i64 y1] 3)).drew w4.heap.size _ _ _ _ _ _ _ _ := PD.below hP.out hb121
                have hu1 := hP.out.1.2.2.2.2.1
                have hu1' := hP1.1.2.2.2.2.1
                have hlw1 : w.heap.size < w6.heap.size := Nat.lt_trans hwbd hP.out.2.2.2.2
                have hkb1 := Lib.hid (keep2c (p := ⟨w.heap.size, 4, none⟩) (q := ⟨b1, o1 + k, none⟩) hb121 hlw1 (Nat.lt_of_lt_of_le hbb1 (Nat.le_of_lt hlw1)) hka1.out)
                have hle1 : (selL pts l1 k).length + [y1].length ≤ 1000000000 := by rw [selL_length]; have := idxL_le l1 k; simp; omega
                have hcr1 : Hid (Rd (w6.alloc (.cells #[.int .i64 y1] 3)).drew (w6.heap.size + 1) (some ⟨w6.heap.size, 0, none⟩) [y1]) := cell1_rd w6 y1
                have hsz1 : w4.heap.size + 1 ≤ (w6.alloc (.cells #[.int .i64 y1] 3)).drew.heap.size := Nat.le_trans hP.out.2.2.2.2 hb121.size
                have hbw1 : w.heap.size < w4.heap.size + 1 := Nat.lt_succ_of_lt hwbd
                replace hy1 := Lib.hid hy1
                clear hs1 hx1
                refine wp_region_held_drew (S := fun w' => w'.cell? ⟨w.heap.size, 4, none⟩ = some (.slice (some ⟨b1, o1, none⟩) pts.length c1) ∧ w'.cell? ⟨b1, o1 + k, none⟩ = some (.int .i64 y1)) (by kernel_rfl) (by (try dsimp only); exact hka1.out) (fun hHeld => ?_)
                refine wpAnyH_take (i := 0) (oi := ⟨_, _, _, _, _, _⟩) (v := ?_) rfl (by kernel_rfl) (by kernel_rfl) (by kernel_rfl) (fun _ _ _ h => h) (Or.inl ⟨by rfl, ?_⟩) (by assumption) ?_
                rotate_left
                · intro w hSw; (try dsimp only at hSw); go_simp; try with_reducible rfl
                try simp only [Act.put, List.setIfInBounds_toArray, List.set_cons_zero, List.set_cons_succ]
                refine wpAnyH_take (i := 2) (oi := ⟨_, _, _, _, _, _⟩) (v := ?_) rfl (by kernel_rfl) (by kernel_rfl) (by kernel_rfl) (fun _ _ _ h => h) (Or.inl ⟨by rfl, ?_⟩) (by assumption) ?_
                rotate_left
                · intro w hSw; (try dsimp only at hSw); go_simp; try with_reducible rfl
                try simp only [Act.put, List.setIfInBounds_toArray, List.set_cons_zero, List.set_cons_succ]
                refine wpAnyH_take (i := 3) (oi := ⟨_, _, _, _, _, _⟩) (v := ?_) rfl (by kernel_rfl) (by kernel_rfl) (by kernel_rfl) (fun _ _ _ h => h) (Or.inl ⟨by rfl, ?_⟩) (by assumption) ?_
                rotate_left
                · intro w hSw; (try dsimp only at hSw); go_simp; try with_reducible rfl
                try simp only [Act.put, List.setIfInBounds_toArray, List.set_cons_zero, List.set_cons_succ]
                refine wpAnyH_take (i := 4) (oi := ⟨_, _, _, _, _, _⟩) (v := ?_) rfl (by kernel_rfl) (by kernel_rfl) (by kernel_rfl) (fun _ _ _ h => h) (Or.inl ⟨by rfl, ?_⟩) (by assumption) ?_
                rotate_left
                · intro w hSw; (try dsimp only at hSw); go_simp; try with_reducible rfl
                try simp only [Act.put, List.setIfInBounds_toArray, List.set_cons_zero, List.set_cons_succ]
                refine wpAnyH_take (i := 5) (oi := ⟨_, _, _, _, _, _⟩) (v := ?_) rfl (by kernel_rfl) (by kernel_rfl) (by kernel_rfl) (fun _ _ _ h => h) (Or.inl ⟨by rfl, ?_⟩) (by assumption) ?_
                rotate_left
                · intro w hSw; (try dsimp only at hSw); go_simp; try with_reducible rfl
                try simp only [Act.put, List.setIfInBounds_toArray, List.set_cons_zero, List.set_cons_succ]
                refine wpAnyH_take (i := 6) (oi := ⟨_, _, _, _, _, _⟩) (v := ?_) rfl (by kernel_rfl) (by kernel_rfl) (by kernel_rfl) (fun _ _ _ h => h) (Or.inl ⟨by rfl, ?_⟩) (by assumption) ?_
                rotate_left
                · intro w hSw; (try dsimp only at hSw); go_simp; try with_reducible rfl
                try simp only [Act.put, List.setIfInBounds_toArray, List.set_cons_zero, List.set_cons_succ]
                refine wpAnyH_ready (rs := [1, 7]) (by kernel_rfl) (by simp) ?_
                refine AllReadyH.cons (o := ⟨_, _, _, _, _, _⟩) rfl (fun K hK => ?_) ?_
                · go_simp
                  refine hK.out _ _ (by (try dsimp only); first | exact hkb1.out | exact hka1.out) (fun hHeld => ?_)
                  clear hK K
                  try simp only [Act.put, List.setIfInBounds_toArray, List.set_cons_zero, List.set_cons_succ]
                  refine wpAnyH_ready (rs := [7]) (by kernel_rfl) (by simp) ?_
                  refine AllReadyH.cons (o := ⟨_, _, _, _, _, _⟩) rfl (fun K hK => ?_) AllReadyH.nil
                  go_simp
                  refine hK.out _ _ (by (try dsimp only); exact hkb1.out) (fun hHeld => ?_)
                  clear hK K
                  try simp only [Act.put, List.setIfInBounds_toArray, List.set_cons_zero, List.set_cons_succ]
                  generalize (w6.alloc (.cells #[.int .i64 y1] 3)).drew = Z1 at *
                  refine wpAnyH_ready (rs := [8]) (by kernel_rfl) (by simp) ?_
                  refine AllReadyH.cons (o := ⟨_, _, _, _, _, _⟩) rfl (fun K hK => ?_) AllReadyH.nil
                  refine step_appN (n2 := 1) rfl (.tmp 81) (.tmp 87) rfl (w4.heap.size + 1) v1 (selL pts l1 k) (w6.heap.size + 1) (some ⟨w6.heap.size, 0, none⟩) 1 [y1] hP1.2.1 hcr1.out (by rfl) (by rfl) (by rfl) hle1 hsz1 ?_
                  intro V1 W1 ho1 hbn1 hg1 hv1
                  obtain ⟨B1, d1, e1, -, -, -⟩ := ho1.form
                  rw [List.length_append, List.length_singleton] at e1
                  subst e1
                  have hQ1 := Lib.hid (hP1.app4 ho1 hbn1 hg1 hv1)
                  have hkc1 := Lib.hid (keep2c (p := ⟨w.heap.size, 4, none⟩) (q := ⟨b1, o1 + k, none⟩) hbn1 hbw1 (Nat.lt_trans hbb1 hbw1) hkb1.out)
                  obtain ⟨a0, a1, a2, a3, a4, a5, f0, f1, f2, f3, f4, f5⟩ := hP1.1.keep hbn1 (Nat.lt_succ_self _)
                  have hbs1 : Below w4.heap.size W1 (W1.setCell ⟨w4.heap.size, 4, none⟩ (.slice B1 ((selL pts l1 k).length + 1) d1)) := (Below.refl _ _).setCell (p := ⟨w4.heap.size, 4, none⟩) (Nat.le_refl _) _
                  have hkd1 := Lib.hid (keep2c (p := ⟨w.heap.size, 4, none⟩) (q := ⟨b1, o1 + k, none⟩) hbs1 hwbd (Nat.lt_trans hbb1 hwbd) hkc1.out)
                  refine hK.out _ _ (by (try dsimp only); exact hkc1.out) (fun hHeld => ?_)
                  clear hK K
                  try simp only [Act.put, List.setIfInBounds_toArray, List.set_cons_zero, List.set_cons_succ]
                  refine wpAnyH_take (i := 9) (oi := ⟨_, _, _, _, _, _⟩) (v := ?_) rfl (by kernel_rfl) (by kernel_rfl) (by kernel_rfl) (fun _ _ _ h => h) (Or.inl ⟨by rfl, ?_⟩) (by assumption) ?_
                  rotate_left
                  · intro w hSw; (try dsimp only at hSw); go_simp; try with_reducible rfl
                  try simp only [Act.put, List.setIfInBounds_toArray, List.set_cons_zero, List.set_cons_succ]
                  refine wpAnyH_ready (rs := [10]) (by kernel_rfl) (by simp) ?_
                  refine AllReadyH.cons (o := ⟨_, _, _, _, _, _⟩) rfl (fun K hK => ?_) AllReadyH.nil
                  go_simp
                  refine hK.out _ _ (by (try dsimp only); exact hkd1.out) (fun hHeld => ?_)
                  clear hK K
                  try simp only [Act.put, List.setIfInBounds_toArray, List.set_cons_zero, List.set_cons_succ]
                  refine wpAnyH_done (by kernel_rfl) ?_ _
                  clear a0 a1 a2 a3 a4 a5 f0 f1 f2 f3 f4 f5
                  have hbt1 : Below w4.heap.size w6 (W1.setCell ⟨w4.heap.size, 4, none⟩ (.slice B1 ((selL pts l1 k).length + 1) d1)) := ((hb121.mono (Nat.le_of_lt hP.out.2.2.2.2)).trans (hbn1.mono (Nat.le_succ _))).trans hbs1
                  obtain ⟨X1, hX1⟩ : ∃ X1, X1 = W1.setCell ⟨w4.heap.size, 4, none⟩ (.slice B1 ((selL pts l1 k).length + 1) d1) := ⟨_, rfl⟩
                  rw [← hX1] at hQ1 hbt1 ⊢
                  clear hX1 hbs1 hkd1
                  rw [hy1.out, ← selL_no hni.out] at hQ1
                  have hs2 := (hbt1.cell (p := ⟨w.heap.size, 5, none⟩) hwbd).trans hs2a
                  have hx2 := (hbt1.cell (p := ⟨b2, o2 + k, none⟩) (Nat.lt_trans hbb2 hwbd)).trans hx2a
                  go_wp2_with (fail)
                  obtain ⟨y2, hy2⟩ : ∃ y2, y2 = mul[k]?.getD 0 := ⟨_, rfl⟩
                  have hka2 := Lib.hid (show X1.cell? ⟨w.heap.size, 5, none⟩ = some (.slice (some ⟨b2, o2, none⟩) mul.length c2) ∧ X1.cell? ⟨b2, o2 + k, none⟩ = some (.int .i64 y2) from ⟨hs2, by rw [hy2]; exact hx2⟩)
                  have hb122 : Below X1.heap.size X1 (X1.alloc (.cells #[.int .i64 y2] 3)).drew := ((Below.refl _ X1).alloc (Nat.le_refl _) _).drew
                  have hP2 : PD (X1.alloc (.cells #[.int .i64 y2] 3)).drew w4.heap.size _ _ _ _ _ _ _ _ := PD.below hQ1.out hb122
                  have hu2 := hQ1.out.1.2.2.2.2.2.1
                  have hu2' := hP2.1.2.2.2.2.2.1
                  have hlw2 : w.heap.size < X1.heap.size := Nat.lt_trans hwbd hQ1.out.2.2.2.2
                  have hkb2 := Lib.hid (keep2c (p := ⟨w.heap.size, 5, none⟩) (q := ⟨b2, o2 + k, none⟩) hb122 hlw2 (Nat.lt_of_lt_of_le hbb2 (Nat.le_of_lt hlw2)) hka2.out)
                  have hle2 : (selL mul l1 k).length + [y2].length ≤ 1000000000 := by rw [selL_length]; have := idxL_le l1 k; simp; omega
                  have hcr2 : Hid (Rd (X1.alloc (.cells #[.int .i64 y2] 3)).drew (X1.heap.size + 1) (some ⟨X1.heap.size, 0, none⟩) [y2]) := cell1_rd X1 y2
                  have hsz2 : w4.heap.size + 1 ≤ (X1.alloc (.cells #[.int .i64 y2] 3)).drew.heap.size := Nat.le_trans hQ1.out.2.2.2.2 hb122.size
                  have hbw2 : w.heap.size < w4.heap.size + 1 := Nat.lt_succ_of_lt hwbd
                  replace hy2 := Lib.hid hy2
                  clear hs2 hx2
                  refine wp_region_held_drew (S := fun w' => w'.cell? ⟨w.heap.size, 5, none⟩ = some (.slice (some ⟨b2, o2, none⟩) mul.length c2) ∧ w'.cell? ⟨b2, o2 + k, none⟩ = some (.int .i64 y2)) (by kernel_rfl) (by (try dsimp only); exact hka2.out) (fun hHeld => ?_)
                  refine wpAnyH_take (i := 0) (oi := ⟨_, _, _, _, _, _⟩) (v := ?_) rfl (by kernel_rfl) (by kernel_rfl) (by kernel_rfl) (fun _ _ _ h => h) (Or.inl ⟨by rfl, ?_⟩) (by assumption) ?_
                  rotate_left
                  · intro w hSw; (try dsimp only at hSw); go_simp; try with_reducible rfl
                  try simp only [Act.put, List.setIfInBounds_toArray, List.set_cons_zero, List.set_cons_succ]
                  refine wpAnyH_take (i := 2) (oi := ⟨_, _, _, _, _, _⟩) (v := ?_) rfl (by kernel_rfl) (by kernel_rfl) (by kernel_rfl) (fun _ _ _ h => h) (Or.inl ⟨by rfl, ?_⟩) (by assumption) ?_
                  rotate_left
                  · intro w hSw; (try dsimp only at hSw); go_simp; try with_reducible rfl
                  try simp only [Act.put, List.setIfInBounds_toArray, List.set_cons_zero, List.set_cons_succ]
                  refine wpAnyH_take (i := 3) (oi := ⟨_, _, _, _, _, _⟩) (v := ?_) rfl (by kernel_rfl) (by kernel_rfl) (by kernel_rfl) (fun _ _ _ h => h) (Or.inl ⟨by rfl, ?_⟩) (by assumption) ?_
                  rotate_left
                  · intro w hSw; (try dsimp only at hSw); go_simp; try with_reducible rfl
                  try simp only [Act.put, List.setIfInBounds_toArray, List.set_cons_zero, List.set_cons_succ]
                  refine wpAnyH_take (i := 4) (oi := ⟨_, _, _, _, _, _⟩) (v := ?_) rfl (by kernel_rfl) (by kernel_rfl) (by kernel_rfl) (fun _ _ _ h => h) (Or.inl ⟨by rfl, ?_⟩) (by assumption) ?_
                  rotate_left
                  · intro w hSw; (try dsimp only at hSw); go_simp; try with_reducible rfl
                  try simp only [Act.put, List.setIfInBounds_toArray, List.set_cons_zero, List.set_cons_succ]
                  refine wpAnyH_take (i := 5) (oi := ⟨_, _, _, _, _, _⟩) (v := ?_) rfl (by kernel_rfl) (by kernel_rfl) (by kernel_rfl) (fun _ _ _ h => h) (Or.inl ⟨by rfl, ?_⟩) (by assumption) ?_
                  rotate_left
                  · intro w hSw; (try dsimp only at hSw); go_simp; try with_reducible rfl
                  try simp only [Act.put, List.setIfInBounds_toArray, List.set_cons_zero, List.set_cons_succ]
                  refine wpAnyH_take (i := 6) (oi := ⟨_, _, _, _, _, _⟩) (v := ?_) rfl (by kernel_rfl) (by kernel_rfl) (by kernel_rfl) (fun _ _ _ h => h) (Or.inl ⟨by rfl, ?_⟩) (by assumption) ?_
                  rotate_left
                  · intro w hSw; (try dsimp only at hSw); go_simp; try with_reducible rfl
                  try simp only [Act.put, List.setIfInBounds_toArray, List.set_cons_zero, List.set_cons_succ]
                  refine wpAnyH_ready (rs := [1, 7]) (by kernel_rfl) (by simp) ?_
                  refine AllReadyH.cons (o := ⟨_, _, _, _, _, _⟩) rfl (fun K hK => ?_) ?_
                  · go_simp
                    refine hK.out _ _ (by (try dsimp only); first | exact hkb2.out | exact hka2.out) (fun hHeld => ?_)
                    clear hK K
                    try simp only [Act.put, List.setIfInBounds_toArray, List.set_cons_zero, List.set_cons_succ]
                    refine wpAnyH_ready (rs := [7]) (by kernel_rfl) (by simp) ?_
                    refine AllReadyH.cons (o := ⟨_, _, _, _, _, _⟩) rfl (fun K hK => ?_) AllReadyH.nil
                    go_simp
                    refine hK.out _ _ (by (try dsimp only); exact hkb2.out) (fun hHeld => ?_)
                    clear hK K
                    try simp only [Act.put, List.setIfInBounds_toArray, List.set_cons_zero, List.set_cons_succ]
                    generalize (X1.alloc (.cells #[.int .i64 y2] 3)).drew = Z2 at *
                    refine wpAnyH_ready (rs := [8]) (by kernel_rfl) (by simp) ?_
                    refine AllReadyH.cons (o := ⟨_, _, _, _, _, _⟩) rfl (fun K hK => ?_) AllReadyH.nil
                    refine step_appN (n2 := 1) rfl (.tmp 91) (.tmp 97) rfl (w4.heap.size + 1) v2 (selL mul l1 k) (X1.heap.size + 1) (some ⟨X1.heap.size, 0, none⟩) 1 [y2] hP2.2.2.1 hcr2.out (by rfl) (by rfl) (by rfl) hle2 hsz2 ?_
                    intro V2 W2 ho2 hbn2 hg2 hv2
                    obtain ⟨B2, d2, e2, -, -, -⟩ := ho2.form
                    rw [List.length_append, List.length_singleton] at e2
                    subst e2
                    have hQ2 := Lib.hid (hP2.app5 ho2 hbn2 hg2 hv2)
                    have hkc2 := Lib.hid (keep2c (p := ⟨w.heap.size, 5, none⟩) (q := ⟨b2, o2 + k, none⟩) hbn2 hbw2 (Nat.lt_trans hbb2 hbw2) hkb2.out)
                    obtain ⟨a0, a1, a2, a3, a4, a5, f0, f1, f2, f3, f4, f5⟩ := hP2.1.keep hbn2 (Nat.lt_succ_self _)
                    have hbs2 : Below w4.heap.size W2 (W2.setCell ⟨w4.heap.size, 5, none⟩ (.slice B2 ((selL mul l1 k).length + 1) d2)) := (Below.refl _ _).setCell (p := ⟨w4.heap.size, 5, none⟩) (Nat.le_refl _) _
                    have hkd2 := Lib.hid (keep2c (p := ⟨w.heap.size, 5, none⟩) (q := ⟨b2, o2 + k, none⟩) hbs2 hwbd (Nat.lt_trans hbb2 hwbd) hkc2.out)
                    refine hK.out _ _ (by (try dsimp only); exact hkc2.out) (fun hHeld => ?_)
                    clear hK K
                    try simp only [Act.put, List.setIfInBounds_toArray, List.set_cons_zero, List.set_cons_succ]
                    refine wpAnyH_take (i := 9) (oi := ⟨_, _, _, _, _, _⟩) (v := ?_) rfl (by kernel_rfl) (by kernel_rfl) (by kernel_rfl) (fun _ _ _ h => h) (Or.inl ⟨by rfl, ?_⟩) (by assumption) ?_
                    rotate_left
                    · intro w hSw; (try dsimp only at hSw); go_simp; try with_reducible rfl
                    try simp only [Act.put, List.setIfInBounds_toArray, List.set_cons_zero, List.set_cons_succ]
                    refine wpAnyH_ready (rs := [10]) (by kernel_rfl) (by simp) ?_
                    refine AllReadyH.cons (o := ⟨_, _, _, _, _, _⟩) rfl (fun K hK => ?_) AllReadyH.nil
                    go_simp
                    refine hK.out _ _ (by (try dsimp only); exact hkd2.out) (fun hHeld => ?_)
                    clear hK K
                    try simp only [Act.put, List.setIfInBounds_toArray, List.set_cons_zero, List.set_cons_succ]
                    refine wpAnyH_done (by kernel_rfl) ?_ _
                    clear a0 a1 a2 a3 a4 a5 f0 f1 f2 f3 f4 f5
                    have hbt2 : Below w4.heap.size X1 (W2.setCell ⟨w4.heap.size, 5, none⟩ (.slice B2 ((selL mul l1 k).length + 1) d2)) := ((hb122.mono (Nat.le_of_lt hQ1.out.2.2.2.2)).trans (hbn2.mono (Nat.le_succ _))).trans hbs2
                    obtain ⟨X2, hX2⟩ : ∃ X2, X2 = W2.setCell ⟨w4.heap.size, 5, none⟩ (.slice B2 ((selL mul l1 k).length + 1) d2) := ⟨_, rfl⟩
                    rw [← hX2] at hQ2 hbt2 ⊢
                    clear hX2 hbs2 hkd2
                    rw [hy2.out, ← selL_no hni.out] at hQ2
                    go_wp2_with (fail)
                    go_roundw
                    case rel => exact ⟨k + 1, _, _, by omega, by go_num, hQ2, (hbw4.trans hbt1).trans hbt2⟩
                    case measure => simp [intOf]; omega
                  refine AllReadyH.cons (o := ⟨_, _, _, _, _, _⟩) rfl (fun K hK => ?_) AllReadyH.nil
                  go_simp
                  refine hK.out _ _ (by (try dsimp only); exact hkb2.out) (fun hHeld => ?_)
                  clear hK K
                  try simp only [Act.put, List.setIfInBounds_toArray, List.set_cons_zero, List.set_cons_succ]
                  generalize (X1.alloc (.cells #[.int .i64 y2] 3)).drew = Z2 at *
                  refine wpAnyH_ready (rs := [1]) (by kernel_rfl) (by simp) ?_
                  refine AllReadyH.cons (o := ⟨_, _, _, _, _, _⟩) rfl (fun K hK => ?_) AllReadyH.nil
                  go_simp
                  refine hK.out _ _ (by (try dsimp only); first | exact hkb2.out | exact hka2.out) (fun hHeld => ?_)
                  clear hK K
                  try simp only [Act.put, List.setIfInBounds_toArray, List.set_cons_zero, List.set_cons_succ]
                  refine wpAnyH_ready (rs := [8]) (by kernel_rfl) (by simp) ?_
                  refine AllReadyH.cons (o := ⟨_, _, _, _, _, _⟩) rfl (fun K hK => ?_) AllReadyH.nil
                  refine step_appN (n2 := 1) rfl (.tmp 91) (.tmp 97) rfl (w4.heap.size + 1) v2 (selL mul l1 k) (X1.heap.size + 1) (some ⟨X1.heap.size, 0, none⟩) 1 [y2] hP2.2.2.1 hcr2.out (by rfl) (by rfl) (by rfl) hle2 hsz2 ?_
                  intro V2 W2 ho2 hbn2 hg2 hv2
                  obtain ⟨B2, d2, e2, -, -, -⟩ := ho2.form
                  rw [List.length_append, List.length_singleton] at e2
                  subst e2
                  have hQ2 := Lib.hid (hP2.app5 ho2 hbn2 hg2 hv2)
                  have hkc2 := Lib.hid (keep2c (p := ⟨w.heap.size, 5, none⟩) (q := ⟨b2, o2 + k, none⟩) hbn2 hbw2 (Nat.lt_trans hbb2 hbw2) hkb2.out)
                  obtain ⟨a0, a1, a2, a3, a4, a5, f0, f1, f2, f3, f4, f5⟩ := hP2.1.keep hbn2 (Nat.lt_succ_self _)
                  have hbs2 : Below w4.heap.size W2 (W2.setCell ⟨w4.heap.size, 5, none⟩ (.slice B2 ((selL mul l1 k).length + 1) d2)) := (Below.refl _ _).setCell (p := ⟨w4.heap.size, 5, none⟩) (Nat.le_refl _) _
                  have hkd2 := Lib.hid (keep2c (p := ⟨w.heap.size, 5, none⟩) (q := ⟨b2, o2 + k, none⟩) hbs2 hwbd (Nat.lt_trans hbb2 hwbd) hkc2.out)
                  refine hK.out _ _ (by (try dsimp only); exact hkc2.out) (fun hHeld => ?_)
                  clear hK K
                  try simp only [Act.put, List.setIfInBounds_toArray, List.set_cons_zero, List.set_cons_succ]
                  refine wpAnyH_take (i := 9) (oi := ⟨_, _, _, _, _, _⟩) (v := ?_) rfl (by kernel_rfl) (by kernel_rfl) (by kernel_rfl) (fun _ _ _ h => h) (Or.inl ⟨by rfl, ?_⟩) (by assumption) ?_
                  rotate_left
                  · intro w hSw; (try dsimp only at hSw); go_simp; try with_reducible rfl
                  try simp only [Act.put, List.setIfInBounds_toArray, List.set_cons_zero, List.set_cons_succ]
                  refine wpAnyH_ready (rs := [10]) (by kernel_rfl) (by simp) ?_
                  refine AllReadyH.cons (o := ⟨_, _, _, _, _, _⟩) rfl (fun K hK => ?_) AllReadyH.nil
                  go_simp
                  refine hK.out _ _ (by (try dsimp only); exact hkd2.out) (fun hHeld => ?_)
                  clear hK K
                  try simp only [Act.put, List.setIfInBounds_toArray, List.set_cons_zero, List.set_cons_succ]
                  refine wpAnyH_done (by kernel_rfl) ?_ _
                  clear a0 a1 a2 a3 a4 a5 f0 f1 f2 f3 f4 f5
                  have hbt2 : Below w4.heap.size X1 (W2.setCell ⟨w4.heap.size, 5, none⟩ (.slice B2 ((selL mul l1 k).length + 1) d2)) := ((hb122.mono (Nat.le_of_lt hQ1.out.2.2.2.2)).trans (hbn2.mono (Nat.le_succ _))).trans hbs2
                  obtain ⟨X2, hX2⟩ : ∃ X2, X2 = W2.setCell ⟨w4.heap.size, 5, none⟩ (.slice B2 ((selL mul l1 k).length + 1) d2) := ⟨_, rfl⟩
                  rw [← hX2] at hQ2 hbt2 ⊢
                  clear hX2 hbs2 hkd2
                  rw [hy2.out, ← selL_no hni.out] at hQ2
                  go_wp2_with (fail)
                  go_roundw
                  case rel => exact ⟨k + 1, _, _, by omega, by go_num, hQ2, (hbw4.trans hbt1).trans hbt2⟩
                  case measure => simp [intOf]; omega
                refine AllReadyH.cons (o := ⟨_, _, _, _, _, _⟩) rfl (fun K hK => ?_) AllReadyH.nil
                go_simp
                refine hK.out _ _ (by (try dsimp only); exact hkb1.out) (fun hHeld => ?_)
                clear hK K
                try simp only [Act.put, List.setIfInBounds_toArray, List.set_cons_zero, List.set_cons_succ]
                generalize (w6.alloc (.cells #[.int .i64 y1] 3)).drew = Z1 at *
                refine wpAnyH_ready (rs := [1]) (by kernel_rfl) (by simp) ?_
                refine AllReadyH.cons (o := ⟨_, _, _, _, _, _⟩) rfl (fun K hK => ?_) AllReadyH.nil
                go_simp
                refine hK.out _ _ (by (try dsimp only); first | exact hkb1.out | exact hka1.out) (fun hHeld => ?_)
                clear hK K
                try simp only [Act.put, List.setIfInBounds_toArray, List.set_cons_zero, List.set_cons_succ]
                refine wpAnyH_ready (rs := [8]) (by kernel_rfl) (by simp) ?_
                refine AllReadyH.cons (o := ⟨_, _, _, _, _, _⟩) rfl (fun K hK => ?_) AllReadyH.nil
                refine step_appN (n2 := 1) rfl (.tmp 81) (.tmp 87) rfl (w4.heap.size + 1) v1 (selL pts l1 k) (w6.heap.size + 1) (some ⟨w6.heap.size, 0, none⟩) 1 [y1] hP1.2.1 hcr1.out (by rfl) (by rfl) (by rfl) hle1 hsz1 ?_
                intro V1 W1 ho1 hbn1 hg1 hv1
                obtain ⟨B1, d1, e1, -, -, -⟩ := ho1.form
                rw [List.length_append, List.length_singleton] at e1
                subst e1
                have hQ1 := Lib.hid (hP1.app4 ho1 hbn1 hg1 hv1)
                have hkc1 := Lib.hid (keep2c (p := ⟨w.heap.size, 4, none⟩) (q := ⟨b1, o1 + k, none⟩) hbn1 hbw1 (Nat.lt_trans hbb1 hbw1) hkb1.out)
                obtain ⟨a0, a1, a2, a3, a4, a5, f0, f1, f2, f3, f4, f5⟩ := hP1.1.keep hbn1 (Nat.lt_succ_self _)
                have hbs1 : Below w4.heap.size W1 (W1.setCell ⟨w4.heap.size, 4, none⟩ (.slice B1 ((selL pts l1 k).length + 1) d1)) := (Below.refl _ _).setCell (p := ⟨w4.heap.size, 4, none⟩) (Nat.le_refl _) _
                have hkd1 := Lib.hid (keep2c (p := ⟨w.heap.size, 4, none⟩) (q := ⟨b1, o1 + k, none⟩) hbs1 hwbd (Nat.lt_trans hbb1 hwbd) hkc1.out)
                refine hK.out _ _ (by (try dsimp only); exact hkc1.out) (fun hHeld => ?_)
                clear hK K
                try simp only [Act.put, List.setIfInBounds_toArray, List.set_cons_zero, List.set_cons_succ]
                refine wpAnyH_take (i := 9) (oi := ⟨_, _, _, _, _, _⟩) (v := ?_) rfl (by kernel_rfl) (by kernel_rfl) (by kernel_rfl) (fun _ _ _ h => h) (Or.inl ⟨by rfl, ?_⟩) (by assumption) ?_
                rotate_left
                · intro w hSw; (try dsimp only at hSw); go_simp; try with_reducible rfl
                try simp only [Act.put, List.setIfInBounds_toArray, List.set_cons_zero, List.set_cons_succ]
                refine wpAnyH_ready (rs := [10]) (by kernel_rfl) (by simp) ?_
                refine AllReadyH.cons (o := ⟨_, _, _, _, _, _⟩) rfl (fun K hK => ?_) AllReadyH.nil
                go_simp
                refine hK.out _ _ (by (try dsimp only); exact hkd1.out) (fun hHeld => ?_)
                clear hK K
                try simp only [Act.put, List.setIfInBounds_toArray, List.set_cons_zero, List.set_cons_succ]
                refine wpAnyH_done (by kernel_rfl) ?_ _
                clear a0 a1 a2 a3 a4 a5 f0 f1 f2 f3 f4 f5
                have hbt1 : Below w4.heap.size w6 (W1.setCell ⟨w4.heap.size, 4, none⟩ (.slice B1 ((selL pts l1 k).length + 1) d1)) := ((hb121.mono (Nat.le_of_lt hP.out.2.2.2.2)).trans (hbn1.mono (Nat.le_succ _))).trans hbs1
                obtain ⟨X1, hX1⟩ : ∃ X1, X1 = W1.setCell ⟨w4.heap.size, 4, none⟩ (.slice B1 ((selL pts l1 k).length + 1) d1) := ⟨_, rfl⟩
                rw [← hX1] at hQ1 hbt1 ⊢
                clear hX1 hbs1 hkd1
                rw [hy1.out, ← selL_no hni.out] at hQ1
                have hs2 := (hbt1.cell (p := ⟨w.heap.size, 5, none⟩) hwbd).trans hs2a
                have hx2 := (hbt1.cell (p := ⟨b2, o2 + k, none⟩) (Nat.lt_trans hbb2 hwbd)).trans hx2a
                go_wp2_with (fail)
                obtain ⟨y2, hy2⟩ : ∃ y2, y2 = mul[k]?.getD 0 := ⟨_, rfl⟩
                have hka2 := Lib.hid (show X1.cell? ⟨w.heap.size, 5, none⟩ = some (.slice (some ⟨b2, o2, none⟩) mul.length c2) ∧ X1.cell? ⟨b2, o2 + k, none⟩ = some (.int .i64 y2) from ⟨hs2, by rw [hy2]; exact hx2⟩)
                have hb122 : Below X1.heap.size X1 (X1.alloc (.cells #[.int .i64 y2] 3)).drew := ((Below.refl _ X1).alloc (Nat.le_refl _) _).drew
                have hP2 : PD (X1.alloc (.cells #[.int .i64 y2] 3)).drew w4.heap.size _ _ _ _ _ _ _ _ := PD.below hQ1.out hb122
                have hu2 := hQ1.out.1.2.2.2.2.2.1
                have hu2' := hP2.1.2.2.2.2.2.1
                have hlw2 : w.heap.size < X1.heap.size := Nat.lt_trans hwbd hQ1.out.2.2.2.2
                have hkb2 := Lib.hid (keep2c (p := ⟨w.heap.size, 5, none⟩) (q := ⟨b2, o2 + k, none⟩) hb122 hlw2 (Nat.lt_of_lt_of_le hbb2 (Nat.le_of_lt hlw2)) hka2.out)
                have hle2 : (selL mul l1 k).length + [y2].length ≤ 1000000000 := by rw [selL_length]; have := idxL_le l1 k; simp; omega
                have hcr2 : Hid (Rd (X1.alloc (.cells #[.int .i64 y2] 3)).drew (X1.heap.size + 1) (some ⟨X1.heap.size, 0, none⟩) [y2]) := cell1_rd X1 y2
                have hsz2 : w4.heap.size + 1 ≤ (X1.alloc (.cells #[.int .i64 y2] 3)).drew.heap.size := Nat.le_trans hQ1.out.2.2.2.2 hb122.size
                have hbw2 : w.heap.size < w4.heap.size + 1 := Nat.lt_succ_of_lt hwbd
                replace hy2 := Lib.hid hy2
                clear hs2 hx2
                refine wp_region_held_drew (S := fun w' => w'.cell? ⟨w.heap.size, 5, none⟩ = some (.slice (some ⟨b2, o2, none⟩) mul.length c2) ∧ w'.cell? ⟨b2, o2 + k, none⟩ = some (.int .i64 y2)) (by kernel_rfl) (by (try dsimp only); exact hka2.out) (fun hHeld => ?_)
                refine wpAnyH_take (i := 0) (oi := ⟨_, _, _, _, _, _⟩) (v := ?_) rfl (by kernel_rfl) (by kernel_rfl) (by kernel_rfl) (fun _ _ _ h => h) (Or.inl ⟨by rfl, ?_⟩) (by assumption) ?_
                rotate_left
                · intro w hSw; (try dsimp only at hSw); go_simp; try with_reducible rfl
                try simp only [Act.put, List.setIfInBounds_toArray, List.set_cons_zero, List.set_cons_succ]
                refine wpAnyH_take (i := 2) (oi := ⟨_, _, _, _, _, _⟩) (v := ?_) rfl (by kernel_rfl) (by kernel_rfl) (by kernel_rfl) (fun _ _ _ h => h) (Or.inl ⟨by rfl, ?_⟩) (by assumption) ?_
                rotate_left
                · intro w hSw; (try dsimp only at hSw); go_simp; try with_reducible rfl
                try simp only [Act.put, List.setIfInBounds_toArray, List.set_cons_zero, List.set_cons_succ]
                refine wpAnyH_take (i := 3) (oi := ⟨_, _, _, _, _, _⟩) (v := ?_) rfl (by kernel_rfl) (by kernel_rfl) (by kernel_rfl) (fun _ _ _ h => h) (Or.inl ⟨by rfl, ?_⟩) (by assumption) ?_
                rotate_left
                · intro w hSw; (try dsimp only at hSw); go_simp; try with_reducible rfl
                try simp only [Act.put, List.setIfInBounds_toArray, List.set_cons_zero, List.set_cons_succ]
                refine wpAnyH_take (i := 4) (oi := ⟨_, _, _, _, _, _⟩) (v := ?_) rfl (by kernel_rfl) (by kernel_rfl) (by kernel_rfl) (fun _ _ _ h => h) (Or.inl ⟨by rfl, ?_⟩) (by assumption) ?_
                rotate_left
                · intro w hSw; (try dsimp only at hSw); go_simp; try with_reducible rfl
                try simp only [Act.put, List.setIfInBounds_toArray, List.set_cons_zero, List.set_cons_succ]
                refine wpAnyH_take (i := 5) (oi := ⟨_, _, _, _, _, _⟩) (v := ?_) rfl (by kernel_rfl) (by kernel_rfl) (by kernel_rfl) (fun _ _ _ h => h) (Or.inl ⟨by rfl, ?_⟩) (by assumption) ?_
                rotate_left
                · intro w hSw; (try dsimp only at hSw); go_simp; try with_reducible rfl
                try simp only [Act.put, List.setIfInBounds_toArray, List.set_cons_zero, List.set_cons_succ]
                refine wpAnyH_take (i := 6) (oi := ⟨_, _, _, _, _, _⟩) (v := ?_) rfl (by kernel_rfl) (by kernel_rfl) (by kernel_rfl) (fun _ _ _ h => h) (Or.inl ⟨by rfl, ?_⟩) (by assumption) ?_
                rotate_left
                · intro w hSw; (try dsimp only at hSw); go_simp; try with_reducible rfl
                try simp only [Act.put, List.setIfInBounds_toArray, List.set_cons_zero, List.set_cons_succ]
                refine wpAnyH_ready (rs := [1, 7]) (by kernel_rfl) (by simp) ?_
                refine AllReadyH.cons (o := ⟨_, _, _, _, _, _⟩) rfl (fun K hK => ?_) ?_
                · go_simp
                  refine hK.out _ _ (by (try dsimp only); first | exact hkb2.out | exact hka2.out) (fun hHeld => ?_)
                  clear hK K
                  try simp only [Act.put, List.setIfInBounds_toArray, List.set_cons_zero, List.set_cons_succ]
                  refine wpAnyH_ready (rs := [7]) (by kernel_rfl) (by simp) ?_
                  refine AllReadyH.cons (o := ⟨_, _, _, _, _, _⟩) rfl (fun K hK => ?_) AllReadyH.nil
                  go_simp
                  refine hK.out _ _ (by (try dsimp only); exact hkb2.out) (fun hHeld => ?_)
                  clear hK K
                  try simp only [Act.put, List.setIfInBounds_toArray, List.set_cons_zero, List.set_cons_succ]
                  generalize (X1.alloc (.cells #[.int .i64 y2] 3)).drew = Z2 at *
                  refine wpAnyH_ready (rs := [8]) (by kernel_rfl) (by simp) ?_
                  refine AllReadyH.cons (o := ⟨_, _, _, _, _, _⟩) rfl (fun K hK => ?_) AllReadyH.nil
                  refine step_appN (n2 := 1) rfl (.tmp 91) (.tmp 97) rfl (w4.heap.size + 1) v2 (selL mul l1 k) (X1.heap.size + 1) (some ⟨X1.heap.size, 0, none⟩) 1 [y2] hP2.2.2.1 hcr2.out (by rfl) (by rfl) (by rfl) hle2 hsz2 ?_
                  intro V2 W2 ho2 hbn2 hg2 hv2
                  obtain ⟨B2, d2, e2, -, -, -⟩ := ho2.form
                  rw [List.length_append, List.length_singleton] at e2
                  subst e2
                  have hQ2 := Lib.hid (hP2.app5 ho2 hbn2 hg2 hv2)
                  have hkc2 := Lib.hid (keep2c (p := ⟨w.heap.size, 5, none⟩) (q := ⟨b2, o2 + k, none⟩) hbn2 hbw2 (Nat.lt_trans hbb2 hbw2) hkb2.out)
                  obtain ⟨a0, a1, a2, a3, a4, a5, f0, f1, f2, f3, f4, f5⟩ := hP2.1.keep hbn2 (Nat.lt_succ_self _)
                  have hbs2 : Below w4.heap.size W2 (W2.setCell ⟨w4.heap.size, 5, none⟩ (.slice B2 ((selL mul l1 k).length + 1) d2)) := (Below.refl _ _).setCell (p := ⟨w4.heap.size, 5, none⟩) (Nat.le_refl _) _
                  have hkd2 := Lib.hid (keep2c (p := ⟨w.heap.size, 5, none⟩) (q := ⟨b2, o2 + k, none⟩) hbs2 hwbd (Nat.lt_trans hbb2 hwbd) hkc2.out)
                  refine hK.out _ _ (by (try dsimp only); exact hkc2.out) (fun hHeld => ?_)
                  clear hK K
                  try simp only [Act.put, List.setIfInBounds_toArray, List.set_cons_zero, List.set_cons_succ]
                  refine wpAnyH_take (i := 9) (oi := ⟨_, _, _, _, _, _⟩) (v := ?_) rfl (by kernel_rfl) (by kernel_rfl) (by kernel_rfl) (fun _ _ _ h => h) (Or.inl ⟨by rfl, ?_⟩) (by assumption) ?_
                  rotate_left
                  · intro w hSw; (try dsimp only at hSw); go_simp; try with_reducible rfl
                  try simp only [Act.put, List.setIfInBounds_toArray, List.set_cons_zero, List.set_cons_succ]
                  refine wpAnyH_ready (rs := [10]) (by kernel_rfl) (by simp) ?_
                  refine AllReadyH.cons (o := ⟨_, _, _, _, _, _⟩) rfl (fun K hK => ?_) AllReadyH.nil
                  go_simp
                  refine hK.out _ _ (by (try dsimp only); exact hkd2.out) (fun hHeld => ?_)
                  clear hK K
                  try simp only [Act.put, List.setIfInBounds_toArray, List.set_cons_zero, List.set_cons_succ]
                  refine wpAnyH_done (by kernel_rfl) ?_ _
                  clear a0 a1 a2 a3 a4 a5 f0 f1 f2 f3 f4 f5
                  have hbt2 : Below w4.heap.size X1 (W2.setCell ⟨w4.heap.size, 5, none⟩ (.slice B2 ((selL mul l1 k).length + 1) d2)) := ((hb122.mono (Nat.le_of_lt hQ1.out.2.2.2.2)).trans (hbn2.mono (Nat.le_succ _))).trans hbs2
                  obtain ⟨X2, hX2⟩ : ∃ X2, X2 = W2.setCell ⟨w4.heap.size, 5, none⟩ (.slice B2 ((selL mul l1 k).length + 1) d2) := ⟨_, rfl⟩
                  rw [← hX2] at hQ2 hbt2 ⊢
                  clear hX2 hbs2 hkd2
                  rw [hy2.out, ← selL_no hni.out] at hQ2
                  go_wp2_with (fail)
                  go_roundw
                  case rel => exact ⟨k + 1, _, _, by omega, by go_num, hQ2, (hbw4.trans hbt1).trans hbt2⟩
                  case measure => simp [intOf]; omega
                refine AllReadyH.cons (o := ⟨_, _, _, _, _, _⟩) rfl (fun K hK => ?_) AllReadyH.nil
                go_simp
                refine hK.out _ _ (by (try dsimp only); exact hkb2.out) (fun hHeld => ?_)
                clear hK K
                try simp only [Act.put, List.setIfInBounds_toArray, List.set_cons_zero, List.set_cons_succ]
                generalize (X1.alloc (.cells #[.int .i64 y2] 3)).drew = Z2 at *
                refine wpAnyH_ready (rs := [1]) (by kernel_rfl) (by simp) ?_
                refine AllReadyH.cons (o := ⟨_, _, _, _, _, _⟩) rfl (fun K hK => ?_) AllReadyH.nil
                go_simp
                refine hK.out _ _ (by (try dsimp only); first | exact hkb2.out | exact hka2.out) (fun hHeld => ?_)
                clear hK K
                try simp only [Act.put, List.setIfInBounds_toArray, List.set_cons_zero, List.set_cons_succ]
                refine wpAnyH_ready (rs := [8]) (by kernel_rfl) (by simp) ?_
                refine AllReadyH.cons (o := ⟨_, _, _, _, _, _⟩) rfl (fun K hK => ?_) AllReadyH.nil
                refine step_appN (n2 := 1) rfl (.tmp 91) (.tmp 97) rfl (w4.heap.size + 1) v2 (selL mul l1 k) (X1.heap.size + 1) (some ⟨X1.heap.size, 0, none⟩) 1 [y2] hP2.2.2.1 hcr2.out (by rfl) (by rfl) (by rfl) hle2 hsz2 ?_
                intro V2 W2 ho2 hbn2 hg2 hv2
                obtain ⟨B2, d2, e2, -, -, -⟩ := ho2.form
                rw [List.length_append, List.length_singleton] at e2
                subst e2
                have hQ2 := Lib.hid (hP2.app5 ho2 hbn2 hg2 hv2)
                have hkc2 := Lib.hid (keep2c (p := ⟨w.heap.size, 5, none⟩) (q := ⟨b2, o2 + k, none⟩) hbn2 hbw2 (Nat.lt_trans hbb2 hbw2) hkb2.out)
                obtain ⟨a0, a1, a2, a3, a4, a5, f0, f1, f2, f3, f4, f5⟩ := hP2.1.keep hbn2 (Nat.lt_succ_self _)
                have hbs2 : Below w4.heap.size W2 (W2.setCell ⟨w4.heap.size, 5, none⟩ (.slice B2 ((selL mul l1 k).length + 1) d2)) := (Below.refl _ _).setCell (p := ⟨w4.heap.size, 5, none⟩) (Nat.le_refl _) _
                have hkd2 := Lib.hid (keep2c (p := ⟨w.heap.size, 5, none⟩) (q := ⟨b2, o2 + k, none⟩) hbs2 hwbd (Nat.lt_trans hbb2 hwbd) hkc2.out)
                refine hK.out _ _ (by (try dsimp only); exact hkc2.out) (fun hHeld => ?_)
                clear hK K
                try simp only [Act.put, List.setIfInBounds_toArray, List.set_cons_zero, List.set_cons_succ]
                refine wpAnyH_take (i := 9) (oi := ⟨_, _, _, _, _, _⟩) (v := ?_) rfl (by kernel_rfl) (by kernel_rfl) (by kernel_rfl) (fun _ _ _ h => h) (Or.inl ⟨by rfl, ?_⟩) (by assumption) ?_
                rotate_left
                · intro w hSw; (try dsimp only at hSw); go_simp; try with_reducible rfl
                try simp only [Act.put, List.setIfInBounds_toArray, List.set_cons_zero, List.set_cons_succ]
                refine wpAnyH_ready (rs := [10]) (by kernel_rfl) (by simp) ?_
                refine AllReadyH.cons (o := ⟨_, _, _, _, _, _⟩) rfl (fun K hK => ?_) AllReadyH.nil
                go_simp
                refine hK.out _ _ (by (try dsimp only); exact hkd2.out) (fun hHeld => ?_)
                clear hK K
                try simp only [Act.put, List.setIfInBounds_toArray, List.set_cons_zero, List.set_cons_succ]
                refine wpAnyH_done (by kernel_rfl) ?_ _
                clear a0 a1 a2 a3 a4 a5 f0 f1 f2 f3 f4 f5
                have hbt2 : Below w4.heap.size X1 (W2.setCell ⟨w4.heap.size, 5, none⟩ (.slice B2 ((selL mul l1 k).length + 1) d2)) := ((hb122.mono (Nat.le_of_lt hQ1.out.2.2.2.2)).trans (hbn2.mono (Nat.le_succ _))).trans hbs2
                obtain ⟨X2, hX2⟩ : ∃ X2, X2 = W2.setCell ⟨w4.heap.size, 5, none⟩ (.slice B2 ((selL mul l1 k).length + 1) d2) := ⟨_, rfl⟩
                rw [← hX2] at hQ2 hbt2 ⊢
                clear hX2 hbs2 hkd2
                rw [hy2.out, ← selL_no hni.out] at hQ2
                go_wp2_with (fail)
                go_roundw
                case rel => exact ⟨k + 1, _, _, by omega, by go_num, hQ2, (hbw4.trans hbt1).trans hbt2⟩
                case measure => simp [intOf]; omega
            · obtain rfl : k = pts.length := by omega
              obtain ⟨hsix, ho1, ho2, -, hlb4⟩ := hP.out
              obtain ⟨A4, c4, rfl, hc4, hr4, hA4⟩ := ho1.form
              obtain ⟨A5, c5, rfl, hc5, hr5, hA5⟩ := ho2.form
              have hcap := ho1.cap
              rw [selL_length] at hsix hc4
              rw [selL_length] at hsix
              obtain ⟨p0, p1, p2, p3, p4, p5, e0, e1, e2, e3, e4, e5⟩ := r1.out.keep hb16 hlt1'
              obtain ⟨a0, a1, a2, a3, a4, a5, f0, f1, f2, f3, f4, f5⟩ := hsix
              obtain ⟨q0, q1, q2, q3, q4, q5⟩ := kk6.out
              have hne1 : w4.heap.size ≠ w.heap.size + 1 := by omega
              have hrf6 := (hrf.below hbw4).more (Nat.le_of_lt hlb4)
              have hfin : ∀ m : Int, Below w.heap.size w (((((((w6.setCell ⟨w4.heap.size, 3, none⟩ (.int .i64 m)).setCell ⟨w.heap.size + 1, 0, none⟩ (.int .i64 F.p)).setCell ⟨w.heap.size + 1, 1, none⟩ (.int .i64 F.m)).setCell ⟨w.heap.size + 1, 2, none⟩ (.slice A3 F.mod.length c3)).setCell ⟨w.heap.size + 1, 3, none⟩ (.int .i64 m)).setCell ⟨w.heap.size + 1, 4, none⟩ (.slice A4 (idxL l1 pts.length).length c4)).setCell ⟨w.heap.size + 1, 5, none⟩ (.slice A5 (idxL l1 pts.length).length c5)) := fun m => (hB6.setCell (p := ⟨w4.heap.size, 3, none⟩) (Nat.le_of_lt hwbd) _).trans ((set6 _ _ _ _ _ _).mono (Nat.le_succ _))
              have hrds : ∀ (m : Int) (A : Option Addr) (l : List Int), (l ≠ [] → ∀ a, A = some a → a.block ≠ w4.heap.size) → (∀ a, A = some a → a.block ≠ w.heap.size + 1) → Rd w6 w6.heap.size A l → Rd (((((((w6.setCell ⟨w4.heap.size, 3, none⟩ (.int .i64 m)).setCell ⟨w.heap.size + 1, 0, none⟩ (.int .i64 F.p)).setCell ⟨w.heap.size + 1, 1, none⟩ (.int .i64 F.m)).setCell ⟨w.heap.size + 1, 2, none⟩ (.slice A3 F.mod.length c3)).setCell ⟨w.heap.size + 1, 3, none⟩ (.int .i64 m)).setCell ⟨w.heap.size + 1, 4, none⟩ (.slice A4 (idxL l1 pts.length).length c4)).setCell ⟨w.heap.size + 1, 5, none⟩ (.slice A5 (idxL l1 pts.length).length c5)) (((((((w6.setCell ⟨w4.heap.size, 3, none⟩ (.int .i64 m)).setCell ⟨w.heap.size + 1, 0, none⟩ (.int .i64 F.p)).setCell ⟨w.heap.size + 1, 1, none⟩ (.int .i64 F.m)).setCell ⟨w.heap.size + 1, 2, none⟩ (.slice A3 F.mod.length c3)).setCell ⟨w.heap.size + 1, 3, none⟩ (.int .i64 m)).setCell ⟨w.heap.size + 1, 4, none⟩ (.slice A4 (idxL l1 pts.length).length c4)).setCell ⟨w.heap.size + 1, 5, none⟩ (.slice A5 (idxL l1 pts.length).length c5)).heap.size A l := fun m A l hA hA2 h =>
                ((h.farN hA 3 (.int .i64 m)).set6 hA2 _ _ _ _ _ _).more (by simp [World.setCell])
              have hsz3 := hb4.size
              have hq3 := fun m => hrds m A3 _ (fun hn a e => by have := hrf.blt hn a e; omega) (fun a e => by have := hAf a e; omega) hrf6
              have hq4 := fun m => hrds m A4 _ (fun _ a e => by have := (hA4 a e).1; omega) (fun a e => by have := (hA4 a e).1; omega) hr4
              have hq5 := fun m => hrds m A5 _ (fun _ a e => by have := (hA5 a e).1; omega) (fun a e => by have := (hA5 a e).1; omega) hr5
              clear hrds hr4 hr5 hrf6 hA4 hA5
              have hnn := idxL_le l1 pts.length
              by_cases hmin : K ≤ ((idxL l1 pts.length).length : Int)
              · have hmv : min K ((idxL l1 pts.length).length : Int) = K := by omega
                go_wp2_with (fail)
                refine bodyPost_ret (v := .tuple #[.agg #[.int .i64 F.p, .int .i64 F.m, .slice A3 F.mod.length c3, .int .i64 K, .slice A4 (idxL l1 pts.length).length c4, .slice A5 (idxL l1 pts.length).length c5], .int .i64 0]) (by simp [results, Try.results48, go_sem, p0, p1, p2, p3, p4, p5]) rfl ⟨hfin K, .inr ⟨hE.out, A3, c3, A4, c4, A5, c5, by rw [hmv], hq3 K, hq4 K, hq5 K, hc4, hcap⟩⟩
              · have hmv : min K ((idxL l1 pts.length).length : Int) = (idxL l1 pts.length).length := by omega
                go_wp2_with (fail)
                refine bodyPost_ret (v := .tuple #[.agg #[.int .i64 F.p, .int .i64 F.m, .slice A3 F.mod.length c3, .int .i64 (idxL l1 pts.length).length, .slice A4 (idxL l1 pts.length).length c4, .slice A5 (idxL l1 pts.length).length c5], .int .i64 0]) (by simp [results, Try.results48, go_sem, p0, p1, p2, p3, p4, p5]) rfl ⟨hfin (idxL l1 pts.length).length, .inr ⟨hE.out, A3, c3, A4, c4, A5, c5, by rw [hmv], hq3 (idxL l1 pts.length).length, hq4 (idxL l1 pts.length).length, hq5 (idxL l1 pts.length).length, hc4, hcap⟩⟩
end Go.Proofs.Ytnbkmkeiophjoaa
