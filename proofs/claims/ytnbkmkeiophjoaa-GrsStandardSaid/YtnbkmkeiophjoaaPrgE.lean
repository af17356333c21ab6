/- The program's powers of a residue and its search for a primitive element. -/
import Derived.Test.YtnbkmkeiophjoaaPrgD
import Derived.Test.YtnbkmkeiophjoaaGen
namespace Go.Proofs.Ytnbkmkeiophjoaa
open Go.RowKit Cw

/-- Block g holds just the n marks f. -/
def BB (w : World) (g n : Nat) (f : Nat → Bool) : Prop := w.heap[g]? = some (.cells ((List.range n).map fun i => Value.bool (f i)).toArray 4 (0, 0))
section
variable {w w' : World} {g n : Nat} {f : Nat → Bool}
theorem BB.lt (h : BB w g n f) : g < w.heap.size := by
  rcases Nat.lt_or_ge g w.heap.size with hlt | hge
  · exact hlt
  · unfold BB at h; rw [Array.getElem?_eq_none hge] at h; cases h
theorem BB.cell (h : BB w g n f) {i : Nat} (hi : i < n) : w.cell? ⟨g, i, none⟩ = some (.bool (f i)) := by
  rw [cell_of_row w g i _ _ (0, 0) h]
  simp [hi]
theorem BB.frozen (h : BB w g n f) (i : Nat) : w.frozen? ⟨g, i, none⟩ = false := by
  unfold BB at h
  simp [World.frozen?, h]
theorem BB.set_ (h : BB w g n f) (k : Nat) (b : Bool) : BB (w.setCell ⟨g, k, none⟩ (.bool b)) g n (fun i => if i = k then b else f i) := by
  unfold BB at h ⊢
  simp only [World.setCell, Array.getElem?_modify, h]
  simp
  apply List.ext_getElem
  · simp
  · intro i h1 h2
    simp only [List.getElem_set, List.getElem_map, List.getElem_range]
    by_cases e : k = i
    · subst e; simp
    · rw [if_neg e, if_neg (fun e' => e e'.symm)]
theorem BB.below {B : Nat} (h : BB w g n f) (hb : Below B w w') (hg : g < B) : BB w' g n f := (hb.block g hg).trans h
theorem BB.kept {row : Option Nat} (h : BB w g n f) (hg : w.grownBy w' row) (hne : row ≠ some g) : BB w' g n f := (hg.block g h.lt (fun e => hne e.symm)).trans h
theorem BB.newz (w : World) (n : Nat) : BB (w.alloc (.cells (Array.replicate n (Value.bool false)) 4)) w.heap.size n (fun _ => false) := by
  have h := heap_alloc_new w (.cells (Array.replicate n (Value.bool false)) 4)
  unfold BB
  rw [h]
  have e : ((List.range n).map fun _ => Value.bool false) = List.replicate n (Value.bool false) := by
    apply List.ext_getElem
    · simp
    · intro i h1 h2; simp
  rw [e]; simp
theorem BB.newz1 (w : World) (n : Nat) : BB (w.alloc (.cells ((Array.replicate n (Value.bool false)).setIfInBounds 1 (Value.bool true)) 4)) w.heap.size n (fun i => if i = 1 then true else false) := by
  have h := heap_alloc_new w (.cells ((Array.replicate n (Value.bool false)).setIfInBounds 1 (Value.bool true)) 4)
  unfold BB
  rw [h]
  rw [show Array.replicate n (Value.bool false) = (List.replicate n (Value.bool false)).toArray by simp, List.setIfInBounds_toArray]
  congr 3
  apply List.ext_getElem
  · simp
  · intro i h1 h2
    simp only [List.getElem_set, List.getElem_map, List.getElem_range, List.getElem_replicate]
    by_cases e : 1 = i
    · subst e; simp
    · rw [if_neg e, if_neg (fun e' => e e'.symm)]
end
theorem made_bools (n : Nat) : madeCells #[Value.bool false] n = Array.replicate n (Value.bool false) := by
  apply Array.ext
  · simp [madeCells]
  · intro i h1 h2
    simp [madeCells, Nat.mod_one]
theorem infoBool : (Try.prog.info? 4).map (fun i => (i.zero, i.size, i.bytes)) = some (some (.bool false), 1, 1) := by kernel_rfl
theorem mk_bools (n : Nat) (h : n ≤ 70000) (w : World) : (Instr.makeSlice 52 (.int .i64 (n : Int)) (.int .i64 (n : Int))).run Try.prog w =
    .ok (.slice (some ⟨w.heap.size, 0, none⟩) n n) (w.alloc (.cells (Array.replicate n (Value.bool false)) 4)) := by
  rw [← made_bools]
  exact run_make_row' 52 4 (.bool false) 1 Try.underlying52 infoBool rfl .i64 .i64 n (by omega) (by omega) w

def lenV : Value → Nat | .slice _ n _ => n | _ => 0
theorem Own.lenV {w : World} {B : Nat} {v : Value} {l : List Int} (h : Own w B v l) : lenV v = l.length := by
  obtain ⟨A, c, rfl, _⟩ := h.form; rfl

/-- The list of the powers of u below N. -/
def pwl {D : Desc} (u : R D) (N : Nat) : List Int := lst N fun i => ci (pw u i)
structure PowSt (D : Desc) (u : R D) (A : Option Addr) (c g : Nat) (w : World) (v : Value) (k : Nat) (f : Nat → Bool) (wr : World) : Prop where
  own : Own wr (w.heap.size + 1) v (pwl u (k + 1))
  seen : BB wr g D.q f
  mark : ∀ n, n < D.q → (f n = true ↔ ∃ i, i < k + 1 ∧ rcode (pw u i) = n)
  ne : v.ownBlock ≠ some g
  gl : w.heap.size < g
  bw : Below w.heap.size w wr
  sz : w.heap.size < wr.heap.size
  bx : wr.cell? ⟨w.heap.size, 0, none⟩ = some (.int .i64 D.p) ∧ wr.cell? ⟨w.heap.size, 1, none⟩ = some (.int .i64 D.m) ∧ wr.cell? ⟨w.heap.size, 2, none⟩ = some (.slice A D.mod.length c)
  lst : PwList u (k + 1)

theorem PowSt.step {D : Desc} {u : R D} {A : Option Addr} {c g : Nat} {w wr w3 w4 : World} {v v' : Value} {k y : Nat} {f : Nat → Bool} (h : PowSt D u A c g w v k f wr)
    (hy : y = rcode (pw u (k + 1))) (_hyq : y < D.q) (hl : PwList u (k + 1 + 1))
    (hown : Own w3 (w.heap.size + 1) v' (pwl u (k + 1) ++ [ci (pw u (k + 1))])) (hb3 : Below (w.heap.size + 1) (wr.setCell ⟨g, y, none⟩ (.bool true)) w3)
    (hg : (wr.setCell ⟨g, y, none⟩ (.bool true)).grownBy w3 v.ownBlock) (hv : v'.ownBlock = v.ownBlock ∨ ∀ k, v'.ownBlock = some k → (wr.setCell ⟨g, y, none⟩ (.bool true)).heap.size ≤ k)
    (hb4 : Below w3.heap.size w3 w4) : PowSt D u A c g w v' (k + 1) (fun i => if i = y then true else f i) w4 := by
  have hsz : (wr.setCell ⟨g, y, none⟩ (.bool true)).heap.size = wr.heap.size := by simp [World.setCell]
  have hgl := h.seen.lt
  have hs3 := hb3.size
  rw [hsz] at hs3
  have hsw := h.sz
  have hbs : Below (w.heap.size + 1) wr (wr.setCell ⟨g, y, none⟩ (.bool true)) := (Below.refl _ _).setCell (p := ⟨g, y, none⟩) h.gl _
  refine ⟨?_, ?_, fun n hn => ?_, ?_, h.gl, ?_, ?_, ?_, hl⟩
  · rw [show pwl u (k + 1 + 1) = pwl u (k + 1) ++ [ci (pw u (k + 1))] from lst_succ _ _]
    exact hown.below hb4 (Nat.le_refl _)
  · exact ((h.seen.set_ y true).kept hg h.ne).below hb4 (by omega)
  · by_cases e : n = y
    · rw [if_pos e]; simp; exact ⟨k + 1, by omega, by rw [e, hy]⟩
    · rw [if_neg e, h.mark n hn]
      constructor
      · rintro ⟨i, hi, e1⟩; exact ⟨i, by omega, e1⟩
      · rintro ⟨i, hi, e1⟩
        by_cases e2 : i = k + 1
        · subst e2; rw [← hy] at e1; exact absurd e1.symm e
        · exact ⟨i, by omega, e1⟩
  · intro e
    rcases hv with h1 | h1
    · exact h.ne (by rw [← h1, e])
    · have := h1 g e; rw [hsz] at this; omega
  · exact ((h.bw.trans (hbs.mono (by omega))).trans (hb3.mono (by omega))).trans (hb4.mono (by omega))
  · have := hb4.size; omega
  · exact keep3 hb4 (by omega) (keep3 hb3 (by omega) (keep3 hbs (by omega) h.bx))

set_option maxRecDepth 100000 in
set_option maxHeartbeats 2000000 in
theorem powers_any (D : Desc) (u : R D) (A : Option Addr) (c : Nat) (w : World) (hr : Rd w w.heap.size A (modL D)) :
    Calls Try.prog 128 #[.agg #[.int .i64 D.p, .int .i64 D.m, .slice A D.mod.length c], .int .i64 D.q, .int .i64 (ci u)] w fun e w' =>
      ∃ N v, PwList u N ∧ PwStop u N ∧ e = .returned v ∧ Own w' (w.heap.size + 1) v (pwl u N) ∧ Below w.heap.size w w' := by
  have hq2 := D.q2; have hq3 := D.q256; have hp1 := D.p256; have hp2 := D.m8
  have hmk := mk_bools D.q (by omega)
  have k0 := Lib.hid (alloc3 w (.int .i64 D.p) (.int .i64 D.m) (.slice A D.mod.length c) 24)
  have hq1 : 1 < D.q := by omega
  have hM := fun k w hr => Lib.hid (multiply_any D (pw u k) u A c w hr)
  have hst : Hid (PowSt D u A c (w.heap.size + 1 + 1) w (.slice (some ⟨w.heap.size + 1, 0, none⟩) 1 1) 0 (fun i => if i = 1 then true else false)
      (((w.alloc (.cells #[.int .i64 D.p, .int .i64 D.m, .slice A D.mod.length c] 24)).alloc (.cells #[Value.int .i64 1] 3)).alloc (.cells ((Array.replicate D.q (Value.bool false)).setIfInBounds 1 (Value.bool true)) 4))) := by
    have h1 : IB ((w.alloc (.cells #[.int .i64 D.p, .int .i64 D.m, .slice A D.mod.length c] 24)).alloc (.cells #[Value.int .i64 1] 3)) (w.heap.size + 1) [1] := by
      have := IB.new (w.alloc (.cells #[.int .i64 D.p, .int .i64 D.m, .slice A D.mod.length c] 24)) [1]
      simpa using this
    have h2 := BB.newz1 ((w.alloc (.cells #[.int .i64 D.p, .int .i64 D.m, .slice A D.mod.length c] 24)).alloc (.cells #[Value.int .i64 1] 3)) D.q
    refine ⟨?_, by simpa using h2, fun n hn => ?_, by simp [Value.ownBlock], by omega, (((Below.refl _ _).alloc (Nat.le_refl _) _).alloc (by simp) _).alloc (by simp; omega) _, by simp; omega, ?_, PwList.one u⟩
    · have h3 := Own.of_IB (B := w.heap.size + 1) (h1.alloc (.cells ((Array.replicate D.q (Value.bool false)).setIfInBounds 1 (Value.bool true)) 4)) (Nat.le_refl _) (by simp [maxLen])
      rw [show pwl u (0 + 1) = [1] by unfold pwl; rw [lst_succ, pw_zero, ci_one]; rfl]
      exact h3
    · constructor
      · intro h
        have h4 : n = 1 := by
          apply Classical.byContradiction; intro e; simp [e] at h
        exact ⟨0, by omega, by rw [pw_zero, rcode_one, h4]⟩
      · rintro ⟨i, hi, e⟩
        obtain rfl : i = 0 := by omega
        rw [pw_zero, rcode_one] at e
        simp [← e]
    · exact keep3 (B := w.heap.size + 1) ((Below.refl _ _).alloc (by simp) _) (by omega) (keep3 (B := w.heap.size + 1) ((Below.refl _ _).alloc (by simp) _) (by omega) k0.out)
  go_enter Try.func128, Try.ntmps128
  go_wp2_with (fail)
  obtain ⟨g, hg⟩ : ∃ g, g = w.heap.size + 1 + 1 := ⟨_, rfl⟩
  rw [← hg] at hst ⊢
  clear hmk k0 hg
  go_loopw [7, 9] (fun o y wr => ∃ (k : Nat) (f : Nat → Bool), y = .int .i64 (ci (pw u (k + 1))) ∧ Hid (PowSt D u A c g w o k f wr)) (fun o _ _ => D.q - lenV o)
  case atStart => exact ⟨0, _, by rw [pw_one], hst⟩
  case round =>
    clear hst
    obtain ⟨k, f, rfl, hst⟩ := hrel
    have hy0 := ci_nonneg (pw u (k + 1))
    have hy1 := ci_lt (pw u (k + 1))
    obtain ⟨y, hy⟩ := Int.eq_ofNat_of_zero_le hy0
    have hyr : y = rcode (pw u (k + 1)) := by unfold ci at hy; omega
    have hyq : y < D.q := by omega
    have hlen := hst.out.own.lenV
    rw [show (pwl u (k + 1)).length = k + 1 from lst_length _ _] at hlen
    have hle := hst.out.lst.le
    have hlen1 := Lib.hid hlen
    have hlen2 := hst.out.own.lenV
    clear hlen2 hlen
    obtain ⟨kc0, kc1, kc2⟩ := hst.out.bx
    have hcs := hst.out.seen.cell hyq
    have hf := hst.out.seen.frozen y
    by_cases hz : pw u (k + 1) = 0
    · have hy' : y = 0 := by rw [hyr, hz, rcode_zero]
      have hstop : PwStop u (k + 1) := .inl hz
      subst hy'
      rw [hy]
      clear hy hyr hz
      go_wp2_with (fail)
      go_ret
      exact ⟨k + 1, _, hst.out.lst, hstop, rfl, hst.out.own, hst.out.bw⟩
    · have hyne : ((y : Int) != 0) = true := by
        rw [bne_iff_ne]; intro e
        exact hz (rcode_inj (by rw [← hyr, rcode_zero]; omega))
      by_cases hs : f y = true
      · have hstop : PwStop u (k + 1) := by
          obtain ⟨i, hi, e⟩ := (hst.out.mark y hyq).1 hs
          exact .inr ⟨i, hi, rcode_inj (by rw [← hyr, e])⟩
        rw [hs] at hcs
        rw [hy]
        clear hy hyr hz
        go_wp2_with (fail)
        go_ret
        exact ⟨k + 1, _, hst.out.lst, hstop, rfl, hst.out.own, hst.out.bw⟩
      · have hs' : f y = false := by simpa using hs
        rw [hs'] at hcs
        have hnstop : ¬ PwStop u (k + 1) := by
          rintro (h | ⟨i, hi, e⟩)
          · exact hz h
          · exact hs ((hst.out.mark y hyq).2 ⟨i, hi, by rw [hyr, e]⟩)
        have hl2 := Lib.hid (hst.out.lst.succ hnstop)
        have hkk := hl2.out.le
        have hyc : ci (pw u (k + 1)) = (y : Int) := hy
        have hown2 := hst.out.own.far (p := ⟨g, y, none⟩) hst.out.ne (.bool true)
        have hszs : (wr.setCell ⟨g, y, none⟩ (.bool true)).heap.size = wr.heap.size := by simp [World.setCell]
        have hszw := hst.out.sz
        have hsl : (pwl u (k + 1)).length ≤ 1000000 := by rw [show (pwl u (k + 1)).length = k + 1 from lst_length _ _]; omega
        have hszB : w.heap.size + 1 ≤ (wr.setCell ⟨g, y, none⟩ (.bool true)).heap.size := by rw [hszs]; omega
        have hbs : Below (w.heap.size + 1) wr (wr.setCell ⟨g, y, none⟩ (.bool true)) := (Below.refl _ _).setCell (p := ⟨g, y, none⟩) hst.out.gl _
        have hbxs := Lib.hid (keep3 hbs (Nat.lt_succ_self _) hst.out.bx)
        have hM2 := hM (k + 1)
        have hps : Hid (pw u (k + 1) * u = pw u (k + 1 + 1)) := rfl
        have hyr' := Lib.hid hyr
        have hyc' := Lib.hid hyc
        replace hszs := Lib.hid hszs
        have hbws : Below w.heap.size w (wr.setCell ⟨g, y, none⟩ (.bool true)) := hst.out.bw.setCell (p := ⟨g, y, none⟩) (Nat.le_of_lt hst.out.gl) _
        rw [hy]
        clear hy hyr hz hs hs' hnstop hyc hy0 hy1
        go_wp2_with (at_builtin; go_loud (refine wpList_app1 rfl _ _ rfl (w.heap.size + 1) _ _ _ hown2 rfl rfl hszs.out hsl hszB ?_); intro v' w3 hown3 hb3 hgr3 hv3; obtain ⟨kd0, kd1, kd2⟩ := keep3 (b := w.heap.size) hb3 (Nat.lt_succ_self _) hbxs.out)
        rw [← hyc'.out]
        refine (hM2 _ ((hr.below (hbws.trans (hb3.mono (Nat.le_succ _)))).more (Nat.le_trans (Nat.le_of_lt (Nat.lt_of_lt_of_le (Nat.lt_succ_self _) hszB)) hb3.size))).out.mono ?_
        rw [hps.out]
        rintro e w4 ⟨rfl, hb4⟩
        go_wp2_with (fail)
        have hown3' : Own w3 (w.heap.size + 1) v' (pwl u (k + 1) ++ [ci (pw u (k + 1))]) := by rw [hyc'.out]; exact hown3
        have hnew := hst.out.step hyr'.out hyq hl2.out hown3' hb3 hgr3 hv3 hb4
        have hlen2 := hown3.lenV
        rw [List.length_append, show (pwl u (k + 1)).length = k + 1 from lst_length _ _] at hlen2
        go_roundw
        case rel => exact ⟨k + 1, _, rfl, hnew⟩
        case measure =>
          have h1 := hlen1.out
          show D.q - lenV v' < D.q - lenV u7
          rw [hlen2, h1, List.length_singleton]
          omega
end Go.Proofs.Ytnbkmkeiophjoaa
