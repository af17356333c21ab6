/- TowerFrobenius: the walk. -/
import Derived.Test.YteamndefbpdcjaaL01
namespace Go.Proofs.Yteamndefbpdcjaa
open Go.RowKit Go.Shelf Cw
attribute [local go_sem] Oper.semAt_some

/-- What a law ends with. -/
def LawEnd (w : World) (e : Ending) (w' : World) : Prop := e = .returned (.bool true) ∧ Below w.heap.size w w'

set_option maxHeartbeats 1000000 in
theorem frobL_bad (P M : Int) (ml : List Int) (A : Option Addr) (c : Nat) (x k : Int) (w : World) (hP : I64 P) (hM : I64 M) (hl : ml.length ≤ maxLen) (hr : Rd w w.heap.size A ml) (hb : ¬ Good P M ml) :
    Calls Try.prog 3 #[.agg #[.int .i64 P, .int .i64 M, .slice A ml.length c], .int .i64 x, .int .i64 k] w (LawEnd w) := by
  have hA := fun W => Lib.hid (alive_any W)
  have hM := fun W (h : Rd W W.heap.size A ml) => Lib.hid (made_bad P M ml A c W hP.2 hM.2 hl h hb)
  have k0 := Lib.hid (alloc3 w (.int .i64 P) (.int .i64 M) (.slice A ml.length c) 24)
  have hB : Below w.heap.size w (w.alloc (.cells #[.int .i64 P, .int .i64 M, .slice A ml.length c] 24)) := (Below.refl _ _).alloc (Nat.le_refl _) _
  clear hP hl hb
  go_enter Try.func3, Try.ntmps3
  go_wp2_with (fail)
  refine (hA _).out.mono ?_
  rintro e w1 ⟨rfl, hb1⟩
  obtain ⟨ka, kb, kc⟩ := keep3 hb1 (by simp) k0.out
  have hr1 := (((hr.below hB).more hB.size).below hb1).more hb1.size
  have hB1 := hB.trans (hb1.mono hB.size)
  have hM1 := hM _ hr1
  clear hM hA
  go_wp2_with (fail)
  refine hM1.out.mono ?_
  rintro e w2 ⟨rfl, hb2⟩
  go_wp2_with (fail)
  go_ret
  exact ⟨rfl, hB1.trans (hb2.mono hB1.size)⟩

set_option maxHeartbeats 1000000 in
theorem frobL_good (D : Desc) (A : Option Addr) (c : Nat) (x k : Int) (w : World) (hk : I64 k) (hr : Rd w w.heap.size A (modL D)) (hb : Good D.p D.m (modL D)) :
    Calls Try.prog 3 #[.agg #[.int .i64 D.p, .int .i64 D.m, .slice A D.mod.length c], .int .i64 x, .int .i64 k] w (LawEnd w) := by
  have hp2 := D.m8; have hm1 := D.m1
  have hA := fun W => Lib.hid (alive_any W)
  have hM := fun W (h : Rd W W.heap.size A (modL D)) => Lib.hid (made_good D A c W h hb)
  have k0 := Lib.hid (alloc3 w (.int .i64 D.p) (.int .i64 D.m) (.slice A D.mod.length c) 24)
  have hB : Below w.heap.size w (w.alloc (.cells #[.int .i64 D.p, .int .i64 D.m, .slice A D.mod.length c] 24)) := (Below.refl _ _).alloc (Nat.le_refl _) _
  go_enter Try.func3, Try.ntmps3
  go_wp2_with (fail)
  refine (hA _).out.mono ?_
  rintro e w1 ⟨rfl, hb1⟩
  obtain ⟨ka, kb, kc⟩ := keep3 hb1 (by simp) k0.out
  have hr1 := (((hr.below hB).more hB.size).below hb1).more hb1.size
  have hB1 := hB.trans (hb1.mono hB.size)
  have hM1 := hM _ hr1
  clear hM hA
  go_wp2_with (fail)
  refine hM1.out.mono ?_
  rintro e w2 ⟨hb2, ⟨g, F, rfl, rfl, hgl, hg⟩ | ⟨-, rfl⟩⟩
  · have hkm := kmod_eq hm1 k
    have hkl : kmod F.m k ≤ 8 := by
      have h3 := Int.emod_lt_of_pos k (show (0 : Int) < F.m by omega)
      unfold kmod; omega
    have htl := Int.lt_tmod_of_pos k (show (0 : Int) < F.m by omega)
    have htu : k.tmod F.m < F.m := Int.tmod_lt_of_pos k (by omega)
    have hF := fun W hg => Lib.hid (tFrob_any F x k g W hg hk.1 hk.2)
    have hB2 := hB1.trans (hb2.mono hB1.size)
    obtain ⟨ka2, kb2, kc2⟩ := keep3 hb2 (by have := hb1.size; simp at this; omega) ⟨ka, kb, kc⟩
    have hR := fun W h => Lib.hid (Frob7_any F x (kmod F.m k) A c W h (by omega))
    have hr2 := (hr1.below hb2).more hb2.size
    generalize kmod F.m k = K at *
    have hwp : IntKind.i64.wrap (k.tmod F.m + F.m) = k.tmod F.m + F.m := IntWalk.i64_in _ (by omega)
    have hnz : ¬ ((F.m : Int) = 0) := by omega
    go_wp2_with (fail)
    go_quiet (fail)
    clear hwp hkm hnz
    have hlt2 : w.heap.size < w2.heap.size := by have := hb1.size; have := hb2.size; simp only [World.size_alloc] at *; omega
    have kk2 := Lib.hid (⟨ka2, kb2, kc2⟩ : _ ∧ _ ∧ _)
    go_wp2_with (fail)
    go_region_held3 (fun w' => w'.cell? ⟨w.heap.size, 0, none⟩ = some (.int .i64 F.p) ∧ w'.cell? ⟨w.heap.size, 1, none⟩ = some (.int .i64 F.m) ∧ w'.cell? ⟨w.heap.size, 2, none⟩ = some (.slice A F.mod.length c)) (first | exact kk2.out | exact kk3.out | exact kk4.out)
      (first
        | (go_at_call 22; refine (hF _ (hg.drewN _).drew).out.mono ?_; rintro e w3 ⟨rfl, hb3⟩; have kk3 := Lib.hid (keep3 hb3 hlt2 kk2.out); have hr3 := ((hr2.drewN _).drew.below hb3).more hb3.size; have hs3 : w2.heap.size ≤ w3.heap.size := hb3.size)
        | (go_at_call 23; refine (hR _ hr3).out.mono ?_; rintro e w4 ⟨rfl, hb4⟩; have kk4 := Lib.hid (keep3 hb4 (by omega) kk3.out)))
    go_wp2_with (fail)
    go_ret
    exact ⟨rfl, (hB2.trans (below_drewN' (Below.refl _ _) _).drew).trans ((hb3.mono hB2.size).trans (hb4.mono (by have := hB2.size; have := hb3.size; omega)))⟩
  · go_wp2_with (fail)
    go_ret
    exact ⟨rfl, hB1.trans (hb2.mono hB1.size)⟩
end Go.Proofs.Yteamndefbpdcjaa
