/- The reference's Has of layer 18. Layer 39: the reference's Has of a codeword; the arguments' boxes. -/
import Derived.Test.YtpflgmbcmfllgaaZbB39A
import Derived.Test.YtpflgmbcmfllgaaZbHasD
import Derived.Test.YtpflgmbcmfllgaaZbMI
import Derived.Test.YtpflgmbcmfllgaaZbMsgL
namespace Go.Proofs.Ytpflgmbcmfllgaa
open Go.RowKit Cw
attribute [local go_sem] Oper.semAt_some

set_option maxHeartbeats 2000000 in
theorem Has18_any (F : FD) (hgood : Good F.p F.m (modL F.toDesc)) (kn : Nat) (pts mul word : List Int) (A A1 A2 Aw : Option Addr) (c c1 c2 cw : Nat) (w : World) (hz : gchkD F.toDesc kn pts mul = 0) (hr : Rd w w.heap.size A (modL F.toDesc)) (hr1 : Rd w w.heap.size A1 pts) (hr2 : Rd w w.heap.size A2 mul) (hrw : Rd w w.heap.size Aw word)
    (hw : word.length = pts.length) (hel : elB F.toDesc word = true) :
    Calls Try.prog 36 #[.agg #[.int .i64 F.p, .int .i64 F.m, .slice A F.mod.length c, .int .i64 (kn : Int), .slice A1 pts.length c1, .slice A2 mul.length c2], .slice Aw word.length cw] w fun e w' => e = .returned (.bool (inB F kn pts mul word)) ∧ Below w.heap.size w w' := by
  obtain ⟨hp1, hp64, hlen, -, -, -, -, -, hkn⟩ := gchkD_zero hz
  have hrk := gM_rank hz
  rw [Int.toNat_natCast] at hrk
  have hcan := canl_elS F kn pts.length (gM F.toDesc pts mul)
  rw [hrk] at hcan
  have hCo := fun W a b d => Code18_any F kn pts mul A A1 A2 c c1 c2 W a b d hlen hp64 (by omega)
  rw [hrk] at hCo
  replace hCo := fun W a b d => Lib.hid (hCo W a b d)
  have hwe := list_rowL hel
  rw [hw] at hwe
  have hrw2 : Rd w w.heap.size Aw (rowL F.toDesc pts.length fun j => eli F.toDesc (word[j]?.getD 0)) := hwe ▸ hrw
  have hH := fun A6 c6 Al6 cl6 W a b d => Lib.hid (Has12_yes F hgood kn pts.length (elS kn (gM F.toDesc pts mul) pts.length).1 hcan A6 Al6 c6 cl6 (fun j => eli F.toDesc (word[j]?.getD 0)) Aw cw W a b (by omega) hp1 hp64 d (fun i hi => by rw [(fnz_piv hz hi).1]; exact (fnz_piv hz hi).2))
  have hB : Below w.heap.size w (w.alloc (.cells #[.int .i64 F.p, .int .i64 F.m, .slice A F.mod.length c, .int .i64 (kn : Int), .slice A1 pts.length c1, .slice A2 mul.length c2] 49)) := (Below.refl _ _).alloc (Nat.le_refl _) _
  have k0 := alloc6 w (.int .i64 F.p) (.int .i64 F.m) (.slice A F.mod.length c) (.int .i64 (kn : Int)) (.slice A1 pts.length c1) (.slice A2 mul.length c2) 49
  obtain ⟨Z, hZ⟩ : ∃ Z, Z = w.alloc (.cells #[.int .i64 F.p, .int .i64 F.m, .slice A F.mod.length c, .int .i64 (kn : Int), .slice A1 pts.length c1, .slice A2 mul.length c2] 49) := ⟨_, rfl⟩
  have hBZ : Below w.heap.size w Z := by rw [hZ]; exact hB
  have hCZ := hCo Z ((hr.below hBZ).more hBZ.size) ((hr1.below hBZ).more hBZ.size) ((hr2.below hBZ).more hBZ.size)
  replace hZ := Lib.hid hZ
  have hin : Hid (inB F kn pts mul word = all0 (rowL F.toDesc pts.length (restF kn (fun i => fnz (rowsL F.toDesc pts.length (elS kn (gM F.toDesc pts mul) pts.length).1 i)) (elS kn (gM F.toDesc pts mul) pts.length).1 (fun j => eli F.toDesc (word[j]?.getD 0))))) := rfl
  have hww := Lib.hid hw
  clear hwe hcan hrk hz hgood hCo hlen hw
  rw [hww.out]
  go_enter Try.func36, Try.ntmps36
  obtain ⟨q0, q1, q2, q3, q4, q5⟩ := k0
  go_wp2_with (fail)
  rw [← hZ.out]
  (with_reducible refine hCZ.out.mono ?_)
  rintro e w1 ⟨A6, c6, Al6, cl6, rfl, hr6, hrm6, hb1⟩
  have hB1 := hBZ.trans (hb1.mono hBZ.size)
  have hH1 := hH A6 c6 Al6 cl6 w1 hr6 hrm6 ((hrw2.below hB1).more hB1.size)
  go_wp2_with (fail)
  (with_reducible refine hH1.out.mono ?_)
  rintro e w2 ⟨rfl, hb2⟩
  go_wp2_with (fail)
  go_ret
  exact ⟨by rw [hin.out]; rfl, hB1.trans (hb2.mono hB1.size)⟩

end Go.Proofs.Ytpflgmbcmfllgaa

namespace Go.Proofs.Ytpflgmbcmfllgaa
open Go.RowKit Cw

theorem goodF {D : Desc} (h : Good D.p D.m (modL D)) : ∃ F : FD, F.toDesc = D := by
  obtain ⟨u, hu⟩ := gen_of_good h
  exact ⟨mkFD D u hu, rfl⟩
theorem wordL_elB (D : Desc) (pts mul m : List Int) : elB D (wordL D pts mul m) = true := elB_iff.2 fun j hj => by
  rw [wordL_length] at hj
  rw [wordL_get D hj]
  exact ⟨ci_nonneg _, ci_lt _⟩
theorem has39 (F : FD) (hgood : Good F.p F.m (modL F.toDesc)) (kn : Nat) (pts mul msg : List Int) (hm : msg.length = kn) (he : elB F.toDesc msg = true) (A A1 A2 Aw : Option Addr) (c c1 c2 cw : Nat) (w : World) (hz : gchkD F.toDesc kn pts mul = 0) (hr : Rd w w.heap.size A (modL F.toDesc)) (hr1 : Rd w w.heap.size A1 pts) (hr2 : Rd w w.heap.size A2 mul) (hrw : Rd w w.heap.size Aw (wordL F.toDesc pts mul msg)) :
    Calls Try.prog 36 #[.agg #[.int .i64 F.p, .int .i64 F.m, .slice A F.mod.length c, .int .i64 (kn : Int), .slice A1 pts.length c1, .slice A2 mul.length c2], .slice Aw pts.length cw] w fun e w' => e = .returned (.bool true) ∧ Below w.heap.size w w' := by
  have h := Has18_any F hgood kn pts mul (wordL F.toDesc pts mul msg) A A1 A2 Aw c c1 c2 cw w hz hr hr1 hr2 hrw (wordL_length _ _ _ _) (wordL_elB _ _ _ _)
  have hkn := (gchkD_zero hz).2.2.2.2.2.2.2.2
  have hin : inB F kn pts mul (wordL F.toDesc pts mul msg) = true := (word_span hz (wordL_length _ _ _ _) (wordL_elB _ _ _ _) ⟨hm, he, fun i hi => by rw [wordL_get F.toDesc (by omega), eli_ci]⟩).2 rfl
  rw [hin, wordL_length] at h
  exact h
/-- The boxes of a description and of two lists. -/
def Box8 (w : World) (s : Nat) (v0 v1 v2 v3 v4 v5 u0 u1 : Value) : Prop :=
  (w.cell? ⟨s, 0, none⟩ = some v0 ∧ w.cell? ⟨s, 1, none⟩ = some v1 ∧ w.cell? ⟨s, 2, none⟩ = some v2 ∧ w.cell? ⟨s, 3, none⟩ = some v3 ∧ w.cell? ⟨s, 4, none⟩ = some v4 ∧ w.cell? ⟨s, 5, none⟩ = some v5) ∧ w.cell? ⟨s + 1, 0, none⟩ = some u0 ∧ w.cell? ⟨s + 1, 1, none⟩ = some u1
theorem Box8.keep {w w1 : World} {s B : Nat} {v0 v1 v2 v3 v4 v5 u0 u1 : Value} (h : Box8 w s v0 v1 v2 v3 v4 v5 u0 u1) (hb : Below B w w1) (hlt : s + 1 < B) : Box8 w1 s v0 v1 v2 v3 v4 v5 u0 u1 :=
  ⟨keep6 hb (Nat.lt_of_succ_lt hlt) h.1, ((bcell hb).1 (s + 1) 0 hlt).trans h.2.1, ((bcell hb).1 (s + 1) 1 hlt).trans h.2.2⟩
theorem Box8.new (w : World) (v0 v1 v2 v3 v4 v5 u0 u1 : Value) (t t2 : TypeId) : Box8 ((w.alloc (.cells #[v0, v1, v2, v3, v4, v5] t)).alloc (.cells #[u0, u1] t2)) w.heap.size v0 v1 v2 v3 v4 v5 u0 u1 := by
  unfold Box8
  simp [go_sem]
end Go.Proofs.Ytpflgmbcmfllgaa
