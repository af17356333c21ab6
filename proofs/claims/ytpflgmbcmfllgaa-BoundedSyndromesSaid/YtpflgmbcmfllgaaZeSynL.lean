/- Plain law of layer 18: a word is a codeword just if its first entries' message has it as codeword. No Go here. Plain law of layer 39: the syndromes are 0 just for codewords. The reference's Has of layer 18. Layer 39: the reference's Has of a codeword; the arguments' boxes. -/
import Derived.Test.YtpflgmbcmfllgaaZeBndP
import Derived.Test.YtpflgmbcmfllgaaZeDivP
import Derived.Test.YtpflgmbcmfllgaaZeGpoD
import Derived.Test.YtpflgmbcmfllgaaZeBndS
import Derived.Test.YtpflgmbcmfllgaaZeHasD
import Derived.Test.YtpflgmbcmfllgaaZeGrsT
import Derived.Test.YtpflgmbcmfllgaaZeMI
import Derived.Test.YtpflgmbcmfllgaaZeB39A
namespace Go.Proofs.Ytpflgmbcmfllgaa
open Go.RowKit Cw

/-- The reference's test: the word less the rows at its pivots is 0. -/
noncomputable def inB (F : FD) (kn : Nat) (pts mul word : List Int) : Bool := all0 (rowL F.toDesc pts.length (restF kn (fun i => fnz (rowsL F.toDesc pts.length (elS kn (gM F.toDesc pts mul) pts.length).1 i)) (elS kn (gM F.toDesc pts mul) pts.length).1 (fun j => eli F.toDesc (word[j]?.getD 0))))
section
variable {F : FD} {kn : Nat} {pts mul word : List Int}
theorem fnz_piv (hz : gchkD F.toDesc kn pts mul = 0) {i : Nat} (hi : i < kn) : fnz (rowsL F.toDesc pts.length (elS kn (gM F.toDesc pts mul) pts.length).1 i) = pvF (elS kn (gM F.toDesc pts mul) pts.length).2 i ∧ pvF (elS kn (gM F.toDesc pts mul) pts.length).2 i < pts.length := by
  have hrk := gM_rank hz
  rw [Int.toNat_natCast] at hrk
  unfold rkS at hrk
  have hRR := elS_RR kn pts.length (gM F.toDesc pts mul)
  rw [hrk] at hRR
  have hlt := hRR.lt i hi
  refine ⟨fnz_eq _ _ (by rw [rowsL, rowL_length]; omega) (fun j hj => ?_) (.inr ?_), hlt⟩
  · rw [rowsL, rowL_get _ _ (by omega), hRR.low i hi j hj]; exact ci_zero
  · rw [rowsL, rowL_get _ _ hlt, hRR.one i hi]
    intro e
    exact one_ne (ci_eq_zero.1 e)
theorem inB_iff (hz : gchkD F.toDesc kn pts mul = 0) : inB F kn pts mul word = true ↔ Span kn pts.length (gM F.toDesc pts mul) (fun j => eli F.toDesc (word[j]?.getD 0)) := by
  have hrk := gM_rank hz
  rw [Int.toNat_natCast] at hrk
  have hrk' := hrk
  unfold rkS at hrk'
  have hRR := elS_RR kn pts.length (gM F.toDesc pts mul)
  have hsp := elS_span kn pts.length (gM F.toDesc pts mul)
  rw [hrk'] at hRR hsp
  have hall : inB F kn pts mul word = true ↔ ∀ j, j < pts.length → restF kn (fun i => fnz (rowsL F.toDesc pts.length (elS kn (gM F.toDesc pts mul) pts.length).1 i)) (elS kn (gM F.toDesc pts mul) pts.length).1 (fun j => eli F.toDesc (word[j]?.getD 0)) j = 0 := by
    unfold inB all0
    rw [decide_eq_true_iff]
    constructor
    · intro h j hj
      exact ci_eq_zero.1 (h _ (List.mem_map.2 ⟨j, List.mem_range.2 hj, rfl⟩))
    · intro h x hx
      obtain ⟨j, hj, rfl⟩ := List.mem_map.1 hx
      exact ci_eq_zero.2 (h j (List.mem_range.1 hj))
  rw [hall]
  constructor
  · intro h
    refine Span.trans (B := (elS kn (gM F.toDesc pts mul) pts.length).1) (n' := kn) ⟨fun i => eli F.toDesc (word[fnz (rowsL F.toDesc pts.length (elS kn (gM F.toDesc pts mul) pts.length).1 i)]?.getD 0), fun j hj => ?_⟩ hsp.1
    have h1 := h j hj
    unfold restF at h1
    dsimp only at h1 ⊢
    rw [rsum_congr fun i _ => neg_mul _ _, rsum_neg] at h1
    exact sub_eq_zero h1
  · intro h j hj
    obtain ⟨c, hc⟩ := h.trans hsp.2
    dsimp only at hc
    unfold restF
    dsimp only
    rw [rsum_congr (g := fun i => -(c i * (elS kn (gM F.toDesc pts mul) pts.length).1 i j)) fun i hi => by
      rw [(fnz_piv hz hi).1, neg_mul]
      congr 2
      exact hRR.coef (v := fun j => eli F.toDesc (word[j]?.getD 0)) hc hi, rsum_neg, ← hc j hj, add_neg]
end
end Go.Proofs.Ytpflgmbcmfllgaa

namespace Cw
section lagsyn
variable {F : Type} [CField F]
open CField (inv)
theorem lag_last {n : Nat} (hn : 1 ≤ n) (a : Nat → F) (hinj : ∀ i j, i < n → j < n → a i = a j → i = j) : rsum n (fun i => pw (a i) (n - 1) * inv (lval a i (a i) n)) = 1 := by
  have h := lag_top hn a hinj (fun t => if t = n - 1 then 1 else 0)
  rw [if_pos rfl] at h
  rw [← h]
  exact rsum_congr fun i _ => by
    rw [rsum_single (k := n - 1) (by omega) (fun t _ ht => by rw [if_neg ht, zero_mul]), if_pos rfl, one_mul]
/-- The coefficients of the polynomial through n values. -/
def lagc (a y : Nat → F) (n t : Nat) : F := rsum n fun i => y i * inv (lval a i (a i) n) * lcf a i n t
theorem lagc_val {n : Nat} (a y : Nat → F) (hinj : ∀ i j, i < n → j < n → a i = a j → i = j) {k : Nat} (hk : k < n) : rsum n (fun t => lagc a y n t * pw (a k) t) = y k := by
  have e1 : ∀ t, t < n → lagc a y n t * pw (a k) t = rsum n fun i => y i * inv (lval a i (a i) n) * (lcf a i n t * pw (a k) t) := fun t _ => by
    unfold lagc
    rw [← rsum_mul_right]
    exact rsum_congr fun i _ => by rw [mul_a]
  rw [rsum_congr e1, rsum_swap]
  have e2 : ∀ i, i < n → rsum n (fun t => y i * inv (lval a i (a i) n) * (lcf a i n t * pw (a k) t)) = y i * inv (lval a i (a i) n) * lval a i (a k) n := fun i hi => by
    rw [rsum_mul_left, lcf_sum a i (a k) n n (by unfold ldeg; rw [if_pos hi]; omega)]
  rw [rsum_congr e2, rsum_single hk (fun i hi hik => by rw [lval_zero a (fun e => hik e.symm) n hk, mul_zero]), mul_a, inv_mul (lval_ne a hinj hk n (Nat.le_refl _)), mul_one]
/-- The sums of powers, over the products, are those of the coefficients. -/
theorem syn_coef {n N i : Nat} (a y c : Nat → F) (h : ∀ j, j < n → y j = rsum N fun t => c t * pw (a j) t) :
    rsum n (fun j => inv (lval a j (a j) n) * (pw (a j) i * y j)) = rsum N fun t => c t * rsum n fun j => pw (a j) (i + t) * inv (lval a j (a j) n) := by
  have e1 : ∀ j, j < n → inv (lval a j (a j) n) * (pw (a j) i * y j) = rsum N fun t => c t * (pw (a j) (i + t) * inv (lval a j (a j) n)) := fun j hj => by
    rw [h j hj, ← rsum_mul_left, ← rsum_mul_left]
    exact rsum_congr fun t _ => by rw [pw_add]; ac_rfl
  rw [rsum_congr e1, rsum_swap]
  exact rsum_congr fun t _ => by rw [rsum_mul_left]
theorem syn_iff {n kn : Nat} (hk : kn ≤ n) (hn : 1 ≤ n) (a y : Nat → F) (hinj : ∀ i j, i < n → j < n → a i = a j → i = j) :
    (∀ i, i < n - kn → rsum n (fun j => inv (lval a j (a j) n) * (pw (a j) i * y j)) = 0) ↔ ∃ c : Nat → F, ∀ j, j < n → y j = rsum kn fun t => c t * pw (a j) t := by
  constructor
  · intro h
    have hv := fun j (hj : j < n) => (lagc_val a y hinj hj).symm
    have hz : ∀ d, d < n - kn → lagc a y n (n - 1 - d) = 0 := by
      intro d
      induction d using Nat.strongRecOn with
      | _ d ih =>
        intro hd
        have h1 := h d hd
        rw [syn_coef a y (lagc a y n) hv, rsum_single (k := n - 1 - d) (by omega) (fun t ht hne => ?_), show d + (n - 1 - d) = n - 1 by omega, lag_last hn a hinj, mul_one] at h1
        · exact h1
        · by_cases hlt : t < n - 1 - d
          · rw [lag_pow (by omega) a hinj, mul_zero]
          · have h2 := ih (n - 1 - t) (by omega) (by omega)
            rw [show n - 1 - (n - 1 - t) = t by omega] at h2
            rw [h2, zero_mul]
    refine ⟨lagc a y n, fun j hj => ?_⟩
    rw [hv j hj]
    refine rsum_tail hk fun t h1 h2 => ?_
    have h3 := hz (n - 1 - t) (by omega)
    rw [show n - 1 - (n - 1 - t) = t by omega] at h3
    rw [h3, zero_mul]
  · rintro ⟨c, hc⟩ i hi
    rw [syn_coef a y c hc]
    exact rsum_eq_zero fun t ht => by rw [lag_pow (by omega) a hinj, mul_zero]
end lagsyn
end Cw
namespace Go.Proofs.Ytpflgmbcmfllgaa
open Go.RowKit Cw
open Cw.CField (inv)
theorem wgt_zero_iff (l : List Int) : wgt l = 0 ↔ ∀ x ∈ l, x = 0 := by
  constructor
  · intro h x hx
    unfold wgt at h
    have h1 := List.length_eq_zero_iff.1 h
    have h2 := List.filter_eq_nil_iff.1 h1 x hx
    simpa using h2
  · exact wgt_zero
theorem syn_has {F : FD} {kn : Nat} {pts mul wl : List Int} (hz : gchkD F.toDesc kn pts mul = 0) :
    (decide (wgt (synL F kn pts mul wl) = 0)) = inB F kn pts mul wl := by
  obtain ⟨hn1, -, hlen, hp, hm, ht, h0, hK0, hKn⟩ := gchkD_zero hz
  have hinj := pts_inj hp ht
  have hmi : ∀ i, i < pts.length → eli F.toDesc (mul[i]?.getD 0) ≠ 0 := fun i hi => eli_ne (elB_iff.1 hm i (by omega)) fun e => h0 (e ▸ mem_get (by omega))
  have hdu : ∀ i, i < pts.length → eli F.toDesc ((dualL F pts mul)[i]?.getD 0) = inv (eli F.toDesc (mul[i]?.getD 0)) * inv (lval (fun j => eli F.toDesc (pts[j]?.getD 0)) i (eli F.toDesc (pts[i]?.getD 0)) pts.length) := fun i hi => by
    rw [dualL_get hi]
    unfold dualV
    rw [eli_ci, dprod_mul, dprod_lval, inv_mul_d]
  have key := syn_iff (F := R F.toDesc) (n := pts.length) (kn := kn) (by omega) hn1 (fun j => eli F.toDesc (pts[j]?.getD 0)) (fun j => inv (eli F.toDesc (mul[j]?.getD 0)) * eli F.toDesc (wl[j]?.getD 0)) hinj
  have hs : ∀ i, rsum pts.length (fun j => eli F.toDesc ((rowsL F.toDesc pts.length (gM F.toDesc pts (dualL F pts mul)) i)[j]?.getD 0) * eli F.toDesc (wl[j]?.getD 0)) = rsum pts.length fun j => inv (lval (fun j => eli F.toDesc (pts[j]?.getD 0)) j (eli F.toDesc (pts[j]?.getD 0)) pts.length) * (pw (eli F.toDesc (pts[j]?.getD 0)) i * (inv (eli F.toDesc (mul[j]?.getD 0)) * eli F.toDesc (wl[j]?.getD 0))) := fun i => by
    refine rsum_congr fun j hj => ?_
    rw [rowsL, rowL_get _ _ hj, eli_ci]
    unfold gM
    rw [hdu j hj]
    ac_rfl
  have h1 : wgt (synL F kn pts mul wl) = 0 ↔ ∀ i, i < pts.length - kn → rsum pts.length (fun j => inv (lval (fun j => eli F.toDesc (pts[j]?.getD 0)) j (eli F.toDesc (pts[j]?.getD 0)) pts.length) * (pw (eli F.toDesc (pts[j]?.getD 0)) i * (inv (eli F.toDesc (mul[j]?.getD 0)) * eli F.toDesc (wl[j]?.getD 0)))) = 0 := by
    rw [wgt_zero_iff]
    have hL : ((pts.length : Int) - (kn : Int)).toNat = pts.length - kn := by omega
    unfold synL
    rw [hL]
    constructor
    · intro h i hi
      rw [← hs i]
      exact ci_eq_zero.1 (h _ (List.mem_map.2 ⟨i, List.mem_range.2 hi, rfl⟩))
    · intro h x hx
      obtain ⟨i, hi, rfl⟩ := List.mem_map.1 hx
      have h2 := h i (List.mem_range.1 hi)
      rw [← hs i] at h2
      exact ci_eq_zero.2 h2
  have h2 : (∃ c : Nat → R F.toDesc, ∀ j, j < pts.length → inv (eli F.toDesc (mul[j]?.getD 0)) * eli F.toDesc (wl[j]?.getD 0) = rsum kn fun t => c t * pw (eli F.toDesc (pts[j]?.getD 0)) t) ↔ Span kn pts.length (gM F.toDesc pts mul) (fun j => eli F.toDesc (wl[j]?.getD 0)) := by
    have hg : ∀ (c : Nat → R F.toDesc) j, rsum kn (fun i => c i * gM F.toDesc pts mul i j) = eli F.toDesc (mul[j]?.getD 0) * rsum kn fun t => c t * pw (eli F.toDesc (pts[j]?.getD 0)) t := fun c j => by
      rw [← rsum_mul_left]
      exact rsum_congr fun t _ => by unfold gM; ac_rfl
    constructor
    · rintro ⟨c, hc⟩
      refine ⟨c, fun j hj => ?_⟩
      rw [hg, ← hc j hj, ← mul_a, mul_inv (hmi j hj), one_mul]
    · rintro ⟨c, hc⟩
      refine ⟨c, fun j hj => ?_⟩
      have h3 := hc j hj
      dsimp only at h3
      rw [h3, hg, ← mul_a, inv_mul (hmi j hj), one_mul]
  have h3 := (h1.trans key).trans (h2.trans (inB_iff hz).symm)
  cases hb : inB F kn pts mul wl with
  | true => exact decide_eq_true (h3.2 hb)
  | false => exact decide_eq_false fun h => by rw [h3.1 h] at hb; cases hb
end Go.Proofs.Ytpflgmbcmfllgaa

namespace Go.Proofs.Ytpflgmbcmfllgaa
open Go.RowKit Cw
attribute [local go_sem] Oper.semAt_some

set_option maxHeartbeats 2000000 in
theorem Has18_any (F : FD) (hgood : Good F.p F.m (modL F.toDesc)) (kn : Nat) (pts mul word : List Int) (A A1 A2 Aw : Option Addr) (c c1 c2 cw : Nat) (w : World) (hz : gchkD F.toDesc kn pts mul = 0) (hr : Rd w w.heap.size A (modL F.toDesc)) (hr1 : Rd w w.heap.size A1 pts) (hr2 : Rd w w.heap.size A2 mul) (hrw : Rd w w.heap.size Aw word)
    (hw : word.length = pts.length) (hel : elB F.toDesc word = true) :
    Calls Try.prog 36 #[.agg #[.int .i64 F.p, .int .i64 F.m, .slice A F.mod.length c, .int .i64 (kn : Int), .slice A1 pts.length c1, .slice A2 mul.length c2], .slice Aw word.length cw] w fun e w' => e = .returned (.bool (inB F kn pts mul word)) ∧ Below w.heap.size w w' := by
  obtain ⟨hp1, hp64, hlen, -, -, -, -, -, hkn⟩ := gchkD_zero hz
  have hrk := gM_rank hz
  rw [Int.toNat_natCast] at hrk
  have hcan := canl_elS F kn pts.length (gM F.toDesc pts mul)
  rw [hrk] at hcan
  have hCo := fun W a b d => Code18_any F kn pts mul A A1 A2 c c1 c2 W a b d hlen hp64 (by omega)
  rw [hrk] at hCo
  replace hCo := fun W a b d => Lib.hid (hCo W a b d)
  have hwe := list_rowL hel
  rw [hw] at hwe
  have hrw2 : Rd w w.heap.size Aw (rowL F.toDesc pts.length fun j => eli F.toDesc (word[j]?.getD 0)) := hwe ▸ hrw
  have hH := fun A6 c6 Al6 cl6 W a b d => Lib.hid (Has12_yes F hgood kn pts.length (elS kn (gM F.toDesc pts mul) pts.length).1 hcan A6 Al6 c6 cl6 (fun j => eli F.toDesc (word[j]?.getD 0)) Aw cw W a b (by omega) hp1 hp64 d (fun i hi => by rw [(fnz_piv hz hi).1]; exact (fnz_piv hz hi).2))
  have hB : Below w.heap.size w (w.alloc (.cells #[.int .i64 F.p, .int .i64 F.m, .slice A F.mod.length c, .int .i64 (kn : Int), .slice A1 pts.length c1, .slice A2 mul.length c2] 49)) := (Below.refl _ _).alloc (Nat.le_refl _) _
  have k0 := alloc6 w (.int .i64 F.p) (.int .i64 F.m) (.slice A F.mod.length c) (.int .i64 (kn : Int)) (.slice A1 pts.length c1) (.slice A2 mul.length c2) 49
  obtain ⟨Z, hZ⟩ : ∃ Z, Z = w.alloc (.cells #[.int .i64 F.p, .int .i64 F.m, .slice A F.mod.length c, .int .i64 (kn : Int), .slice A1 pts.length c1, .slice A2 mul.length c2] 49) := ⟨_, rfl⟩
  have hBZ : Below w.heap.size w Z := by rw [hZ]; exact hB
  have hCZ := hCo Z ((hr.below hBZ).more hBZ.size) ((hr1.below hBZ).more hBZ.size) ((hr2.below hBZ).more hBZ.size)
  replace hZ := Lib.hid hZ
  have hin : Hid (inB F kn pts mul word = all0 (rowL F.toDesc pts.length (restF kn (fun i => fnz (rowsL F.toDesc pts.length (elS kn (gM F.toDesc pts mul) pts.length).1 i)) (elS kn (gM F.toDesc pts mul) pts.length).1 (fun j => eli F.toDesc (word[j]?.getD 0))))) := rfl
  have hww := Lib.hid hw
  clear hwe hcan hrk hz hgood hCo hlen hw
  rw [hww.out]
  go_enter Try.func36, Try.ntmps36
  obtain ⟨q0, q1, q2, q3, q4, q5⟩ := k0
  go_wp2_with (fail)
  rw [← hZ.out]
  (with_reducible refine hCZ.out.mono ?_)
  rintro e w1 ⟨A6, c6, Al6, cl6, rfl, hr6, hrm6, hb1⟩
  have hB1 := hBZ.trans (hb1.mono hBZ.size)
  have hH1 := hH A6 c6 Al6 cl6 w1 hr6 hrm6 ((hrw2.below hB1).more hB1.size)
  go_wp2_with (fail)
  (with_reducible refine hH1.out.mono ?_)
  rintro e w2 ⟨rfl, hb2⟩
  go_wp2_with (fail)
  go_ret
  exact ⟨by rw [hin.out]; rfl, hB1.trans (hb2.mono hB1.size)⟩

end Go.Proofs.Ytpflgmbcmfllgaa

namespace Go.Proofs.Ytpflgmbcmfllgaa
open Go.RowKit Cw

theorem goodF {D : Desc} (h : Good D.p D.m (modL D)) : ∃ F : FD, F.toDesc = D := by
  obtain ⟨u, hu⟩ := gen_of_good h
  exact ⟨mkFD D u hu, rfl⟩
/-- The boxes of a description and of two lists. -/
def Box8 (w : World) (s : Nat) (v0 v1 v2 v3 v4 v5 u0 u1 : Value) : Prop :=
  (w.cell? ⟨s, 0, none⟩ = some v0 ∧ w.cell? ⟨s, 1, none⟩ = some v1 ∧ w.cell? ⟨s, 2, none⟩ = some v2 ∧ w.cell? ⟨s, 3, none⟩ = some v3 ∧ w.cell? ⟨s, 4, none⟩ = some v4 ∧ w.cell? ⟨s, 5, none⟩ = some v5) ∧ w.cell? ⟨s + 1, 0, none⟩ = some u0 ∧ w.cell? ⟨s + 1, 1, none⟩ = some u1
theorem Box8.keep {w w1 : World} {s B : Nat} {v0 v1 v2 v3 v4 v5 u0 u1 : Value} (h : Box8 w s v0 v1 v2 v3 v4 v5 u0 u1) (hb : Below B w w1) (hlt : s + 1 < B) : Box8 w1 s v0 v1 v2 v3 v4 v5 u0 u1 :=
  ⟨keep6 hb (Nat.lt_of_succ_lt hlt) h.1, ((bcell hb).1 (s + 1) 0 hlt).trans h.2.1, ((bcell hb).1 (s + 1) 1 hlt).trans h.2.2⟩
theorem Box8.new (w : World) (v0 v1 v2 v3 v4 v5 u0 u1 : Value) (t t2 : TypeId) : Box8 ((w.alloc (.cells #[v0, v1, v2, v3, v4, v5] t)).alloc (.cells #[u0, u1] t2)) w.heap.size v0 v1 v2 v3 v4 v5 u0 u1 := by
  unfold Box8
  simp [go_sem]
/-- What the decoder hands back for right arguments, in one form. -/
theorem GrsPost.form {D : Desc} {kn : Nat} {pts mul wl er : List Int} {w : World} {e : Ending} {w' : World} (h : GrsPost D (kn : Int) pts mul wl er w e w') (h0 : decErr D (kn : Int) pts mul wl er = 0) :
    Below w.heap.size w w' ∧ ∃ Aa na ca Ab nb cb ec, e = .returned (.tuple #[.agg #[.slice Aa na ca, .slice Ab nb cb], .int .i64 ec]) ∧
      ((ec = 12 ∧ na = 0 ∧ nb = 0 ∧ Aa = none ∧ Ab = none ∧ DecNo D kn pts mul wl er) ∨
       (ec = 0 ∧ na = pts.length ∧ ∃ msg, nb = (errL (wordL D pts mul msg) wl er pts.length).length ∧ DecOK D kn pts mul wl er msg ∧ Rd w' w'.heap.size Aa (wordL D pts mul msg) ∧ Rd w' w'.heap.size Ab (errL (wordL D pts mul msg) wl er pts.length) ∧
         (∀ a, Aa = some a → w.heap.size ≤ a.block) ∧ (∀ a, Ab = some a → w.heap.size ≤ a.block))) := by
  obtain ⟨hb, ⟨hne, -⟩ | ⟨-, hno, rfl⟩ | ⟨-, msg, Ac, cc, Ae, ce, hdec, rfl, h1, h2, h3, h4⟩⟩ := h
  · exact absurd h0 hne
  · rw [Int.toNat_natCast] at hno
    exact ⟨hb, _, _, _, _, _, _, _, rfl, .inl ⟨rfl, rfl, rfl, rfl, rfl, hno⟩⟩
  · rw [Int.toNat_natCast] at hdec
    exact ⟨hb, _, _, _, _, _, _, _, rfl, .inr ⟨rfl, rfl, msg, rfl, hdec, h1, h2, h3, h4⟩⟩
section
variable {F : FD} {kn : Nat} {pts mul wl er : List Int}
end
end Go.Proofs.Ytpflgmbcmfllgaa
