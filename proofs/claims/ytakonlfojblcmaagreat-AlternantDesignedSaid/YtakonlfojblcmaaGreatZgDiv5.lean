/- Plain law of layer 38: Gao's decoder, over coefficients. No Go here. Layer 5 of the program: combine. Plain law of layer 5: At, Add, Scale, Sub, Power over lists; the step of a division. No Go here. Plain law of layer 38: Euclid's algorithm of Gao's decoder, over lists of coefficients. No Go here. The reference's polynomials: At, Add, Scale, Sub, Power, DivMod, Rem. -/
import Derived.Test.YtakonlfojblcmaaGreatZgP1
import Derived.Test.YtakonlfojblcmaaGreatZgGpoA
import Derived.Test.YtakonlfojblcmaaGreatZgPoR
import Derived.Test.YtakonlfojblcmaaGreatZgPol5m
import Derived.Test.YtakonlfojblcmaaGreatZgTk
namespace Cw
section
variable {R : Type} [CRing R]
theorem rsum_tail {n m : Nat} (h : n ≤ m) {f : Nat → R} (hz : ∀ i, n ≤ i → i < m → f i = 0) : rsum m f = rsum n f := by
 obtain ⟨d, rfl⟩ : ∃ d, m = n + d := ⟨m - n, by omega⟩;rw [rsum_split, rsum_eq_zero (n := d) fun i hi => hz (n + i) (by omega) (by omega), add_zero]
theorem rsum_rev : ∀ (n : Nat) (f : Nat → R), rsum n f = rsum n fun i => f (n - 1 - i)
 | 0, _ => rfl
 | n + 1, f => by
  rw [rsum_succ_left n (fun i => f (n + 1 - 1 - i)), rsum_succ, rsum_rev n f, add_c]
  congr 1
  exact rsum_congr fun i _ => by rw [show n + 1 - 1 - (i + 1) = n - 1 - i by omega]
def LtD (f : Nat → R) (n : Nat) : Prop := ∀ t, n ≤ t → f t = 0
theorem LtD.mono {f : Nat → R} {n m : Nat} (h : LtD f n) (hn : n ≤ m) : LtD f m := fun t ht => h t (Nat.le_trans hn ht)
def vl (f : Nat → R) (n : Nat) (x : R) : R := rsum n fun t => f t * pw x t
theorem vl_more {f : Nat → R} {n m : Nat} (h : LtD f n) (hm : n ≤ m) (x : R) : vl f m x = vl f n x := rsum_tail hm fun i h1 _ => by rw [h i h1, zero_mul]
theorem conv_sum {f g : Nat → R} {M : Nat} (hf : LtD f M) (t : Nat) : conv f g t = rsum M fun s => if s ≤ t then f s * g (t - s) else 0 := by
 rw [← convP_full f g hf t]; unfold convP; rw [if_neg (by omega), add_zero]
theorem vl_conv {f g : Nat → R} {M N : Nat} (hf : LtD f M) (hg : LtD g N) (x : R) : vl (conv f g) (M + N) x = vl f M x * vl g N x := by
 unfold vl;refine (rsum_congr (g := fun t => rsum M fun s => (if s ≤ t then f s * g (t - s) else 0) * pw x t) fun t _ => by rw [conv_sum hf t, rsum_mul_right]).trans ?_;rw [rsum_swap, ← rsum_mul_right];refine rsum_congr fun s hs => ?_
 rw [show M + N = s + (M + N - s) by omega, rsum_split, rsum_eq_zero (n := s) fun i hi => by rw [if_neg (by omega), zero_mul], zero_add, ← rsum_mul_left];refine (rsum_tail (n := N) (by omega) fun i h1 _ => by rw [show s + i - s = i by omega, hg i h1, mul_zero]; by_cases e : s ≤ s + i <;> simp only [e, if_true, if_false, zero_mul]).trans ?_;exact rsum_congr fun i _ => by rw [if_pos (by omega), show s + i - s = i by omega, pw_add]; ac_rfl
theorem conv_comm (f g : Nat → R) (t : Nat) : conv f g t = conv g f t := by
 unfold conv
 rw [rsum_rev];exact rsum_congr fun i hi => by rw [show t + 1 - 1 - i = t - i by omega, show t - (t - i) = i by omega, mul_c]
theorem conv_lead {f g : Nat → R} {a b : Nat} (hf : LtD f (a + 1)) (hg : LtD g (b + 1)) : conv f g (a + b) = f a * g b := by
 unfold conv
 rw [rsum_single (k := a) (by omega) fun i hi hne => ?_, show a + b - a = b by omega];rcases Nat.lt_or_ge a i with h | h
 ·rw [hf i h, zero_mul]
 ·rw [hg (a + b - i) (by omega), mul_zero]
end
section
variable {F : Type} [CField F]
theorem conv_short {f g : Nat → F} {a : Nat} (hf : f a ≠ 0) (hfl : LtD f (a + 1)) (h : ∀ t, a ≤ t → conv f g t = 0) : ∀ N, LtD g N → ∀ t, g t = 0
 | 0, hg, t => hg t (Nat.zero_le _)
 | N + 1, hg, t => by
  have h1 := h (a + N) (by omega);rw [conv_lead hfl hg] at h1;rcases mul_eq_zero h1 with e | e
  ·exact absurd e hf
  ·exact conv_short hf hfl h N (fun s hs => by
    by_cases e2 : s = N
    ·rw [e2]; exact e
    ·exact hg s (by omega)) t
end
end Cw

namespace Go.Proofs.YtakonlfojblcmaaGreat
section
open Go.RowKit Cw
attribute [local go_sem] Oper.semAt_some

theorem mix_lst {n k : Nat} {f h : Nat → Int} (e : ∀ i, k ≤ i → h i = f i) : mix n k f h = lst n f := by
 unfold mix;exact lst_congr fun i _ => by
  by_cases e2 : i < k
  ·rw [if_pos e2]
  ·rw [if_neg e2, e i (by omega)]

theorem Own.of_take {w : World} {g B n N : Nat} {f : Nat → Int} (h : IB w g (lst n f)) (hN : N ≤ n) (hB : B ≤ g) (hl : n ≤ maxLen) : Own w B (.slice (some ⟨g, 0, none⟩) N n) (lst N f) := by
 unfold IB at h;refine ⟨by simp [lst_length], .inr ⟨g, n, ((lst n f).map (Value.int .i64)).toArray, by rw [lst_length], hB, h, by rw [lst_length]; exact hN, hl, by simp [lst_length], ?_⟩⟩;rw [lst_length, Nat.mul_one]
 show ((lst n f).map (Value.int .i64)).take N = _
 rw [← List.map_take, lst_take f hN]

end
section
open Go.RowKit Cw
open CField (inv)

def scaleI (D : Desc) (a : Int) (p : List Int) : List Int := canL (fun i => ci (eli D a * cfR D p i)) p.length
def addI (D : Desc) (p q : List Int) : List Int := canL (fun i => ci (cfR D p i + cfR D q i)) (max p.length q.length)
theorem cfR_scaleI (D : Desc) (a : Int) (p : List Int) : cfR D (scaleI D a p) = fun i => eli D a * cfR D p i := cfR_can _ _ fun i h => by rw [cfR_out D h, mul_zero]
theorem cfR_addI (D : Desc) (p q : List Int) : cfR D (addI D p q) = fun i => cfR D p i + cfR D q i := cfR_can _ _ fun i h => by rw [cfR_out D (by omega), cfR_out D (by omega), add_zero]
theorem canI_can {D : Desc} (f : Nat → R D) (n : Nat) (h : ∀ i, n ≤ i → f i = 0) : canI D (canL (fun i => ci (f i)) n) = canL (fun i => ci (f i)) n := by
 have e := cfR_can f n h;unfold canI;rw [canL_congr (g := fun i => ci (f i)) fun i _ => by unfold cfI; rw [e]];exact (canL_more (by rw [canL_length]; exact cdeg_le _ _) fun i h1 h2 => by
  rw [canL_length] at h1;exact cdeg_zero (fun i => ci (f i)) n h1 h2).symm
theorem canI_lst (D : Desc) (f : Nat → R D) (n : Nat) : canI D (lst n fun i => ci (f i)) = canL (fun i => ci (f i)) n := by
 unfold canI;rw [lst_length];exact canL_congr fun i hi => by unfold cfI cfR; rw [lst_get _ hi, eli_ci]
theorem canI_addI (D : Desc) (p q : List Int) : canI D (addI D p q) = addI D p q := canI_can _ _ fun i h => by rw [cfR_out D (by omega), cfR_out D (by omega), add_zero]
theorem canI_canI (D : Desc) (p : List Int) : canI D (canI D p) = canI D p := canI_can (cfR D p) _ fun i h => cfR_out D h
theorem scaleI_le (D : Desc) (a : Int) (p : List Int) : (scaleI D a p).length ≤ p.length := by unfold scaleI; rw [canL_length]; exact cdeg_le _ _
theorem mulI_le (D : Desc) (p q : List Int) : (mulI D p q).length ≤ p.length + q.length := by unfold mulI; rw [canL_length]; exact cdeg_le _ _
theorem pevI_more (D : Desc) (p : List Int) (x : R D) {N : Nat} (h : p.length ≤ N) : rsum N (fun i => cfR D p i * pw x i) = pevI D p x := by
 rw [rsum_more h _ fun i h1 _ => by rw [cfR_out D h1, zero_mul]]; rfl
def powI (n : Nat) : List Int := lst (n + 1) fun i => if i = n then 1 else 0
theorem powI_length (n : Nat) : (powI n).length = n + 1 := lst_length _ _
theorem cfR_powI (D : Desc) (n : Nat) : cfR D (powI n) = fun i => if i = n then 1 else 0 := funext fun i => by
 by_cases h : i < n + 1
 ·unfold cfR powI;rw [lst_get _ h];by_cases e : i = n
  ·rw [if_pos e, if_pos e, eli_one]
  ·rw [if_neg e, if_neg e, eli_zero]
 ·rw [cfR_out D (by rw [powI_length]; omega), if_neg (by omega)]
theorem cfR_powI_at (D : Desc) (n i : Nat) : cfR D (powI n) i = if i = n then 1 else 0 := by rw [cfR_powI]
theorem conv_powI (D : Desc) (f : Nat → R D) (n t : Nat) : conv f (cfR D (powI n)) t = if n ≤ t then f (t - n) else 0 := by
 unfold conv
 by_cases h : n ≤ t
 ·rw [if_pos h, rsum_single (k := t - n) (by omega) fun i hi hne => by rw [cfR_powI_at, if_neg (by omega), mul_zero], cfR_powI_at, if_pos (by omega), mul_one]
 ·rw [if_neg h];exact rsum_eq_zero fun i hi => by rw [cfR_powI_at, if_neg (by omega), mul_zero]
def stepI (D : Desc) (r q : List Int) (a : Int) (n : Nat) : List Int := addI D r (scaleI D (ci (-(1 : R D))) (mulI D (scaleI D a q) (powI n)))
theorem cfR_stepI (D : Desc) (r q : List Int) (a : Int) (n t : Nat) : cfR D (stepI D r q a n) t = cfR D r t - if n ≤ t then eli D a * cfR D q (t - n) else 0 := by
 unfold stepI;rw [cfR_addI];dsimp only;rw [cfR_scaleI];dsimp only;rw [cfR_mulI, conv_powI, cfR_scaleI, eli_ci, neg_mul, one_mul, sub_d]
theorem can_short {D : Desc} {p : List Int} (hc : canI D p = p) {n : Nat} (h : ∀ t, n ≤ t → cfR D p t = 0) : p.length ≤ n := by
 by_cases hl : n ≤ p.length
 ·rw [← hc];unfold canI;rw [canL_more hl fun i h1 _ => by unfold cfI; rw [h i h1, ci_zero], canL_length];exact cdeg_le _ _
 ·omega
theorem can_lead {D : Desc} {p : List Int} (hc : canI D p = p) {n : Nat} (hn : p.length = n + 1) : cfR D p n ≠ 0 := fun h => by
 have := can_short hc (n := n) fun t ht => by
  by_cases e : t = n
  ·rw [e]; exact h
  ·exact cfR_out D (by omega)
 omega
theorem stepI_short {D : Desc} {r q : List Int} {d n : Nat} {a : Int} (hr : r.length = d + n + 1) (hq : q.length = d + 1) (ha : eli D a * cfR D q d = cfR D r (d + n)) : (stepI D r q a n).length ≤ d + n := by
 refine can_short (canI_addI _ _ _) fun t ht => ?_
 rw [show addI D r (scaleI D (ci (-(1 : R D))) (mulI D (scaleI D a q) (powI n))) = stepI D r q a n from rfl, cfR_stepI, if_pos (by omega)];by_cases e : t = d + n
 ·rw [e, show d + n - n = d by omega, ha, sub_self]
 ·rw [cfR_out D (by omega), cfR_out D (by omega), mul_zero, sub_self]

end
section
open Go.RowKit Cw
open Cw.CField (inv)

theorem cfR_lt (D : Desc) (p : List Int) : LtD (cfR D p) p.length := fun _ h => cfR_out D h
theorem pevI_vl (D : Desc) (p : List Int) (x : R D) {N : Nat} (h : p.length ≤ N) : pevI D p x = vl (cfR D p) N x := (pevI_more D p x h).symm
structure DivI (D : Desc) (p q quo rem : List Int) : Prop where
 cq : canI D quo = quo
 cr : canI D rem = rem
 eq : ∀ s, cfR D p s = conv (cfR D quo) (cfR D q) s + cfR D rem s
 lt : rem.length < (canI D q).length
structure EI (F : FD) (n k : Nat) (X Y : Nat → R F.toDesc) (a b old t : List Int) : Prop where
 ca : canI F.toDesc a = a
 cb : canI F.toDesc b = b
 ct : canI F.toDesc t = t
 lab : b.length < a.length
 lot : old.length < t.length
 sum : t.length + a.length = n + 2
 bd : n + k + 2 ≤ 2 * a.length
 va : ∀ i, i < n → pevI F.toDesc old (X i) * Y i = pevI F.toDesc a (X i)
 vb : ∀ i, i < n → pevI F.toDesc t (X i) * Y i = pevI F.toDesc b (X i)
def wr (D : Desc) (n : Nat) (X Y : Nat → R D) (m : List Int) : Nat := ((List.range n).filter fun i => ci (pevI D m (X i)) != ci (Y i)).length
end
section
open Go.RowKit Cw
open CField (inv)
attribute [local go_sem] Oper.semAt_some

set_option maxHeartbeats 1000000 in
theorem At5_any (D : Desc) (p : List Int) (k : Nat) (A A1 : Option Addr) (c c1 : Nat) (w : World) (hr1 : Rd w w.heap.size A1 p) (hl : p.length ≤ 70000) :
  Calls Tryz.prog 187 #[.agg #[.int .i64 D.p, .int .i64 D.m, .slice A D.mod.length c], .slice A1 p.length c1, .int .i64 k] w fun e w' => e = .returned (.int .i64 (ci (cfR D p k))) ∧ Below w.heap.size w w' := by
 have hB0 : Below w.heap.size w (w.alloc (.cells #[.int .i64 D.p, .int .i64 D.m, .slice A D.mod.length c] 24)) := (Below.refl _ _).alloc (Nat.le_refl _) _;have hbx0 := Lib.hid (Bx.new w D A D.mod.length c 24).cells;have hk0 : (0 : Int) ≤ (k : Int) := by omega
 by_cases hk : k < p.length
 ·obtain ⟨b, o, rfl, hb, hc⟩ := hr1.at_ hk;have hk1 : (k : Int) < (p.length : Int) := by omega
  have hI := fun W => In_any D (p[k]?.getD 0) A D.mod.length c W
  rw [show eli D (p[k]?.getD 0) = cfR D p k from rfl] at hI;replace hI := fun W => Lib.hid (hI W)
  have hcx := Lib.hid (show _ ∧ _ from ⟨hbx0.out, (hB0.cell (p := ⟨b, o + k, none⟩) hb).trans hc⟩);generalize p[k]?.getD 0 = y at *;obtain ⟨Y, hY⟩ : ∃ Y, Y = w.alloc (.cells #[.int .i64 D.p, .int .i64 D.m, .slice A D.mod.length c] 24) := ⟨_, rfl⟩;rw [← hY] at hB0 hcx hbx0;replace hY := Lib.hid hY;clear hc;go_enter Tryz.func187, Tryz.ntmps187;go_wp2_with (fail);rw [← hY.out];refine wp_region_held_drew (S := fun w' => (w'.cell? ⟨w.heap.size, 0, none⟩ = some (.int .i64 D.p) ∧ w'.cell? ⟨w.heap.size, 1, none⟩ = some (.int .i64 D.m) ∧ w'.cell? ⟨w.heap.size, 2, none⟩ = some (.slice A D.mod.length c)) ∧ w'.cell? ⟨b, o + k, none⟩ = some (.int .i64 y)) (by kernel_rfl) (by (try dsimp only); exact hcx.out) (fun hHeld => ?_);refine tk 0 ?_; try simp only [pS]
  refine tk 1 ?_; try simp only [pS]
  refine tk 2 ?_; try simp only [pS]
  refine tk 3 ?_; try simp only [pS]
  refine tk 4 ?_; try simp only [pS]
  refine rd 5 fun K hK => ?_
  go_simp;go_at_call 90;(with_reducible refine (hI Y.drew).out.mono ?_);rintro e w1 ⟨rfl, hx1⟩;have hb1 := (Below.refl Y.heap.size Y).drew.trans hx1;go_wp2_with (fail);refine hK.out _ _ (by (try dsimp only); exact ⟨keep3 hb1 (by rw [hY.out]; simp) hcx.out.1, (hb1.cell (p := ⟨b, o + k, none⟩) (Nat.lt_of_lt_of_le hb hB0.size)).trans hcx.out.2⟩) (fun hHeld => ?_);clear hK K;try simp only [pS]
  refine tk 6 ?_; try simp only [pS]
  refine wpAnyH_done (by kernel_rfl) ?_ _;go_wp2_with (fail);go_ret;exact ⟨rfl, hB0.trans (hb1.mono hB0.size)⟩
 ·have hk1 : ¬ (k : Int) < (p.length : Int) := by omega
  have hk2 : (p.length : Int) ≤ (k : Int) := by omega
  have hf : Hid (ci (cfR D p k) = 0) := by unfold Hid; rw [cfR_out D (by omega), ci_zero]
  go_enter Tryz.func187, Tryz.ntmps187;go_wp2_with (fail);go_ret;exact ⟨by rw [hf.out]; rfl, hB0⟩

set_option maxRecDepth 100000 in
set_option maxHeartbeats 2000000 in
theorem Scale5_any (D : Desc) (a : Int) (p : List Int) (A A1 : Option Addr) (c c1 : Nat) (w : World) (hr : Rd w w.heap.size A (modL D)) (hr1 : Rd w w.heap.size A1 p) (hl : p.length ≤ 20000) :
  Calls Tryz.prog 185 #[.agg #[.int .i64 D.p, .int .i64 D.m, .slice A D.mod.length c], .int .i64 a, .slice A1 p.length c1] w (Gives w.heap.size (scaleI D a p) w) := by
 have hM := fun y W h => Mul_any D a y A c W h
 obtain ⟨m, hm⟩ : ∃ m, m = p.length := ⟨_, rfl⟩;obtain ⟨f, hf⟩ : ∃ f : Nat → R D, f = fun i => eli D a * cfR D p i := ⟨_, rfl⟩
 have hfin := canI_lst D f m;rw [show canL (fun i => ci (f i)) m = scaleI D a p from by rw [hf, hm]; rfl] at hfin;have hmk := mk_ints m (by omega);have hC := fun A' c' W h => Canon5_any D (lst m fun i => ci (f i)) A A' c c' W h (by rw [lst_length]; omega)
 rw [hfin, lst_length] at hC;obtain ⟨X, hX⟩ : ∃ X, X = w.alloc (.cells #[.int .i64 D.p, .int .i64 D.m, .slice A D.mod.length c] 24) := ⟨_, rfl⟩;have hbX : Below w.heap.size w X := by rw [hX]; exact (Below.refl _ _).alloc (Nat.le_refl _) _
 have hXs : X.heap.size = w.heap.size + 1 := by rw [hX]; simp
 have hbxX : Bx X w.heap.size D A D.mod.length c := by rw [hX]; exact Bx.new w D A D.mod.length c _
 obtain ⟨g, hg⟩ : ∃ g, g = w.heap.size + 1 := ⟨_, rfl⟩;obtain ⟨Y, hY⟩ : ∃ Y, Y = X.alloc (.cells (Array.replicate m (Value.int .i64 0)) 3) := ⟨_, rfl⟩;have hib : IB Y g (upd m 0 fun i => ci (f i)) := by rw [upd_zero, hY, hg, ← hXs]; exact IB.newz X m
 have hbY : Below X.heap.size X Y := by rw [hY]; exact (Below.refl _ _).alloc (Nat.le_refl _) _
 have hBY := hbX.trans (hbY.mono hbX.size);have hbxY := hbxX.below hbY (by omega);have hwg : w.heap.size < g := by omega
 rw [← hm];have hm2 : m ≤ 20000 := by omega
 replace hm := Lib.hid hm;replace hf := Lib.hid hf;replace hX := Lib.hid hX;replace hY := Lib.hid hY;clear hbxX hbX hXs hbY;go_enter Tryz.func185, Tryz.ntmps185;go_wp2_with (fail);rw [← hX.out];rw [← hY.out];simp only [← hg];replace hg := Lib.hid hg;go_loopw [8] (fun iS wr => ∃ i : Nat, i ≤ m ∧ iS = .int .i64 i ∧ Hid (IB wr g (upd m i fun i => ci (f i))) ∧ Bx wr w.heap.size D A D.mod.length c ∧ Below w.heap.size w wr) (fun iS _ => m - (intOf iS).toNat)
 case atStart => exact ⟨0, by omega, rfl, hib, hbxY, hBY⟩
 case round =>
  clear hib hbxY hBY hX hY;obtain ⟨w2, rfl⟩ : ∃ w2 : World, w2 = wr := ⟨_, rfl⟩;obtain ⟨i, hi, rfl, hib, hbx, hbw⟩ := hrel;have hgl := hib.out.lt;have hwl : w.heap.size < w2.heap.size := by omega
  by_cases him : i < m
  ·have i0 : (0 : Int) ≤ (i : Int) := by omega
   have i1 : (i : Int) < (m : Int) := by omega
   obtain ⟨b, o, rfl, hb, hc⟩ := hr1.at_ (k := i) (by rw [← hm.out]; exact him);have hrd : Rd w2.drew w2.drew.heap.size A (modL D) := ((hr.below hbw).more hbw.size).drew;have hM2 := hM (p[i]?.getD 0) w2.drew hrd;rw [show eli D a * eli D (p[i]?.getD 0) = f i from by rw [hf.out]; rfl] at hM2;obtain ⟨y, hy⟩ : ∃ y, y = p[i]?.getD 0 := ⟨_, rfl⟩;obtain ⟨v, hv⟩ : ∃ v, v = ci (f i) := ⟨_, rfl⟩;rw [← hy] at hc hM2;rw [← hv] at hM2;have hd := (hbw.cell (p := ⟨b, o + i, none⟩) hb).trans hc;have hb' := Nat.lt_of_lt_of_le hb hbw.size;have hbg : b ≠ g := by omega
   have hcc := Lib.hid (show _ ∧ _ from ⟨hbx.cells, hd⟩);have hkk : Hid (i < (upd m i fun i => ci (f i)).length) := by unfold Hid; rw [upd_length]; exact him
   replace hM2 := Lib.hid hM2;replace hy := Lib.hid hy;replace hv := Lib.hid hv;clear hc hd;go_wp2_with (fail);refine wp_region_held_drew (S := fun w' => (w'.cell? ⟨w.heap.size, 0, none⟩ = some (.int .i64 D.p) ∧ w'.cell? ⟨w.heap.size, 1, none⟩ = some (.int .i64 D.m) ∧ w'.cell? ⟨w.heap.size, 2, none⟩ = some (.slice A D.mod.length c)) ∧ w'.cell? ⟨b, o + i, none⟩ = some (.int .i64 y)) (by kernel_rfl) (by (try dsimp only); exact hcc.out) (fun hHeld => ?_);refine tk 0 ?_; try simp only [pS]
   refine tk 1 ?_; try simp only [pS]
   refine tk 2 ?_; try simp only [pS]
   refine tk 3 ?_; try simp only [pS]
   refine tk 4 ?_; try simp only [pS]
   refine tk 5 ?_; try simp only [pS]
   refine tk 6 ?_; try simp only [pS]
   refine tk 7 ?_; try simp only [pS]
   refine rd 8 fun K hK => ?_
   go_simp;go_at_call 52;(with_reducible refine (hM2).out.mono ?_);rintro e w3 ⟨rfl, hx3⟩;have hb3 := (Below.refl w2.heap.size w2).drew.trans hx3;have hs3 := hb3.size;have hcc3 := Lib.hid (show _ ∧ _ from ⟨keep3 hb3 hwl hcc.out.1, (hb3.cell (p := ⟨b, o + i, none⟩) hb').trans hcc.out.2⟩);have hib3 := hib.out.below hb3 hgl;have hcW := hib3.cell hkk.out;have hfW := hib3.frozen i;go_wp2_with (fail);refine hK.out _ _ (by (try dsimp only); exact hcc3.out) (fun hHeld => ?_);clear hK K;try simp only [pS]
   refine tk 9 ?_; try simp only [pS]
   refine rd 10 fun K hK => ?_
   go_simp;refine hK.out _ _ (by (try dsimp only); exact ⟨keep3 (B := g) ((Below.refl _ _).setCell (p := ⟨g, i, none⟩) (Nat.le_refl _) _) hwg hcc3.out.1, (World.cell?_setCell_far _ _ _ _ hbg.symm).trans hcc3.out.2⟩) (fun hHeld => ?_);clear hK K;try simp only [pS]
   refine wpAnyH_done (by kernel_rfl) ?_ _;have hset := hib3.set_ i v;rw [hv.out, upd_set (f := fun i => ci (f i)), ← hv.out] at hset;have hbs : Hid (Below w.heap.size w (w3.setCell ⟨g, i, none⟩ (.int .i64 v))) := (hbw.trans (hb3.mono hbw.size)).setCell (p := ⟨g, i, none⟩) (Nat.le_of_lt hwg) _;have hbx5 : Hid (Bx (w3.setCell ⟨g, i, none⟩ (.int .i64 v)) w.heap.size D A D.mod.length c) := keep3 (B := g) ((Below.refl _ _).setCell (p := ⟨g, i, none⟩) (Nat.le_refl _) _) hwg hcc3.out.1;replace hset := Lib.hid hset;clear hcW hfW;go_wp2_with (fail);go_roundw
   case rel => exact ⟨i + 1, by omega, by go_num, hset, hbx5.out, hbs.out⟩
   case measure => simp [intOf]; omega
  ·obtain rfl : i = m := by omega
   rw [upd_full] at hib;obtain ⟨q0, q1, q2⟩ := hbx.cells;have hC2 := Lib.hid (hC (some ⟨g, 0, none⟩) i w2 hib.out.rd);go_wp2_with (fail);(with_reducible refine hC2.out.mono ?_);rintro e w3 ⟨g3, rfl, hg3, hib3, hb3⟩;go_wp2_with (fail);go_ret;exact ⟨g3, rfl, Nat.le_trans hbw.size hg3, hib3, hbw.trans (hb3.mono hbw.size)⟩

set_option maxHeartbeats 1000000 in
theorem Pow5_any (n : Nat) (w : World) (hn : n ≤ 20000) :
  Calls Tryz.prog 186 #[.int .i64 n] w (Gives w.heap.size (powI n) w) := by
 obtain ⟨m, hm⟩ : ∃ m, m = n + 1 := ⟨_, rfl⟩;have hmk := mk_ints m (by omega);rw [show (m : Int) = (n : Int) + 1 by omega] at hmk;have n0 : (0 : Int) ≤ (n : Int) := by omega
 have n1 : (n : Int) < (m : Int) := by omega
 have hib := IB.newz w m;have hcA := hib.cell (i := n) (by simp; omega);have hfA := hib.frozen n;have hset := hib.set_ n 1;rw [show (List.replicate m (0 : Int)).set n 1 = powI n from by
  apply List.ext_getElem?;intro i;unfold powI lst;rw [← hm, List.getElem?_map];by_cases hi : i < m
  ·rw [List.getElem?_range hi];by_cases e : i = n
   ·subst e;rw [List.getElem?_set_self (by simpa using hi)];simp
   ·rw [List.getElem?_set_ne (fun h => e h.symm), List.getElem?_replicate_of_lt hi];simp [e]
  ·rw [List.getElem?_eq_none (by simp; omega), List.getElem?_eq_none (by simp; omega)]; rfl] at hset
 have hB : Below w.heap.size w ((w.alloc (.cells (Array.replicate m (Value.int .i64 0)) 3)).setCell ⟨w.heap.size, n, none⟩ (.int .i64 1)) := ((Below.refl _ _).alloc (Nat.le_refl _) _).setCell (p := ⟨w.heap.size, n, none⟩) (Nat.le_refl _) _;have hfin : Hid (Gives w.heap.size (powI n) w (.returned (.slice (some ⟨w.heap.size, 0, none⟩) m m)) ((w.alloc (.cells (Array.replicate m (Value.int .i64 0)) 3)).setCell ⟨w.heap.size, n, none⟩ (.int .i64 1))) := ⟨w.heap.size, by rw [powI_length, ← hm], Nat.le_refl _, hset, hB⟩;have hsc : Hid ((w.alloc (.cells (Array.replicate m (Value.int .i64 0)) 3)).setCell ⟨w.heap.size, n, none⟩ (.int .i64 1) = w.alloc (.cells ((Array.replicate m (Value.int .i64 0)).setIfInBounds n (.int .i64 1)) 3)) := World.setCell_alloc_at _ _ _ _ _ rfl;replace hm := Lib.hid hm;clear hib hset hB;go_enter Tryz.func186, Tryz.ntmps186;go_wp2_with (fail);go_ret
 first | exact hfin.out | (rw [← hsc.out]; exact hfin.out)
end
end Go.Proofs.YtakonlfojblcmaaGreat
