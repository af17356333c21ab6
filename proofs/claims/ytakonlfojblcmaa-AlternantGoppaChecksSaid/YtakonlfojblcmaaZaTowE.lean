/- Layer 7 of the program: Degree, Sum, each, Trace, Norm. The program's Elements and layer 7's Subfield: a range over a function. Layer 7: Conjugates, of the program and of the reference. -/
import Derived.LoopIn
import Derived.LoopNIn
import Derived.OwnWalkIn
import Derived.RangeFuncBound
import Derived.RangeFuncBox
import Derived.RangeFuncCalls
import Derived.RangeFuncLeaves
import Derived.RangeFuncNested
import Derived.Shelf.Abstract
import Derived.Shelf.RegionOpen
import Derived.TacticsInMore
import Derived.WalkKit
import Derived.Test.YtakonlfojblcmaaZaTowA
namespace Go.Proofs.Ytakonlfojblcmaa
open Go.RowKit Cw

theorem kmod_nat (m d : Nat) : kmod m (d : Int) = d % m := by
  unfold kmod; rw [← Int.natCast_emod]; exact Int.toNat_natCast _
theorem frob_kmod (D : FD) (d : Nat) (u : R D.toDesc) : frob (kmod D.m (d : Int)) u = frob d u := by
  rw [kmod_nat]; exact frob_mod (F := R D.toDesc) d u

set_option maxHeartbeats 1000000 in
theorem teach_any (D : FD) (x : Int) (d : Nat) (g : Nat) (w : World) (hg : GF w w.heap.size g D) (hd1 : 1 ≤ d) (hd2 : d ≤ 8) :
    Calls Try.prog 108 #[.pointer (some ⟨g, 0, none⟩), .int .i64 x, .int .i64 d] w fun e w' =>
      ∃ g1, e = .returned (.slice (some ⟨g1, 0, none⟩) (D.m / d) (D.m / d)) ∧ w.heap.size ≤ g1 ∧ IB w' g1 (frobs d (eli D.toDesc x) (D.m / d)) ∧ Below w.heap.size w w' := by
  have hm8 := D.m8; have hm1 := D.m1
  have hN : D.m / d ≤ 8 := Nat.le_trans (Nat.div_le_self _ _) hm8
  obtain ⟨N, hNe⟩ : ∃ N, N = D.m / d := ⟨_, rfl⟩
  rw [← hNe] at hN ⊢
  have hdiv : (D.m : Int) / (d : Int) = (N : Int) := by rw [hNe]; rfl
  have hmk := mk_ints N (by omega)
  have hP := Lib.hid (tprime_any D g w hg)
  have hF := fun y W hg => Lib.hid (tFrob_any D y d g W hg (by omega) (by omega))
  have hA := fun W hg => Lib.hid (gAdd_any D x 0 g W hg)
  generalize hu : eli D.toDesc x = u at *
  rw [eli_zero, add_zero] at hA
  clear hu hNe
  go_enter Try.func108, Try.ntmps108
  go_wp2_with (fail)
  refine hP.out.mono ?_
  rintro e w1 ⟨rfl, hb1⟩
  have hg1 := (hg.below hb1).more hb1.size
  go_wp2_with (fail)
  have hA2 := hA (w1.alloc (.cells (Array.replicate N (Value.int .i64 0)) 3)) ((hg1.below ((Below.refl _ _).alloc (Nat.le_refl _) _)).more (by simp))
  refine hA2.out.mono ?_
  rintro e w2 ⟨rfl, hb2⟩
  obtain ⟨g1, hg1e⟩ : ∃ t, t = w1.heap.size := ⟨_, rfl⟩
  have hib : IB w2 g1 (upd N 0 (fun i => ci (frob (d * i) u))) := by
    rw [upd_zero, hg1e]; exact (IB.newz w1 N).below hb2 (by simp)
  have hbw2 : Below w.heap.size w w2 := (hb1.alloc hb1.size _).trans (hb2.mono (by have := hb1.size; simp; omega))
  have hg2 := (hg.below hbw2).more hbw2.size
  have hgl : w.heap.size ≤ g1 := by rw [hg1e]; exact hb1.size
  rw [← hg1e]
  clear hg1e hA2 hA hP hmk hb1 hb2 hg1
  go_wp2_with (fail)
  clear hdiv
  go_loopw [26, 11, 10] (fun i _ y wr => ∃ k : Nat, k ≤ N ∧ i = .int .i64 k ∧ y = .int .i64 (ci (frob (d * k) u)) ∧ IB wr g1 (upd N k (fun i => ci (frob (d * i) u))) ∧ Below w.heap.size w wr) (fun i _ _ _ => N - (intOf i).toNat)
  case atStart => exact ⟨0, by omega, rfl, by rw [Nat.mul_zero, frob_zero_k], hib, hbw2⟩
  case round =>
    clear hib
    obtain ⟨k, hk, rfl, rfl, hib, hbw⟩ := hrel
    by_cases hlt : k < N
    · have hc := hib.cell (i := k) (by rw [upd_length]; exact hlt)
      have hf := hib.frozen k
      have hset := hib.set_ k (ci (frob (d * k) u))
      rw [upd_set N k (fun i => ci (frob (d * i) u))] at hset
      replace hset := Lib.hid hset
      have hbs : Below w.heap.size w (wr.setCell ⟨g1, k, none⟩ (.int .i64 (ci (frob (d * k) u)))) := hbw.setCell (p := ⟨g1, k, none⟩) hgl _
      have hF2 := (hF (ci (frob (d * k) u)) _ ((hg.below hbs).more hbs.size)).out
      rw [eli_ci, frob_kmod, frob_frob, show d + d * k = d * (k + 1) by rw [Nat.mul_succ]; omega] at hF2
      replace hF2 := Lib.hid hF2
      have hgk := hib.lt
      clear hib
      go_wp2_with (fail)
      refine hF2.out.mono ?_
      rintro e w3 ⟨rfl, hb3⟩
      go_wp2_with (fail)
      go_roundw
      case rel => exact ⟨k + 1, by omega, by go_num, rfl, hset.out.below hb3 (by simpa [World.setCell] using hgk), hbs.trans (hb3.mono hbs.size)⟩
      case measure => simp [intOf]; omega
    · obtain rfl : k = N := by omega
      rw [upd_full] at hib
      go_wp2_with (fail)
      go_ret
      exact ⟨g1, rfl, hgl, hib, hbw⟩

end Go.Proofs.Ytakonlfojblcmaa

namespace Go.Proofs.Ytakonlfojblcmaa
open Go.RowKit Go.Shelf Cw
attribute [local go_sem] Oper.semAt_some

/-- The numbers below k, as ints. -/
def upI (k : Nat) : List Int := (List.range k).map fun i : Nat => (i : Int)
theorem upI_succ (k : Nat) : upI (k + 1) = upI k ++ [(k : Int)] := by simp [upI, List.range_succ]

set_option maxRecDepth 100000 in
set_option maxHeartbeats 1000000 in
/-- g.Elements(): the receiver is boxed; the function value captures the box. -/
theorem elements_in (F : Fence) (n : Nat) (h5 : F.fn 123) (hro : F.round = none) (g : Nat) (w : World) :
    CallsIn F n Try.prog 123 #[.pointer (some ⟨g, 0, none⟩)] w fun e w' =>
      e = .returned (.func (.func 133) #[] #[.pointer (some ⟨w.heap.size, 0, none⟩)]) ∧ w' = w.alloc (.cells #[.pointer (some ⟨g, 0, none⟩)] 64) := by
  refine callsIn_of_wp Try.func123 rfl h5 ?_ hro
  simp only [Try.ntmps123, List.size_toArray, List.length_cons, List.length_nil, Nat.reduceAdd, Nat.reduceSub, Array.replicate_succ, Array.replicate_zero, List.push_toArray, List.append_toArray, List.nil_append, List.cons_append]
  gi_wp2
  go_ret
  exact ⟨rfl, rfl⟩

set_option maxRecDepth 100000 in
set_option maxHeartbeats 1000000 in
/-- The iterator: the numbers 0, 1, .., q-1, for every loop body that keeps what lay below n₀. -/
theorem elements1_in (F : Fence) (n : Nat) (h6 : F.fn 133) (hro : F.round = none) (hn : 1 ≤ n) (l Bn n₀ g : Nat) (D : FD) (J Jx : List Int → World → Prop)
    (hY : ∀ pre x W, J pre W → pre.length < D.q → YieldAt F (n - 1) Try.prog l #[.int .i64 x] W fun e W' =>
      (e = .returned (.bool true) ∧ J (pre ++ [x]) W' ∧ Below n₀ W W') ∨ (e = .returned (.bool false) ∧ Jx (pre ++ [x]) W'))
    (W : World) (hBn : W.cell? ⟨Bn, 0, none⟩ = some (.pointer (some ⟨g, 0, none⟩))) (hq : W.cell? ⟨g, 3, none⟩ = some (.int .i64 D.q)) (h0 : J [] W) :
    CallsIn F n Try.prog 133 #[.func (.yield l) #[] #[], .pointer (some ⟨Bn, 0, none⟩)] W fun e W' => (∃ v, e = .returned v) ∧
      ((∃ ys, ys = upI D.q ∧ J ys W') ∨ (∃ pre, pre <+: upI D.q ∧ Jx pre W')) := by
  have hq3 := D.q256
  refine callsIn_of_wp Try.func133 rfl h6 ?_ hro
  simp only [Try.ntmps133, List.size_toArray, List.length_cons, List.length_nil, Nat.reduceAdd, Nat.reduceSub, Array.replicate_succ, Array.replicate_zero, List.push_toArray, List.append_toArray, List.nil_append, List.cons_append]
  gi_wp2
  gi_loopw [8, 3] (fun i _ wr => ∃ k : Nat, k ≤ D.q ∧ i = .int .i64 k ∧ J (upI k) wr) (fun i _ _ => D.q - (intOf i).toNat)
  case atStart => exact ⟨0, by omega, rfl, h0⟩
  case round =>
    obtain ⟨k, hk, rfl, hJs⟩ := hrel
    by_cases hlt : k < D.q
    · obtain ⟨fn, tmps, assign, body, hy, hR⟩ := hY (upI k) (k : Int) wr hJs (by simp [upI]; exact hlt)
      gi_wp2
      refine hR.mono ?_
      rintro e W3 (⟨rfl, hJ3, hk3⟩ | ⟨rfl, hJx3⟩)
      · gi_wp2
        go_roundw
        case rel => exact ⟨k + 1, by omega, by go_num, by rw [upI_succ]; exact hJ3⟩
        case measure => simp [intOf]; omega
      · gi_wp2
        refine bodyPost_ret (results_none rfl _ _ _) rfl ?_
        refine ⟨⟨_, rfl⟩, .inr ⟨_, ?_, hJx3⟩⟩
        rw [← upI_succ]
        obtain ⟨t, ht⟩ : ∃ t, D.q = k + 1 + t := ⟨D.q - k - 1, by omega⟩
        rw [ht]
        exact ⟨(List.range t).map fun i : Nat => ((k + 1 + i : Nat) : Int), by
          unfold upI
          conv => rhs; rw [List.range_add, List.map_append, List.map_map]
          rfl⟩
    · obtain rfl : k = D.q := by omega
      gi_wp2
      go_end0
      exact ⟨⟨_, rfl⟩, .inl ⟨_, rfl, hJs⟩⟩

theorem elements_stops (F : Fence) (n : Nat) (h6 : F.fn 133) (hro : F.round = none) (hn : 1 ≤ n) (Bn n₀ g : Nat) (D : FD) (w : World) (hBn : Bn < w.heap.size) (hn₀ : n₀ ≤ w.heap.size) (hgl : g < n₀)
    (hc : w.cell? ⟨Bn, 0, none⟩ = some (.pointer (some ⟨g, 0, none⟩))) (hq : w.cell? ⟨g, 3, none⟩ = some (.int .i64 D.q)) :
    SeqStopsK F n Try.prog 133 #[.pointer (some ⟨Bn, 0, none⟩)] (fun x : Int => #[Value.int .i64 x]) (Below n₀) (fun ys => ys = upI D.q) (fun pre => pre <+: upI D.q) D.q w := fun l J Jx W hW _ _ hY h0 =>
  elements1_in F n h6 hro hn l Bn n₀ g D J Jx hY W ((hW.cell (p := ⟨Bn, 0, none⟩) hBn).trans hc) ((hW.cell (p := ⟨g, 3, none⟩) (Nat.lt_of_lt_of_le hgl hn₀)).trans hq) h0
end Go.Proofs.Ytakonlfojblcmaa

namespace Go.Proofs.Ytakonlfojblcmaa
open Go.RowKit Go.Shelf Cw
attribute [local go_sem] Oper.semAt_some

/-- n is the least number of steps of d that lead u back to itself. -/
def IsPer {D : FD} (d : Nat) (u : R D.toDesc) (n : Nat) : Prop := 1 ≤ n ∧ frob (d * n) u = u ∧ ∀ j, 1 ≤ j → j < n → frob (d * j) u ≠ u
theorem IsPer.dvd {D : FD} {d n : Nat} {u : R D.toDesc} (h : IsPer d u n) {k : Nat} (hk : frob (d * k) u = u) : n ∣ k := by
  have h1 : frob (d * (k % n)) u = u := by
    have e : frob (d * (k % n)) (frob (d * n * (k / n)) u) = frob (d * k) u := by
      rw [frob_frob, Nat.mul_assoc, ← Nat.mul_add, Nat.mod_add_div]
    rw [frob_fix_mul h.2.1, hk] at e
    exact e
  rcases Nat.eq_zero_or_pos (k % n) with h0 | h0
  · exact Nat.dvd_of_mod_eq_zero h0
  · exact absurd h1 (h.2.2 _ h0 (Nat.mod_lt _ h.1))
theorem IsPer.dvd_M {D : FD} {d n : Nat} {u : R D.toDesc} (h : IsPer d u n) (hd : d ∣ D.m) : n ∣ D.m / d := h.dvd (by
  rw [Nat.mul_div_cancel' hd]; exact frob_M (F := R D.toDesc) u)
theorem IsPer.uniq {D : FD} {d n n' : Nat} {u : R D.toDesc} (h : IsPer d u n) (h' : IsPer d u n') : n = n' :=
  Nat.dvd_antisymm (h.dvd h'.2.1) (h'.dvd h.2.1)
def vlen : Value → Nat
  | .slice _ n _ => n
  | _ => 0
theorem Own.vlen {w : World} {B : Nat} {v : Value} {l : List Int} (h : Own w B v l) : vlen v = l.length := by
  obtain ⟨A, c, rfl, -⟩ := h.form
  rfl
theorem frobs_succ {D : FD} (d : Nat) (u : R D.toDesc) (n : Nat) : frobs d u (n + 1) = frobs d u n ++ [ci (frob (d * n) u)] := lst_succ _ _
theorem frobs_one {D : FD} (d : Nat) (u : R D.toDesc) : frobs d u 1 = [ci u] := by
  rw [frobs_succ, Nat.mul_zero, frob_zero_k]; rfl
theorem frobs_length {D : FD} (d : Nat) (u : R D.toDesc) (n : Nat) : (frobs d u n).length = n := lst_length _ _

set_option maxHeartbeats 1000000 in
theorem tConj_yes (D : FD) (x : Int) (d : Nat) (g : Nat) (w : World) (hg : GF w w.heap.size g D) (hd1 : 1 ≤ d) (hd2 : d ∣ D.m) :
    Calls Try.prog 104 #[.pointer (some ⟨g, 0, none⟩), .int .i64 x, .int .i64 d] w fun e w' => ∃ n v, IsPer d (eli D.toDesc x) n ∧ e = .returned (.tuple #[v, .int .i64 0]) ∧ Own w' w.heap.size v (frobs d (eli D.toDesc x) n) ∧ Below w.heap.size w w' := by
  have hm8 := D.m8; have hm1 := D.m1
  have hd8 : d ≤ 8 := Nat.le_trans (Nat.le_of_dvd hm1 hd2) hm8
  have hI := isDegree_any D d g w hg
  rw [divB_of hd1 hd2 D.m1] at hI
  replace hI := Lib.hid hI
  have hA := fun W hg => Lib.hid (gAdd_any D x 0 g W hg)
  have hF := fun y W hg => Lib.hid (tFrob_any D y d g W hg (by omega) (by omega))
  generalize hu : eli D.toDesc x = u at *
  rw [eli_zero, add_zero] at hA
  have hF0 := fun W hg => (hF (ci u) W hg).out
  rw [eli_ci, frob_kmod] at hF0
  replace hF0 := fun W hg => Lib.hid (hF0 W hg)
  have hfM : Hid (frob (d * (D.m / d)) u = u) := by
    unfold Hid; rw [Nat.mul_div_cancel' hd2]; exact frob_M (F := R D.toDesc) u
  obtain ⟨N, hN⟩ : ∃ N, N = D.m / d := ⟨_, rfl⟩
  have hN1 : 1 ≤ N := by rw [hN]; exact Nat.div_pos (Nat.le_of_dvd hm1 hd2) hd1
  have hN8 : N ≤ 8 := by rw [hN]; exact Nat.le_trans (Nat.div_le_self _ _) hm8
  rw [← hN] at hfM
  clear hu hd2 hN
  go_enter Try.func104, Try.ntmps104
  go_wp2_with (fail)
  refine hI.out.mono ?_
  rintro e w1 ⟨rfl, hb1⟩
  have hg1 := (hg.below hb1).more hb1.size
  go_wp2_with (fail)
  (with_reducible refine (hA _ hg1).out.mono ?_)
  rintro e w2 ⟨rfl, hb2⟩
  have hg2 := (hg1.below hb2).more hb2.size
  have hB2 := hb1.trans (hb2.mono hb1.size)
  have hB3 : Below w.heap.size w (w2.alloc (.cells #[.int .i64 (ci u)] 3)) := hB2.alloc hB2.size _
  have hg3 : GF (w2.alloc (.cells #[.int .i64 (ci u)] 3)) (w2.alloc (.cells #[.int .i64 (ci u)] 3)).heap.size g D := (hg2.below ((Below.refl _ _).alloc (Nat.le_refl _) _)).more (by simp)
  have hown3 : Own (w2.alloc (.cells #[.int .i64 (ci u)] 3)) w.heap.size (.slice (some ⟨w2.heap.size, 0, none⟩) 1 1) (frobs d u 1) := by
    rw [frobs_one]
    exact Own.of_IB (IB.new w2 [ci u]) hB2.size (by simp [maxLen])
  go_wp2_with (fail)
  (with_reducible refine (hF0 _ hg3).out.mono ?_)
  rintro e w4 ⟨rfl, hb4⟩
  have hB4 := hB3.trans (hb4.mono hB3.size)
  have hown4 := hown3.below hb4 (Nat.le_refl _)
  have hg4 := (hg3.below hb4).more hb4.size
  clear hF0 hA hI hg3 hg2 hg1 hB3 hB2 hown3 hb1 hb2 hb4
  go_wp2_with (fail)
  go_loopw [8, 9] (fun o y wr => ∃ k : Nat, 1 ≤ k ∧ k ≤ N ∧ y = .int .i64 (ci (frob (d * k) u)) ∧ Own wr w.heap.size o (frobs d u k) ∧ Below w.heap.size w wr ∧ Hid (∀ j, 1 ≤ j → j < k → frob (d * j) u ≠ u)) (fun o _ _ => N - vlen o)
  case atStart => exact ⟨1, by omega, hN1, by rw [Nat.mul_one], hown4, hB4, fun j h1 h2 => by omega⟩
  case round =>
    clear hown4 hB4
    obtain ⟨k, hk1, hk2, rfl, hown, hbw, hno⟩ := hrel
    have hvl := Lib.hid (hown.vlen.trans (frobs_length d u k))
    by_cases hfk : frob (d * k) u = u
    · have hper : Hid (IsPer d u k) := ⟨hk1, hfk, hno.out⟩
      rw [hfk]
      clear hfk hno
      go_wp2_with (fail)
      go_ret2
      exact ⟨k, _, hper.out, rfl, hown, hbw⟩
    · have hne : (ci (frob (d * k) u) != ci u) = true := by rw [bne_iff_ne]; exact fun e => hfk (ci_inj e)
      have hkN : k < N := by
        rcases Nat.lt_or_ge k N with h | h
        · exact h
        · exact absurd (by rw [show k = N by omega]; exact hfM.out) hfk
      have hno2 : Hid (∀ j, 1 ≤ j → j < k + 1 → frob (d * j) u ≠ u) := fun j h1 h2 => by
        by_cases e : j = k
        · subst e; exact hfk
        · exact hno.out j h1 (by omega)
      have hF2 := fun W hg => (hF (ci (frob (d * k) u)) W hg).out
      rw [eli_ci, frob_kmod, frob_frob, show d + d * k = d * (k + 1) by rw [Nat.mul_succ]; omega] at hF2
      replace hF2 := fun W hg => Lib.hid (hF2 W hg)
      have hsc := Lib.hid (frobs_succ d u k)
      have hle : (frobs d u k).length ≤ 1000000 := by rw [frobs_length]; omega
      clear hfk hno
      generalize ci (frob (d * k) u) = y at *
      go_wp2_with (at_builtin; refine wpList_app1 rfl _ _ rfl w.heap.size _ _ _ hown rfl rfl rfl hle hbw.size ?_; intro v' w3 hown3 hb3 _ _)
      have hbw3 := hbw.trans hb3
      have hg3 := (hg.below hbw3).more hbw3.size
      go_wp2_with (fail)
      (with_reducible refine (hF2 _ hg3).out.mono ?_)
      rintro e w4 ⟨rfl, hb4⟩
      go_wp2_with (fail)
      go_roundw
      case rel => exact ⟨k + 1, by omega, by omega, rfl, by rw [hsc.out]; exact hown3.below hb4 (Nat.le_refl _), hbw3.trans (hb4.mono hbw3.size), hno2⟩
      case measure => rw [hvl.out, hown3.vlen]; simp [frobs_length]; omega

end Go.Proofs.Ytakonlfojblcmaa
