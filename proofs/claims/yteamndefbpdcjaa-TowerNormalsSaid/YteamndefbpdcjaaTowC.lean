/- The program's Elements and layer 7's Subfield: a range over a function. -/
import Derived.RangeFuncNested
import Derived.RangeFuncBound
import Derived.RangeFuncCalls
import Derived.RangeFuncLeaves
import Derived.RangeFuncBox
import Derived.Shelf.Abstract
import Derived.Shelf.RegionOpen
import Derived.WalkKit
import Derived.OwnWalkIn
import Derived.TacticsInMore
import Derived.LoopNIn
import Derived.LoopIn
import Derived.Test.YteamndefbpdcjaaTowB
namespace Go.Proofs.Yteamndefbpdcjaa
open Go.RowKit Go.Shelf Cw
attribute [local go_sem] Oper.semAt_some

/-- The numbers below k, as ints. -/
def upI (k : Nat) : List Int := (List.range k).map fun i : Nat => (i : Int)
theorem upI_succ (k : Nat) : upI (k + 1) = upI k ++ [(k : Int)] := by simp [upI, List.range_succ]

set_option maxRecDepth 100000 in
set_option maxHeartbeats 1000000 in
/-- g.Elements(): the receiver is boxed; the function value captures the box. -/
theorem elements_in (F : Fence) (n : Nat) (h5 : F.fn 66) (hro : F.round = none) (g : Nat) (w : World) :
    CallsIn F n Try.prog 66 #[.pointer (some ⟨g, 0, none⟩)] w fun e w' =>
      e = .returned (.func (.func 88) #[] #[.pointer (some ⟨w.heap.size, 0, none⟩)]) ∧ w' = w.alloc (.cells #[.pointer (some ⟨g, 0, none⟩)] 26) := by
  refine callsIn_of_wp Try.func66 rfl h5 ?_ hro
  simp only [Try.ntmps66, List.size_toArray, List.length_cons, List.length_nil, Nat.reduceAdd, Nat.reduceSub, Array.replicate_succ, Array.replicate_zero, List.push_toArray, List.append_toArray, List.nil_append, List.cons_append]
  gi_wp2
  go_ret
  exact ⟨rfl, rfl⟩

set_option maxRecDepth 100000 in
set_option maxHeartbeats 1000000 in
/-- The iterator: the numbers 0, 1, .., q-1, for every loop body that keeps what lay below n₀. -/
theorem elements1_in (F : Fence) (n : Nat) (h6 : F.fn 88) (hro : F.round = none) (hn : 1 ≤ n) (l Bn n₀ g : Nat) (D : FD) (J Jx : List Int → World → Prop)
    (hY : ∀ pre x W, J pre W → pre.length < D.q → YieldAt F (n - 1) Try.prog l #[.int .i64 x] W fun e W' =>
      (e = .returned (.bool true) ∧ J (pre ++ [x]) W' ∧ Below n₀ W W') ∨ (e = .returned (.bool false) ∧ Jx (pre ++ [x]) W'))
    (W : World) (hBn : W.cell? ⟨Bn, 0, none⟩ = some (.pointer (some ⟨g, 0, none⟩))) (hq : W.cell? ⟨g, 3, none⟩ = some (.int .i64 D.q)) (h0 : J [] W) :
    CallsIn F n Try.prog 88 #[.func (.yield l) #[] #[], .pointer (some ⟨Bn, 0, none⟩)] W fun e W' => (∃ v, e = .returned v) ∧
      ((∃ ys, ys = upI D.q ∧ J ys W') ∨ (∃ pre, pre <+: upI D.q ∧ Jx pre W')) := by
  have hq3 := D.q256
  refine callsIn_of_wp Try.func88 rfl h6 ?_ hro
  simp only [Try.ntmps88, List.size_toArray, List.length_cons, List.length_nil, Nat.reduceAdd, Nat.reduceSub, Array.replicate_succ, Array.replicate_zero, List.push_toArray, List.append_toArray, List.nil_append, List.cons_append]
  gi_wp2
  gi_loopw [8, 3] (fun i _ wr => ∃ k : Nat, k ≤ D.q ∧ i = .int .i64 k ∧ J (upI k) wr) (fun i _ _ => D.q - (intOf i).toNat)
  case atStart => exact ⟨0, by omega, rfl, h0⟩
  case round =>
    obtain ⟨k, hk, rfl, hJs⟩ := hrel
    by_cases hlt : k < D.q
    · obtain ⟨fn, tmps, assign, body, hy, hR⟩ := hY (upI k) (k : Int) wr hJs (by simp [upI]; exact hlt)
      gi_wp2
      refine hR.mono ?_
      rintro e W3 (⟨rfl, hJ3, hk3⟩ | ⟨rfl, hJx3⟩)
      · gi_wp2
        go_roundw
        case rel => exact ⟨k + 1, by omega, by go_num, by rw [upI_succ]; exact hJ3⟩
        case measure => simp [intOf]; omega
      · gi_wp2
        refine bodyPost_ret (results_none rfl _ _ _) rfl ?_
        refine ⟨⟨_, rfl⟩, .inr ⟨_, ?_, hJx3⟩⟩
        rw [← upI_succ]
        obtain ⟨t, ht⟩ : ∃ t, D.q = k + 1 + t := ⟨D.q - k - 1, by omega⟩
        rw [ht]
        exact ⟨(List.range t).map fun i : Nat => ((k + 1 + i : Nat) : Int), by
          unfold upI
          conv => rhs; rw [List.range_add, List.map_append, List.map_map]
          rfl⟩
    · obtain rfl : k = D.q := by omega
      gi_wp2
      go_end0
      exact ⟨⟨_, rfl⟩, .inl ⟨_, rfl, hJs⟩⟩

theorem elements_stops (F : Fence) (n : Nat) (h6 : F.fn 88) (hro : F.round = none) (hn : 1 ≤ n) (Bn n₀ g : Nat) (D : FD) (w : World) (hBn : Bn < w.heap.size) (hn₀ : n₀ ≤ w.heap.size) (hgl : g < n₀)
    (hc : w.cell? ⟨Bn, 0, none⟩ = some (.pointer (some ⟨g, 0, none⟩))) (hq : w.cell? ⟨g, 3, none⟩ = some (.int .i64 D.q)) :
    SeqStopsK F n Try.prog 88 #[.pointer (some ⟨Bn, 0, none⟩)] (fun x : Int => #[Value.int .i64 x]) (Below n₀) (fun ys => ys = upI D.q) (fun pre => pre <+: upI D.q) D.q w := fun l J Jx W hW _ _ hY h0 =>
  elements1_in F n h6 hro hn l Bn n₀ g D J Jx hY W ((hW.cell (p := ⟨Bn, 0, none⟩) hBn).trans hc) ((hW.cell (p := ⟨g, 3, none⟩) (Nat.lt_of_lt_of_le hgl hn₀)).trans hq) h0
end Go.Proofs.Yteamndefbpdcjaa
