/- 'append(s, make([]int, k)...)' on a list of its own: k zeros behind it. -/
import Derived.Lib.AppendZerosOnto
import Derived.Test.YtpflgmbcmfllgaaZeOnce
namespace Go.Proofs.Ytpflgmbcmfllgaa
open Go.RowKit

theorem zeroCells_one (k : Nat) : Builtin.zeroCells (Value.int .i64 0).cells k = ((List.replicate k (0 : Int)).map (Value.int .i64)).toArray := by
  unfold Builtin.zeroCells
  apply Array.ext
  · simp [Value.cells]
  · intro i h1 h2
    simp [Value.cells, Nat.mod_one]

theorem run_appZ {w : World} (ty : TypeId) (B : Nat) (v : Value) (l : List Int) (k : Nat) (hown : Own w B v l) (hl : l.length + k ≤ 1000000) (hB : B ≤ w.heap.size) :
    ∃ v' w', (Builtin.append_ #[22, 3] ty #[v, .int .i64 (k : Int)]).run Try.prog w = .ok v' w' ∧ Own w' B v' (l ++ List.replicate k 0) ∧ w.grownBy w' v.ownBlock ∧ (v'.ownBlock = v.ownBlock ∨ (∀ j, v'.ownBlock = some j → w.heap.size ≤ j)) := by
  obtain ⟨i0, hi, hz0, hz1, hz2⟩ := info_parts infoInt
  have ht := Try.underlying22
  have htn := ty_int
  have hw : IntKind.i64.wrap (k : Int) = k := by rw [IntKind.wrap_i64]; omega
  have hw0 : IntKind.i64.wrap 0 = 0 := by decide
  have hneg : ¬ ((k : Int) < 0) := by omega
  have h48i : ¬ (281474976710656 < (k : Int) * (i0.bytes : Int)) := by rw [hz2]; omega
  have hll : (l.map (Value.int .i64)).length = l.length * i0.size := by rw [hz1]; simp
  have hfinal : ((l ++ List.replicate k (0 : Int)).map (Value.int .i64)) = l.map (Value.int .i64) ++ (List.replicate k (0 : Int)).map (Value.int .i64) := List.map_append
  have hlf : (l ++ List.replicate k (0 : Int)).length = l.length + k := by simp
  by_cases h0 : k = 0
  · subst h0
    refine ⟨v, w, ?_, by simpa using hown, World.grownBy.refl w _, .inl rfl⟩
    rcases hown.2 with ⟨rfl, h0⟩ | ⟨g, cap, cur, rfl, _, _, hnc, _⟩
    · simp [Builtin.append_, run_underlying ht, run_underlying htn, sizeOf, typeInfo, hi, asInt, asIntOf, hw0]
    · simp [Builtin.append_, run_underlying ht, run_underlying htn, sizeOf, typeInfo, hi, asInt, asIntOf, hw0, hnc, storeCells]
  have hk0 : 0 < k := by omega
  have hns : ¬ (k * i0.size = 0) := by rw [hz1]; omega
  have grown : ∀ (old : Nat), old < l.length + k → ∀ (row : Option Nat),
      Own (w.drew.alloc (.cells ((l.map (Value.int .i64)).toArray ++ Builtin.zeroCells (Value.int .i64 0).cells k ++ Builtin.zeroCells (Value.int .i64 0).cells (grownCap w (l.length + k) old 3 - (l.length + k))) 3)) B
        (.slice (some ⟨w.heap.size, 0, none⟩) (l.length + k) (grownCap w (l.length + k) old 3)) (l ++ List.replicate k 0) ∧
      w.grownBy (w.drew.alloc (.cells ((l.map (Value.int .i64)).toArray ++ Builtin.zeroCells (Value.int .i64 0).cells k ++ Builtin.zeroCells (Value.int .i64 0).cells (grownCap w (l.length + k) old 3 - (l.length + k))) 3)) row := by
    intro old ho row
    have hge := grownCap_ge w (l.length + k) old 3
    have hcm : grownCap w (l.length + k) old 3 ≤ maxLen := grownCap_le_maxLen w (l.length + k) old 3 (by unfold maxLen; omega)
    refine ⟨⟨by simp, .inr ⟨w.heap.size, _, _, by rw [hlf], hB, heap_alloc_new w.drew _, by rw [hlf]; exact hge, hcm, ?_, ?_⟩⟩, ⟨rfl, rfl, rfl, by simp, fun j hj _ => (heap_alloc_old w.drew _ hj)⟩⟩
    · simp only [Array.size_append, List.size_toArray, size_zeroCells, List.length_map, Value.cells, List.size_toArray, List.length_cons, List.length_nil]
      simp
      omega
    · rw [zeroCells_one k, hfinal, hlf, Nat.mul_one]
      simp only [Array.toList_append, List.append_assoc]
      rw [← List.append_assoc]
      have : l.length + k = (l.map (Value.int .i64) ++ (List.replicate k (0 : Int)).map (Value.int .i64)).length := by simp
      rw [this]
      exact List.take_left
  rcases hown.2 with ⟨rfl, h1⟩ | ⟨g, cap, cur, rfl, hbg, hg, hnc, hcm, hcs, htake⟩
  · have hle : l = [] := List.eq_nil_of_length_eq_zero h1
    subst hle
    have hr := Lib.run_append_nil_zeros (P := Try.prog) w 22 3 ty 3 i0 (.int .i64 0) .i64 .i64 ht htn hi hz0 k hk0 (by rw [hz1]; decide) (by omega) (by rw [hz2]; omega)
    have hgr := grown 0 (by simpa using hk0) (Value.ownBlock (.slice none 0 0))
    simp only [List.length_nil, Nat.zero_add, List.nil_append, List.map_nil] at hgr ⊢
    refine ⟨_, _, hr, ?_, ?_, .inr fun j hj => by simp [Value.ownBlock] at hj; omega⟩
    · simpa using hgr.1
    · simpa using hgr.2
  · by_cases hroom : l.length + k ≤ cap
    · have hfit : l.length + 0 + ((List.replicate k (0 : Int)).map (Value.int .i64)).length ≤ cur.size := by rw [hcs]; simp; omega
      have hst := run_storeCells_at Try.prog g l.length 3 ((List.replicate k (0 : Int)).map (Value.int .i64)) 0 cur w hg hfit (by simp [Value.oneCell'])
      simp only [Nat.add_zero] at hst
      have hr : (Builtin.append_ #[22, 3] ty #[.slice (some ⟨g, 0, none⟩) l.length cap, .int .i64 (k : Int)]).run Try.prog w = .ok (.slice (some ⟨g, 0, none⟩) (l.length + k) cap) (w.setRow g (cur.toList.take l.length ++ (List.replicate k (0 : Int)).map (Value.int .i64) ++ cur.toList.drop (l.length + ((List.replicate k (0 : Int)).map (Value.int .i64)).length)).toArray) := by
        simp [Builtin.append_, run_underlying ht, run_underlying htn, sizeOf, typeInfo, zeroValue, hi, hz0, hz1, hz2, asInt, asIntOf, hw, hneg, hns, h0, hroom, Addr.add_lit]
        rw [if_neg (by omega), zeroCells_one]
        have hst2 : (storeCells ⟨g, l.length, none⟩ ((List.replicate k (0 : Int)).map (Value.int .i64)).toArray.toList 0).run Try.prog w = _ := hst
        rw [hst2]
        simp
      refine ⟨_, _, hr, ⟨by simp, .inr ⟨g, cap, _, by rw [hlf], hbg, setRow_heap w g cur _ 3 _ hg, by rw [hlf]; exact hroom, hcm, ?_, ?_⟩⟩, ⟨rfl, rfl, rfl, by simp, fun j _ hj => setRow_other w g j _ (fun e => hj (by simp [Value.ownBlock, e]))⟩, .inl rfl⟩
      · simp only [List.size_toArray, List.length_append, List.length_take, List.length_drop, Array.length_toList]
        simp at hfit ⊢
        omega
      · rw [hfinal, hlf, Nat.mul_one]
        have h2 : cur.toList.take l.length = l.map (Value.int .i64) := by simpa using htake
        rw [h2]
        have : l.length + k = (l.map (Value.int .i64) ++ (List.replicate k (0 : Int)).map (Value.int .i64)).length := by simp
        rw [this]
        exact List.take_left
    · have holds : ∀ j u, (l.map (Value.int .i64))[j]? = some u → w.drew.cell? ((⟨g, 0, none⟩ : Addr).add j) = some u := fun j u h => (World.ownsRow.cells (g := g) hown rfl) j u h
      have hf := run_firstCells_some (P := Try.prog) w.drew i0.size l.length ⟨g, 0, none⟩ l.length cap (l.map (Value.int .i64)) hll holds
      have hr := Lib.run_append_grow_zeros (P := Try.prog) w 22 3 ty 3 i0 (.int .i64 0) .i64 .i64 ht htn hi hz0 (some ⟨g, 0, none⟩) l.length cap (l.map (Value.int .i64)) hf k hk0 (by rw [hz1]; decide) (by omega) (by omega) (by rw [hz2]; omega) (by rw [hz2]; exact growslice_fits (by omega) (by omega))
      have hgr := grown cap (by omega) (Value.ownBlock (.slice (some ⟨g, 0, none⟩) l.length cap))
      exact ⟨_, _, hr, hgr.1, hgr.2, .inr fun j hj => by simp [Value.ownBlock] at hj; omega⟩
/-- The operation, as a step of a region that draws its order. -/
theorem step_appZ {w : World} {ops : Array Oper} {o : Oper} {a : Act} {K : Act → World → Prop} {Q : Exit → Act → World → Prop} {E : Prop} (hgd : o.guard = none) (s x : Operand)
    (ho : o.op = .call { callee := .builtin .append, args := #[s, x], argTypes := #[22, 3] })
    (B : Nat) (v : Value) (l : List Int) (k : Nat) (hown : Own w B v l) (hs : a.eval s = v) (hx : a.eval x = .int .i64 (k : Int))
    (hl : l.length + k ≤ 1000000) (hB : B ≤ w.heap.size)
    (h : ∀ v' w', Own w' B v' (l ++ List.replicate k 0) → Below B w w' → w.grownBy w' v.ownBlock → (v'.ownBlock = v.ownBlock ∨ (∀ j, v'.ownBlock = some j → w.heap.size ≤ j)) → K (a.put o.dst v') w') :
    if Region.wanted o (yielded ops a.tmps) = true then Oper.wp Try.prog o a w K Q else E := by
  have hw : Region.wanted o (yielded ops a.tmps) = true := by simp [Region.wanted, hgd]
  rw [if_pos hw]
  obtain ⟨v', w', hrun, h2, hg, hv5⟩ := run_appZ o.type B v l k hown hl hB
  unfold Oper.wp execOp
  simp only [ho, resolve, invoke, builtin, Sem.run_bind, Sem.run_pure, Result.andThen_ok, List.map_toArray, List.map_cons, List.map_nil, hs, hx, hrun]
  exact h v' w' h2 ⟨hg.os, hg.tape, hg.output, hg.size, fun j hj => hg.block j (by omega) (fun e => by have := (hown.lt j e.symm).1; omega)⟩ hg hv5
end Go.Proofs.Ytpflgmbcmfllgaa
