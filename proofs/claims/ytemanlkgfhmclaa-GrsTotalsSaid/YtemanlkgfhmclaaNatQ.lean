/- Blocks that hold slices of limbs: made, written place by place. -/
import Derived.Test.YtemanlkgfhmclaaNatP
namespace Go.Proofs.Ytemanlkgfhmclaa
open Go.RowKit Cw

theorem mp_setV {α : Type} {N k : Nat} {x : α} (f : Nat → α) : ((List.range N).map f).set k x = (List.range N).map fun t => if t = k then x else f t := by
  refine List.ext_getElem? fun j => ?_
  rw [List.getElem?_set]
  by_cases hj : j < N
  · by_cases e : k = j
    · subst e; simp [hj]
    · simp [hj, e, Ne.symm e]
  · by_cases e : k = j
    · subst e; simp [hj]
    · simp [hj, e]
/-- Block X holds n slices of limbs: slice i is at A i, with the list l i. -/
structure UB (w : World) (X n : Nat) (A : Nat → Option Addr) (l : Nat → List Nat) (c : Nat → Nat) : Prop where
  blk : ∃ T, w.heap[X]? = some (.cells ((List.range n).map fun i => Value.slice (A i) (l i).length (c i)).toArray T (0, 0))
  rd : ∀ i, i < n → U.Rd w w.heap.size (A i) (l i)
  lm : ∀ i, i < n → Lm (l i)
  le : ∀ i, i < n → (l i).length ≤ 60000
  cap : ∀ i, i < n → (l i).length ≤ c i
section
variable {w w' : World} {X n : Nat} {A : Nat → Option Addr} {l : Nat → List Nat} {c : Nat → Nat}
theorem UB.lt (h : UB w X n A l c) : X < w.heap.size := by
  rcases Nat.lt_or_ge X w.heap.size with hlt | hge
  · exact hlt
  · obtain ⟨T, this⟩ := h.blk; rw [Array.getElem?_eq_none hge] at this; cases this
theorem UB.cell (h : UB w X n A l c) {i : Nat} (hi : i < n) : w.cell? ⟨X, i, none⟩ = some (.slice (A i) (l i).length (c i)) := by
  obtain ⟨T, hT⟩ := h.blk
  rw [cell_of_row w X i _ _ (0, 0) hT]
  simp [hi]
theorem UB.frozen (h : UB w X n A l c) (i : Nat) : w.frozen? ⟨X, i, none⟩ = false := by
  obtain ⟨T, hT⟩ := h.blk
  simp [World.frozen?, hT]
theorem UB.ls (h : UB w X n A l c) : U.Ls w w.heap.size X n A l c := ⟨h.lt, fun _ hi => h.cell hi, h.rd, h.lm, h.le, h.cap⟩
theorem UB.below (h : UB w X n A l c) (hb : Below w.heap.size w w') : UB w' X n A l c :=
  ⟨h.blk.imp fun _ e => (hb.block X h.lt).trans e, fun i hi => ((h.rd i hi).below hb).more hb.size, h.lm, h.le, h.cap⟩
/-- A list of limbs lies not in the block of slices. -/
theorem UB.apart (h : UB w X n A l c) {B : Nat} {A' : Option Addr} {l' : List Nat} (hr : U.Rd w B A' l') (i : Nat) (v : Value) : U.Rd (w.setCell ⟨X, i, none⟩ v) B A' l' := fun hn => by
  obtain ⟨b, off, e, hb, hc⟩ := hr hn
  refine ⟨b, off, e, hb, fun j hj => ?_⟩
  have hne : X ≠ b := fun e2 => by
    subst e2
    have h1 := hc j hj
    by_cases hlt : off + j < n
    · rw [h.cell hlt] at h1; cases h1
    · obtain ⟨T, hT⟩ := h.blk
      rw [World.cell?, hT] at h1
      simp [hlt] at h1
  rw [← hc j hj]
  have h2 : (w.setCell ⟨X, i, none⟩ v).heap[b]? = w.heap[b]? := Below.heap_setCell w ⟨X, i, none⟩ v b (Ne.symm hne)
  simp only [World.cell?, h2]
theorem UB.set_ (h : UB w X n A l c) {i : Nat} {A' : Option Addr} {l' : List Nat} {c' : Nat} (hr : U.Rd w w.heap.size A' l') (hm : Lm l') (hl : l'.length ≤ 60000) (hc : l'.length ≤ c') :
    UB (w.setCell ⟨X, i, none⟩ (.slice A' l'.length c')) X n (fun t => if t = i then A' else A t) (fun t => if t = i then l' else l t) (fun t => if t = i then c' else c t) := by
  have hs : (w.setCell ⟨X, i, none⟩ (.slice A' l'.length c')).heap.size = w.heap.size := by simp [World.setCell]
  refine ⟨?_, fun j hj => ?_, fun j hj => ?_, fun j hj => ?_, fun j hj => ?_⟩
  · obtain ⟨T, this⟩ := h.blk
    refine ⟨T, ?_⟩
    have h1 : (w.setCell ⟨X, i, none⟩ (.slice A' l'.length c')).heap[X]? = some (.cells (((List.range n).map fun i => Value.slice (A i) (l i).length (c i)).set i (.slice A' l'.length c')).toArray T (0, 0)) := by
      simp [World.setCell, Array.getElem?_modify, this]
    rw [h1, mp_setV]
    congr 4
    funext t
    by_cases e : t = i
    · simp [e]
    · simp [e]
  · rw [hs]
    by_cases e : j = i
    · simp only [if_pos e]; exact h.apart hr _ _
    · simp only [if_neg e]; exact h.apart (h.rd j hj) _ _
  · by_cases e : j = i
    · simp only [if_pos e]; exact hm
    · simp only [if_neg e]; exact h.lm j hj
  · by_cases e : j = i
    · simp only [if_pos e]; exact hl
    · simp only [if_neg e]; exact h.le j hj
  · by_cases e : j = i
    · simp only [if_pos e]; exact hc
    · simp only [if_neg e]; exact h.cap j hj
theorem UB.congr {l2 : Nat → List Nat} (h : UB w X n A l c) (he : ∀ i, i < n → l i = l2 i) : UB w X n A l2 c := by
  refine ⟨?_, fun i hi => he i hi ▸ h.rd i hi, fun i hi => he i hi ▸ h.lm i hi, fun i hi => he i hi ▸ h.le i hi, fun i hi => he i hi ▸ h.cap i hi⟩
  obtain ⟨T, hT⟩ := h.blk
  refine ⟨T, ?_⟩
  rw [hT]
  congr 3
  exact List.map_congr_left fun i hi => by rw [he i (List.mem_range.1 hi)]
end
theorem UB.new (w : World) (n : Nat) (T : TypeId) : UB (w.alloc (.cells (Array.replicate n (Value.slice none 0 0)) T)) w.heap.size n (fun _ => none) (fun _ => []) (fun _ => 0) := by
  refine ⟨⟨T, ?_⟩, fun _ _ => U.Rd.nil, fun _ _ x hx => (by cases hx), fun _ _ => Nat.zero_le _, fun _ _ => Nat.le_refl _⟩
  have h := heap_alloc_new w (.cells (Array.replicate n (Value.slice none 0 0)) T)
  rw [h]
  congr 2
  apply Array.ext
  · simp
  · intro i h1 h2; simp
theorem UB.new2 (w : World) (T : TypeId) : UB (w.alloc (.cells #[.slice none 0 0, .slice none 0 0] T)) w.heap.size 2 (fun _ => none) (fun _ => []) (fun _ => 0) := UB.new w 2 T
theorem infoNat : (Try.prog.info? 38).map (fun i => (i.zero, i.size, i.bytes)) = some (some (.slice none 0 0), 1, 24) := by kernel_rfl
theorem mk_nats (n : Nat) (h : n ≤ 70000) (w : World) : (Instr.makeSlice 28 (.int .i64 (n : Int)) (.int .i64 (n : Int))).run Try.prog w =
    .ok (.slice (some ⟨w.heap.size, 0, none⟩) n n) (w.alloc (.cells (Array.replicate n (Value.slice none 0 0)) 38)) := by
  have e : madeCells #[Value.slice none 0 0] n = Array.replicate n (Value.slice none 0 0) := by
    apply Array.ext
    · simp [madeCells]
    · intro i h1 h2
      simp [madeCells, Nat.mod_one]
  rw [← e]
  exact run_make_row' 28 38 (.slice none 0 0) 24 Try.underlying28 infoNat rfl .i64 .i64 n (by omega) (by omega) w
end Go.Proofs.Ytemanlkgfhmclaa
