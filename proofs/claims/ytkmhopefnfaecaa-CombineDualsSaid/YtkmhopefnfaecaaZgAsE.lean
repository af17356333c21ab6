/- Codes that lie in memory above a mark; a store of a code into a box of its own. A row that is filled column by column. No Go here. -/
import Derived.Test.YtkmhopefnfaecaaZgAsC
namespace Go.Proofs.Ytkmhopefnfaecaa
open Go.RowKit Cw

theorem far5 {w : World} {b : Nat} (u0 u1 u2 u3 u4 : Value) {p : Addr} (h : p.block ≠ b) : (((((w.setCell ⟨b, 0, none⟩ u0).setCell ⟨b, 1, none⟩ u1).setCell ⟨b, 2, none⟩ u2).setCell ⟨b, 3, none⟩ u3).setCell ⟨b, 4, none⟩ u4).cell? p = w.cell? p := by
  have hn : ∀ k, (⟨b, k, none⟩ : Addr).block ≠ p.block := fun k => Ne.symm h
  rw [World.cell?_setCell_far _ _ _ _ (hn 4), World.cell?_setCell_far _ _ _ _ (hn 3), World.cell?_setCell_far _ _ _ _ (hn 2), World.cell?_setCell_far _ _ _ _ (hn 1), World.cell?_setCell_far _ _ _ _ (hn 0)]
theorem size5 (w : World) (b : Nat) (u0 u1 u2 u3 u4 : Value) : (((((w.setCell ⟨b, 0, none⟩ u0).setCell ⟨b, 1, none⟩ u1).setCell ⟨b, 2, none⟩ u2).setCell ⟨b, 3, none⟩ u3).setCell ⟨b, 4, none⟩ u4).heap.size = w.heap.size := by simp [World.setCell]
theorem Five.farS {w : World} {b b2 : Nat} {v0 v1 v2 v3 v4 : Value} (h : Five w b2 v0 v1 v2 v3 v4) (hne : b2 ≠ b) (u0 u1 u2 u3 u4 : Value) : Five (((((w.setCell ⟨b, 0, none⟩ u0).setCell ⟨b, 1, none⟩ u1).setCell ⟨b, 2, none⟩ u2).setCell ⟨b, 3, none⟩ u3).setCell ⟨b, 4, none⟩ u4) b2 v0 v1 v2 v3 v4 := by
  obtain ⟨a0, a1, a2, a3, a4, f0, f1, f2, f3, f4⟩ := h
  refine ⟨(far5 u0 u1 u2 u3 u4 hne).trans a0, (far5 u0 u1 u2 u3 u4 hne).trans a1, (far5 u0 u1 u2 u3 u4 hne).trans a2, (far5 u0 u1 u2 u3 u4 hne).trans a3, (far5 u0 u1 u2 u3 u4 hne).trans a4, ?_, ?_, ?_, ?_, ?_⟩ <;> simp [go_sem, f0, f1, f2, f3, f4]
/-- A code lies in memory above L. -/
structure InM (W : World) (L : Nat) (A : Option Addr) (ml : List Int) (Ar : Option Addr) (n : Nat) (rows : Nat → List Int) : Prop where
  rd : Rd W W.heap.size A ml
  lo : ∀ b, A = some b → L ≤ b.block
  rm : RdMU W L W.heap.size Ar n rows
section
variable {W W2 : World} {L : Nat} {A : Option Addr} {ml : List Int} {Ar : Option Addr} {n : Nat} {rows : Nat → List Int}
theorem InM.below (h : InM W L A ml Ar n rows) (hb : Below W.heap.size W W2) : InM W2 L A ml Ar n rows :=
  ⟨(h.rd.below hb).more hb.size, h.lo, (h.rm.keepU fun _ _ hp => hb.cell hp).more hb.size⟩
theorem InM.low {L' : Nat} (h : InM W L A ml Ar n rows) (hL : L' ≤ L) : InM W L' A ml Ar n rows :=
  ⟨h.rd, fun b e => Nat.le_trans hL (h.lo b e), h.rm.low hL⟩
theorem InM.store (h : InM W L A ml Ar n rows) {b : Nat} (hb : b < L) (u0 u1 u2 u3 u4 : Value) : InM (((((W.setCell ⟨b, 0, none⟩ u0).setCell ⟨b, 1, none⟩ u1).setCell ⟨b, 2, none⟩ u2).setCell ⟨b, 3, none⟩ u3).setCell ⟨b, 4, none⟩ u4) L A ml Ar n rows :=
  ⟨by rw [size5]; exact h.rd.set5 (fun a e => by have := h.lo a e; omega) u0 u1 u2 u3 u4, h.lo, by rw [size5]; exact h.rm.keepU fun p hp _ => far5 u0 u1 u2 u3 u4 (by omega)⟩
theorem InM.pre (h : InM W L A ml Ar n rows) : Rd W W.heap.size A ml ∧ RdM W W.heap.size Ar n rows := ⟨h.rd, h.rm.rdm⟩
/-- A result lies above the world that it came from. -/
theorem resC_in {P M N E : Int} {w : World} {e : Ending} {w' : World} (h : ResC P M N ml n rows E w e w') : ∃ A c Al cl, e = .returned (.tuple #[.agg #[.int .i64 P, .int .i64 M, .slice A ml.length c, .int .i64 N, .slice Al n cl], .int .i64 E]) ∧ InM w' w.heap.size A ml Al n rows ∧ Below w.heap.size w w' := by
  obtain ⟨A, c, Al, cl, h1, h2, h3, h4, h5⟩ := h
  exact ⟨A, c, Al, cl, h1, ⟨h2, h3, h4⟩, h5⟩
end
end Go.Proofs.Ytkmhopefnfaecaa

namespace Go.Proofs.Ytkmhopefnfaecaa
open Go.RowKit Cw

section
variable {Pa Ma Na : Int} {mla : List Int} {na : Nat} {rowsa : Nat → List Int} {F : FD} {m1 K N : Nat} {M1 B1 M : Nat → Nat → R F.toDesc} {t1 : Nat → List Int}
/-- The same, with all that it hands back above the world it was called in. -/
theorem make_in (va : VC Pa Ma Na mla na rowsa F m1 M1) (v1 : VC Pa Ma (N : Int) mla K t1 F N B1) (hss : SameSpan K K N M B1) (hK : K ≤ 1000000) (A Ar : Option Addr) (c cr : Nat) (w : World) (hr : Rd w w.heap.size A mla) (hrm : RdM w w.heap.size Ar K (rowsL F.toDesc N M)) :
    Calls Try.prog 40 #[.agg #[.int .i64 Pa, .int .i64 Ma, .slice A mla.length c], .slice Ar K cr, .int .i64 N] w fun e w' => ∃ A3 c3 Al cl, e = .returned (.agg #[.int .i64 Pa, .int .i64 Ma, .slice A3 mla.length c3, .int .i64 N, .slice Al K cl]) ∧ InM w' w.heap.size A3 mla Al K t1 ∧ Below w.heap.size w w' := by
  obtain ⟨u1, u2⟩ := elS_uniq hss
  have hk : rkS F K N M = K := u1.trans v1.can.1
  have hrow : ∀ i, i < K → rowsL F.toDesc N (elS K M N).1 i = t1 i := fun i hi => by
    rw [v1.hr i hi, ← v1.can.2 i hi]
    unfold rowsL rowL
    exact lst_congr fun j hj => congrArg ci ((u2 i (by rw [show (elS K M N).2.length = K from hk]; exact hi)).2 j hj)
  have h64 := v1.m64
  have eP := va.hP; have eM := va.hM; have eL := va.hl
  subst eP eM eL
  rw [modL_length]
  refine (Make12_any F K N M A Ar c cr w hr hrm hK (by omega)).mono ?_
  rintro e w' ⟨A3, c3, Al, cl, rfl, h1, hlo, h2, h3⟩
  rw [hk] at h2 ⊢
  exact ⟨A3, c3, Al, cl, rfl, ⟨h1, hlo, rdmu_congr h2 hrow⟩, h3⟩
end
end Go.Proofs.Ytkmhopefnfaecaa
