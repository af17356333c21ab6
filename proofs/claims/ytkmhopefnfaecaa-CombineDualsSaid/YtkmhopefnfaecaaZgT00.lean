/- What the walks of the program's constructions need: two codes in memory; the generated code; two valid codes. What the laws of chapter 14 begin with: two codes in their blocks; rows' lengths; the end of a law. -/
import Derived.Test.YtkmhopefnfaecaaZgCodK
namespace Go.Proofs.Ytkmhopefnfaecaa
open Go.RowKit Cw

/-- Two codes lie in memory. -/
def Pre2 (mla : List Int) (na : Nat) (rowsa : Nat → List Int) (Aa Ra : Option Addr) (mlb : List Int) (nb : Nat) (rowsb : Nat → List Int) (Ab Rb : Option Addr) (W : World) : Prop :=
  (Rd W W.heap.size Aa mla ∧ RdM W W.heap.size Ra na rowsa) ∧ Rd W W.heap.size Ab mlb ∧ RdM W W.heap.size Rb nb rowsb
/-- A code lies in memory. -/
def Pre1 (mla : List Int) (na : Nat) (rowsa : Nat → List Int) (Aa Ra : Option Addr) (W : World) : Prop := Rd W W.heap.size Aa mla ∧ RdM W W.heap.size Ra na rowsa
theorem gen_code (F : FD) (hgood : Good F.p F.m (modL F.toDesc)) (n m1 m2 : Nat) (M : Nat → Nat → R F.toDesc) (A Ar : Option Addr) (c cr : Nat) (w : World) (hr : Rd w w.heap.size A (modL F.toDesc)) (hrm : RdM w w.heap.size Ar n (rowsL F.toDesc (m1 + m2) M)) (hn : n ≤ 256) (hm1 : 1 ≤ m1) (hm : m1 + m2 ≤ 64) :
    Calls Try.prog 44 #[.agg #[.int .i64 F.p, .int .i64 F.m, .slice A (modL F.toDesc).length c], .int .i64 ((m1 : Int) + (m2 : Int)), .slice Ar n cr] w (ResCode F n (m1 + m2) M w) := by
  have h := cGenerated_ok F hgood n (m1 + m2) M A Ar c cr w hr hrm hn (by omega) hm
  rw [modL_length]
  rw [show ((m1 : Int) + (m2 : Int)) = ((m1 + m2 : Nat) : Int) from by push_cast; rfl]
  exact h
theorem gen_codeN (F : FD) (hgood : Good F.p F.m (modL F.toDesc)) (n m : Nat) (M : Nat → Nat → R F.toDesc) (A Ar : Option Addr) (c cr : Nat) (w : World) (hr : Rd w w.heap.size A (modL F.toDesc)) (hrm : RdM w w.heap.size Ar n (rowsL F.toDesc m M)) (hn : n ≤ 256) (hm1 : 1 ≤ m) (hm : m ≤ 64) :
    Calls Try.prog 44 #[.agg #[.int .i64 F.p, .int .i64 F.m, .slice A (modL F.toDesc).length c], .int .i64 (m : Int), .slice Ar n cr] w (ResCode F n m M w) := by
  rw [modL_length]
  exact cGenerated_ok F hgood n m M A Ar c cr w hr hrm hn hm1 hm
theorem twoE_zero {Pa Ma Na : Int} {mla : List Int} {na : Nat} {rowsa : Nat → List Int} {Aa Ra : Option Addr} {ca ka : Nat} {Pb Mb Nb : Int} {mlb : List Int} {nb : Nat} {rowsb : Nat → List Int} {Ab Rb : Option Addr} {cb kb : Nat} (h : twoE Pa Ma Na mla na rowsa Aa Ra ca ka Pb Mb Nb mlb nb rowsb Ab Rb cb kb = 0) :
    ∃ F : FD, ∃ m1 m2 : Nat, ∃ M1 M2 : Nat → Nat → R F.toDesc, VC Pa Ma Na mla na rowsa F m1 M1 ∧ VC Pb Mb Nb mlb nb rowsb F m2 M2 := by
  by_cases ea : cErr Pa Ma Na mla na rowsa = 0
  · by_cases eb : cErr Pb Mb Nb mlb nb rowsb = 0
    · cases hf : eqF Pa Ma mla Pb Mb mlb
      · rw [twoE_m ea eb hf] at h; cases h
      · obtain ⟨F, m1, M1, va⟩ := cErr_zero ea
        obtain ⟨F2, m2, M2, vb⟩ := cErr_zero eb
        obtain ⟨e1, e2, e3⟩ := eqF_iff.1 hf
        obtain ⟨M3, vb3⟩ := vb.to (F1 := F) (desc_eq vb.hP vb.hM vb.hl (e1.symm.trans va.hP) (e2.symm.trans va.hM) (e3.symm.trans va.hl))
        exact ⟨F, m1, m2, M1, M3, va, vb3⟩
    · rw [twoE_b ea eb] at h; exact absurd h eb
  · rw [twoE_a ea] at h; exact absurd h ea
end Go.Proofs.Ytkmhopefnfaecaa

namespace Go.Proofs.Ytkmhopefnfaecaa
open Go.RowKit Cw
/-- A law's end: it said true, and nothing that was there has turned. -/
def LawEnd (w : World) (e : Ending) (w' : World) : Prop := e = .returned (.bool true) ∧ Below w.heap.size w w'
theorem rdm_len {w : World} {B n : Nat} {A : Option Addr} {rows : Nat → List Int} (h : RdM w B A n rows) : ∀ i, i < n → (rows i).length ≤ maxLen := fun i hi => by
  obtain ⟨b, o, Ai, ci, -, -, -, -, h1, h2⟩ := h.at_ hi
  exact Nat.le_trans h1 h2
theorem two_enter2 (Pa Ma Na : Int) (mla : List Int) (na : Nat) (_rowsa : Nat → List Int) (Aa Ra : Option Addr) (ca ka : Nat) (Pb Mb Nb : Int) (mlb : List Int) (nb : Nat) (_rowsb : Nat → List Int) (Ab Rb : Option Addr) (cb kb : Nat) (w : World) {Z : World} (hZ : Z = (w.alloc (.cells #[.int .i64 Pa, .int .i64 Ma, .slice Aa mla.length ca, .int .i64 Na, .slice Ra na ka] 27)).alloc (.cells #[.int .i64 Pb, .int .i64 Mb, .slice Ab mlb.length cb, .int .i64 Nb, .slice Rb nb kb] 27)) {s : Nat} (hs : s = w.heap.size) : Z.heap.size = s + 1 + 1 ∧ Five Z s (.int .i64 Pa) (.int .i64 Ma) (.slice Aa mla.length ca) (.int .i64 Na) (.slice Ra na ka) ∧ Five Z (s + 1) (.int .i64 Pb) (.int .i64 Mb) (.slice Ab mlb.length cb) (.int .i64 Nb) (.slice Rb nb kb) := by
  subst hs
  have k1 := Five.new w (.int .i64 Pa) (.int .i64 Ma) (.slice Aa mla.length ca) (.int .i64 Na) (.slice Ra na ka) 27
  have k2 := Five.new (w.alloc (.cells #[.int .i64 Pa, .int .i64 Ma, .slice Aa mla.length ca, .int .i64 Na, .slice Ra na ka] 27)) (.int .i64 Pb) (.int .i64 Mb) (.slice Ab mlb.length cb) (.int .i64 Nb) (.slice Rb nb kb) 27
  rw [World.size_alloc] at k2
  rw [hZ]
  exact ⟨by simp, k1.keep ((Below.refl _ _).alloc (Nat.le_refl _) _) (by simp), k2⟩
end Go.Proofs.Ytkmhopefnfaecaa
