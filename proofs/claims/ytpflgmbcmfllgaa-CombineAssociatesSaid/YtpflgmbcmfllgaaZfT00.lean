/- What the laws of chapter 14 begin with: two codes in their blocks; rows' lengths; the end of a law. -/
import Derived.Test.YtpflgmbcmfllgaaZfCodT
namespace Go.Proofs.Ytpflgmbcmfllgaa
open Go.RowKit Cw
/-- A law's end: it said true, and nothing that was there has turned. -/
def LawEnd (w : World) (e : Ending) (w' : World) : Prop := e = .returned (.bool true) ∧ Below w.heap.size w w'
theorem rdm_len {w : World} {B n : Nat} {A : Option Addr} {rows : Nat → List Int} (h : RdM w B A n rows) : ∀ i, i < n → (rows i).length ≤ maxLen := fun i hi => by
  obtain ⟨b, o, Ai, ci, -, -, -, -, h1, h2⟩ := h.at_ hi
  exact Nat.le_trans h1 h2
theorem two_enter2 (Pa Ma Na : Int) (mla : List Int) (na : Nat) (_rowsa : Nat → List Int) (Aa Ra : Option Addr) (ca ka : Nat) (Pb Mb Nb : Int) (mlb : List Int) (nb : Nat) (_rowsb : Nat → List Int) (Ab Rb : Option Addr) (cb kb : Nat) (w : World) {Z : World} (hZ : Z = (w.alloc (.cells #[.int .i64 Pa, .int .i64 Ma, .slice Aa mla.length ca, .int .i64 Na, .slice Ra na ka] 27)).alloc (.cells #[.int .i64 Pb, .int .i64 Mb, .slice Ab mlb.length cb, .int .i64 Nb, .slice Rb nb kb] 27)) {s : Nat} (hs : s = w.heap.size) : Z.heap.size = s + 1 + 1 ∧ Five Z s (.int .i64 Pa) (.int .i64 Ma) (.slice Aa mla.length ca) (.int .i64 Na) (.slice Ra na ka) ∧ Five Z (s + 1) (.int .i64 Pb) (.int .i64 Mb) (.slice Ab mlb.length cb) (.int .i64 Nb) (.slice Rb nb kb) := by
  subst hs
  have k1 := Five.new w (.int .i64 Pa) (.int .i64 Ma) (.slice Aa mla.length ca) (.int .i64 Na) (.slice Ra na ka) 27
  have k2 := Five.new (w.alloc (.cells #[.int .i64 Pa, .int .i64 Ma, .slice Aa mla.length ca, .int .i64 Na, .slice Ra na ka] 27)) (.int .i64 Pb) (.int .i64 Mb) (.slice Ab mlb.length cb) (.int .i64 Nb) (.slice Rb nb kb) 27
  rw [World.size_alloc] at k2
  rw [hZ]
  exact ⟨by simp, k1.keep ((Below.refl _ _).alloc (Nat.le_refl _) _) (by simp), k2⟩
end Go.Proofs.Ytpflgmbcmfllgaa
