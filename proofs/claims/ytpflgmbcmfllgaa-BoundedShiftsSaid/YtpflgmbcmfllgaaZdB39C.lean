/- Layer 39: the reference's Has of a codeword; the arguments' boxes. BoundedHonest: the walk. Layer 39's laws: a result box made and filled out of order. -/
import Derived.Deep.RegionHeld3
import Derived.Test.YtpflgmbcmfllgaaZdRG
import Derived.Test.YtpflgmbcmfllgaaZdLA
import Derived.Test.YtpflgmbcmfllgaaZdMH
import Derived.Test.YtpflgmbcmfllgaaZdGrsQ
import Derived.Test.YtpflgmbcmfllgaaZdBndR
import Derived.Test.YtpflgmbcmfllgaaZdGpoD
import Derived.Test.YtpflgmbcmfllgaaZdB39A
import Derived.Test.YtpflgmbcmfllgaaZdMI
namespace Go.Proofs.Ytpflgmbcmfllgaa
open Go.RowKit Cw

theorem goodF {D : Desc} (h : Good D.p D.m (modL D)) : ∃ F : FD, F.toDesc = D := by
  obtain ⟨u, hu⟩ := gen_of_good h
  exact ⟨mkFD D u hu, rfl⟩
/-- The boxes of a description and of two lists. -/
def Box8 (w : World) (s : Nat) (v0 v1 v2 v3 v4 v5 u0 u1 : Value) : Prop :=
  (w.cell? ⟨s, 0, none⟩ = some v0 ∧ w.cell? ⟨s, 1, none⟩ = some v1 ∧ w.cell? ⟨s, 2, none⟩ = some v2 ∧ w.cell? ⟨s, 3, none⟩ = some v3 ∧ w.cell? ⟨s, 4, none⟩ = some v4 ∧ w.cell? ⟨s, 5, none⟩ = some v5) ∧ w.cell? ⟨s + 1, 0, none⟩ = some u0 ∧ w.cell? ⟨s + 1, 1, none⟩ = some u1
theorem Box8.keep {w w1 : World} {s B : Nat} {v0 v1 v2 v3 v4 v5 u0 u1 : Value} (h : Box8 w s v0 v1 v2 v3 v4 v5 u0 u1) (hb : Below B w w1) (hlt : s + 1 < B) : Box8 w1 s v0 v1 v2 v3 v4 v5 u0 u1 :=
  ⟨keep6 hb (Nat.lt_of_succ_lt hlt) h.1, ((bcell hb).1 (s + 1) 0 hlt).trans h.2.1, ((bcell hb).1 (s + 1) 1 hlt).trans h.2.2⟩
theorem Box8.new (w : World) (v0 v1 v2 v3 v4 v5 u0 u1 : Value) (t t2 : TypeId) : Box8 ((w.alloc (.cells #[v0, v1, v2, v3, v4, v5] t)).alloc (.cells #[u0, u1] t2)) w.heap.size v0 v1 v2 v3 v4 v5 u0 u1 := by
  unfold Box8
  simp [go_sem]
/-- What the decoder hands back for right arguments, in one form. -/
theorem GrsPost.form {D : Desc} {kn : Nat} {pts mul wl er : List Int} {w : World} {e : Ending} {w' : World} (h : GrsPost D (kn : Int) pts mul wl er w e w') (h0 : decErr D (kn : Int) pts mul wl er = 0) :
    Below w.heap.size w w' ∧ ∃ Aa na ca Ab nb cb ec, e = .returned (.tuple #[.agg #[.slice Aa na ca, .slice Ab nb cb], .int .i64 ec]) ∧
      ((ec = 12 ∧ na = 0 ∧ nb = 0 ∧ Aa = none ∧ Ab = none ∧ DecNo D kn pts mul wl er) ∨
       (ec = 0 ∧ na = pts.length ∧ ∃ msg, nb = (errL (wordL D pts mul msg) wl er pts.length).length ∧ DecOK D kn pts mul wl er msg ∧ Rd w' w'.heap.size Aa (wordL D pts mul msg) ∧ Rd w' w'.heap.size Ab (errL (wordL D pts mul msg) wl er pts.length) ∧
         (∀ a, Aa = some a → w.heap.size ≤ a.block) ∧ (∀ a, Ab = some a → w.heap.size ≤ a.block))) := by
  obtain ⟨hb, ⟨hne, -⟩ | ⟨-, hno, rfl⟩ | ⟨-, msg, Ac, cc, Ae, ce, hdec, rfl, h1, h2, h3, h4⟩⟩ := h
  · exact absurd h0 hne
  · rw [Int.toNat_natCast] at hno
    exact ⟨hb, _, _, _, _, _, _, _, rfl, .inl ⟨rfl, rfl, rfl, rfl, rfl, hno⟩⟩
  · rw [Int.toNat_natCast] at hdec
    exact ⟨hb, _, _, _, _, _, _, _, rfl, .inr ⟨rfl, rfl, msg, rfl, hdec, h1, h2, h3, h4⟩⟩
/-- A result, in one form: its error, its word, its error positions. -/
def DecRes (D : Desc) (kn : Nat) (pts mul wl er : List Int) (ec : Int) (la lb : List Int) : Prop :=
  (ec = 12 ∧ la = [] ∧ lb = [] ∧ DecNo D kn pts mul wl er) ∨ (ec = 0 ∧ ∃ msg, la = wordL D pts mul msg ∧ lb = errL (wordL D pts mul msg) wl er pts.length ∧ DecOK D kn pts mul wl er msg)
theorem GrsPost.form2 {D : Desc} {kn : Nat} {pts mul wl er : List Int} {w : World} {e : Ending} {w' : World} (h : GrsPost D (kn : Int) pts mul wl er w e w') (h0 : decErr D (kn : Int) pts mul wl er = 0) :
    Below w.heap.size w w' ∧ ∃ Aa ca Ab cb ec la lb, e = .returned (.tuple #[.agg #[.slice Aa la.length ca, .slice Ab lb.length cb], .int .i64 ec]) ∧ DecRes D kn pts mul wl er ec la lb ∧ Rd w' w'.heap.size Aa la ∧ Rd w' w'.heap.size Ab lb ∧ (∀ a, Aa = some a → w.heap.size ≤ a.block) ∧ (∀ a, Ab = some a → w.heap.size ≤ a.block) := by
  obtain ⟨hb, Aa, na, ca, Ab, nb, cb, ec, rfl, ⟨rfl, rfl, rfl, rfl, rfl, hno⟩ | ⟨rfl, rfl, msg, rfl, hdec, h1, h2, h3, h4⟩⟩ := h.form h0
  · exact ⟨hb, none, ca, none, cb, 12, [], [], rfl, .inl ⟨rfl, rfl, rfl, hno⟩, Rd.nil, Rd.nil, fun a e => (by cases e), fun a e => (by cases e)⟩
  · exact ⟨hb, Aa, ca, Ab, cb, 0, wordL D pts mul msg, _, by rw [wordL_length], .inr ⟨rfl, msg, rfl, rfl, hdec⟩, h1, h2, h3, h4⟩
theorem decres_len {D : Desc} {kn : Nat} {pts mul wl er : List Int} {ec : Int} {la lb : List Int} (h : DecRes D kn pts mul wl er ec la lb) : la.length ≤ pts.length ∧ lb.length ≤ pts.length ∧ (ec = 12 ∨ (ec = 0 ∧ la.length = pts.length)) := by
  rcases h with ⟨rfl, rfl, rfl, -⟩ | ⟨rfl, msg, rfl, rfl, -⟩
  · exact ⟨Nat.zero_le _, Nat.zero_le _, .inl rfl⟩
  · exact ⟨by rw [wordL_length]; exact Nat.le_refl _, errL_le _ _ _ _, .inr ⟨rfl, wordL_length _ _ _ _⟩⟩
section
variable {F : FD} {kn : Nat} {pts mul wl er : List Int}
theorem decres_shift (hz : gchkD F.toDesc kn pts mul = 0) (hw : wl.length = pts.length) (hel : elB F.toDesc wl = true) (hr : ∀ x ∈ er, 0 ≤ x ∧ x < (pts.length : Int)) (hd : er.Nodup) {m0 : List Int} (h0 : m0.length ≤ kn) {ec ec' : Int} {la lb la' lb' : List Int}
    (h : DecRes F.toDesc kn pts mul wl er ec la lb) (h' : DecRes F.toDesc kn pts mul (plusL F.toDesc pts.length wl (wordL F.toDesc pts mul m0)) er ec' la' lb') : ec' = ec ∧ (ec = 0 → la.length = pts.length ∧ la' = plusL F.toDesc pts.length la (wordL F.toDesc pts mul m0) ∧ lb' = lb) := by
  rcases h with ⟨rfl, rfl, rfl, hn⟩ | ⟨rfl, msg, rfl, rfl, hm⟩ <;> rcases h' with ⟨rfl, rfl, rfl, hn'⟩ | ⟨rfl, msg', rfl, rfl, hm'⟩
  · exact ⟨rfl, fun h => absurd h (by decide)⟩
  · exact (shift_no hw hel h0 hn hm').elim
  · exact (shift_ok hw hel h0 hm hn').elim
  · obtain ⟨e1, e2⟩ := shift_same hz hw hel hr hd h0 hm hm'
    exact ⟨rfl, fun _ => ⟨wordL_length _ _ _ _, e1, e2⟩⟩
end
end Go.Proofs.Ytpflgmbcmfllgaa

namespace Go.Proofs.Ytpflgmbcmfllgaa
open Go.RowKit Cw
attribute [local go_sem] Oper.semAt_some

theorem fewB_true {n m : Nat} (h : fewB n m = true) : n ≤ 20 ∧ m ≤ 30 := by
  unfold fewB at h
  simpa using h
end Go.Proofs.Ytpflgmbcmfllgaa

namespace Go.Proofs.Ytpflgmbcmfllgaa
open Go.RowKit Cw

theorem allocStep {L : Nat} {W w : World} (h : Below L W w) (hl : L ≤ w.heap.size) (v0 v1 : Value) (t : TypeId) :
    ∃ (V : World) (bd : Nat), V = w.alloc (.cells #[v0, v1] t) ∧ bd = w.heap.size ∧ Below L W V ∧ Below w.heap.size w V ∧ L ≤ bd ∧ Duo V bd v0 v1 ∧ bd < V.heap.size :=
  ⟨_, _, rfl, rfl, h.alloc hl _, (Below.refl _ _).alloc (Nat.le_refl _) _, hl, Duo.new w v0 v1 t, by simp⟩
theorem Duo.put {b : Nat} {w : World} {v0 v1 : Value} (h : Duo w b v0 v1) (u0 u1 : Value) : Duo ((w.setCell ⟨b, 0, none⟩ u0).setCell ⟨b, 1, none⟩ u1) b u0 u1 := by
  obtain ⟨a0, a1, f0, f1⟩ := h
  unfold Duo
  simp [go_sem, a0, a1, f0, f1]
theorem Rd.apart {w : World} {B b : Nat} {A : Option Addr} {l : List Int} (h : Rd w B A l) (hne : ∀ a, A = some a → b < a.block) (u0 u1 : Value) : Rd ((w.setCell ⟨b, 0, none⟩ u0).setCell ⟨b, 1, none⟩ u1) B A l := fun hp => by
  obtain ⟨k, o, rfl, hk, hc⟩ := h hp
  have h1 := hne _ rfl
  have hb : b ≠ k := by have : b < k := h1; omega
  refine ⟨k, o, rfl, hk, fun j hj => ?_⟩
  exact ((World.cell?_setCell_far _ ⟨b, 1, none⟩ ⟨k, o + j, none⟩ u1 hb).trans (World.cell?_setCell_far w ⟨b, 0, none⟩ ⟨k, o + j, none⟩ u0 hb)).trans (hc j hj)
theorem size_put (w : World) (b : Nat) (u0 u1 : Value) : ((w.setCell ⟨b, 0, none⟩ u0).setCell ⟨b, 1, none⟩ u1).heap.size = w.heap.size := by simp [World.setCell]
end Go.Proofs.Ytpflgmbcmfllgaa
