/- Layer 39: the reference's Has of a codeword; the arguments' boxes. BoundedHonest: the walk. -/
import Derived.Test.YtpflgmbcmfllgaaZcRG
import Derived.Test.YtpflgmbcmfllgaaZcEv5
import Derived.Test.YtpflgmbcmfllgaaZcMat
import Derived.Test.YtpflgmbcmfllgaaZcGrsQ
import Derived.Test.YtpflgmbcmfllgaaZcGpoD
import Derived.Test.YtpflgmbcmfllgaaZcB39A
import Derived.Test.YtpflgmbcmfllgaaZcMI
namespace Go.Proofs.Ytpflgmbcmfllgaa
open Go.RowKit Cw

theorem goodF {D : Desc} (h : Good D.p D.m (modL D)) : ∃ F : FD, F.toDesc = D := by
  obtain ⟨u, hu⟩ := gen_of_good h
  exact ⟨mkFD D u hu, rfl⟩
/-- The boxes of a description and of two lists. -/
def Box8 (w : World) (s : Nat) (v0 v1 v2 v3 v4 v5 u0 u1 : Value) : Prop :=
  (w.cell? ⟨s, 0, none⟩ = some v0 ∧ w.cell? ⟨s, 1, none⟩ = some v1 ∧ w.cell? ⟨s, 2, none⟩ = some v2 ∧ w.cell? ⟨s, 3, none⟩ = some v3 ∧ w.cell? ⟨s, 4, none⟩ = some v4 ∧ w.cell? ⟨s, 5, none⟩ = some v5) ∧ w.cell? ⟨s + 1, 0, none⟩ = some u0 ∧ w.cell? ⟨s + 1, 1, none⟩ = some u1
theorem Box8.keep {w w1 : World} {s B : Nat} {v0 v1 v2 v3 v4 v5 u0 u1 : Value} (h : Box8 w s v0 v1 v2 v3 v4 v5 u0 u1) (hb : Below B w w1) (hlt : s + 1 < B) : Box8 w1 s v0 v1 v2 v3 v4 v5 u0 u1 :=
  ⟨keep6 hb (Nat.lt_of_succ_lt hlt) h.1, ((bcell hb).1 (s + 1) 0 hlt).trans h.2.1, ((bcell hb).1 (s + 1) 1 hlt).trans h.2.2⟩
theorem Box8.new (w : World) (v0 v1 v2 v3 v4 v5 u0 u1 : Value) (t t2 : TypeId) : Box8 ((w.alloc (.cells #[v0, v1, v2, v3, v4, v5] t)).alloc (.cells #[u0, u1] t2)) w.heap.size v0 v1 v2 v3 v4 v5 u0 u1 := by
  unfold Box8
  simp [go_sem]
/-- What the decoder hands back for right arguments, in one form. -/
theorem GrsPost.form {D : Desc} {kn : Nat} {pts mul wl er : List Int} {w : World} {e : Ending} {w' : World} (h : GrsPost D (kn : Int) pts mul wl er w e w') (h0 : decErr D (kn : Int) pts mul wl er = 0) :
    Below w.heap.size w w' ∧ ∃ Aa na ca Ab nb cb ec, e = .returned (.tuple #[.agg #[.slice Aa na ca, .slice Ab nb cb], .int .i64 ec]) ∧
      ((ec = 12 ∧ na = 0 ∧ nb = 0 ∧ Aa = none ∧ Ab = none ∧ DecNo D kn pts mul wl er) ∨
       (ec = 0 ∧ na = pts.length ∧ ∃ msg, nb = (errL (wordL D pts mul msg) wl er pts.length).length ∧ DecOK D kn pts mul wl er msg ∧ Rd w' w'.heap.size Aa (wordL D pts mul msg) ∧ Rd w' w'.heap.size Ab (errL (wordL D pts mul msg) wl er pts.length) ∧
         (∀ a, Aa = some a → w.heap.size ≤ a.block) ∧ (∀ a, Ab = some a → w.heap.size ≤ a.block))) := by
  obtain ⟨hb, ⟨hne, -⟩ | ⟨-, hno, rfl⟩ | ⟨-, msg, Ac, cc, Ae, ce, hdec, rfl, h1, h2, h3, h4⟩⟩ := h
  · exact absurd h0 hne
  · rw [Int.toNat_natCast] at hno
    exact ⟨hb, _, _, _, _, _, _, _, rfl, .inl ⟨rfl, rfl, rfl, rfl, rfl, hno⟩⟩
  · rw [Int.toNat_natCast] at hdec
    exact ⟨hb, _, _, _, _, _, _, _, rfl, .inr ⟨rfl, rfl, msg, rfl, hdec, h1, h2, h3, h4⟩⟩
/-- A result, in one form: its error, its word, its error positions. -/
def DecRes (D : Desc) (kn : Nat) (pts mul wl er : List Int) (ec : Int) (la lb : List Int) : Prop :=
  (ec = 12 ∧ la = [] ∧ lb = [] ∧ DecNo D kn pts mul wl er) ∨ (ec = 0 ∧ ∃ msg, la = wordL D pts mul msg ∧ lb = errL (wordL D pts mul msg) wl er pts.length ∧ DecOK D kn pts mul wl er msg)
theorem GrsPost.form2 {D : Desc} {kn : Nat} {pts mul wl er : List Int} {w : World} {e : Ending} {w' : World} (h : GrsPost D (kn : Int) pts mul wl er w e w') (h0 : decErr D (kn : Int) pts mul wl er = 0) :
    Below w.heap.size w w' ∧ ∃ Aa ca Ab cb ec la lb, e = .returned (.tuple #[.agg #[.slice Aa la.length ca, .slice Ab lb.length cb], .int .i64 ec]) ∧ DecRes D kn pts mul wl er ec la lb ∧ Rd w' w'.heap.size Aa la ∧ Rd w' w'.heap.size Ab lb ∧ (∀ a, Aa = some a → w.heap.size ≤ a.block) ∧ (∀ a, Ab = some a → w.heap.size ≤ a.block) := by
  obtain ⟨hb, Aa, na, ca, Ab, nb, cb, ec, rfl, ⟨rfl, rfl, rfl, rfl, rfl, hno⟩ | ⟨rfl, rfl, msg, rfl, hdec, h1, h2, h3, h4⟩⟩ := h.form h0
  · exact ⟨hb, none, ca, none, cb, 12, [], [], rfl, .inl ⟨rfl, rfl, rfl, hno⟩, Rd.nil, Rd.nil, fun a e => (by cases e), fun a e => (by cases e)⟩
  · exact ⟨hb, Aa, ca, Ab, cb, 0, wordL D pts mul msg, _, by rw [wordL_length], .inr ⟨rfl, msg, rfl, rfl, hdec⟩, h1, h2, h3, h4⟩
theorem decres_len {D : Desc} {kn : Nat} {pts mul wl er : List Int} {ec : Int} {la lb : List Int} (h : DecRes D kn pts mul wl er ec la lb) : la.length ≤ pts.length ∧ lb.length ≤ pts.length ∧ (ec = 12 ∨ (ec = 0 ∧ la.length = pts.length)) := by
  rcases h with ⟨rfl, rfl, rfl, -⟩ | ⟨rfl, msg, rfl, rfl, -⟩
  · exact ⟨Nat.zero_le _, Nat.zero_le _, .inl rfl⟩
  · exact ⟨by rw [wordL_length]; exact Nat.le_refl _, errL_le _ _ _ _, .inr ⟨rfl, wordL_length _ _ _ _⟩⟩
section
variable {F : FD} {kn : Nat} {pts mul wl er : List Int}
theorem decres_agr (hz : gchkD F.toDesc kn pts mul = 0) (hw : wl.length = pts.length) (hel : elB F.toDesc wl = true) (hr : ∀ x ∈ er, 0 ≤ x ∧ x < (pts.length : Int)) (hd : er.Nodup) {w' : List Int} (hg : Agr pts.length er wl w') {ec ec' : Int} {la lb la' lb' : List Int}
    (h : DecRes F.toDesc kn pts mul wl er ec la lb) (h' : DecRes F.toDesc kn pts mul w' er ec' la' lb') : ec' = ec ∧ la' = la ∧ lb' = lb := by
  rcases h with ⟨rfl, rfl, rfl, hn⟩ | ⟨rfl, msg, rfl, rfl, hm⟩ <;> rcases h' with ⟨rfl, rfl, rfl, hn'⟩ | ⟨rfl, msg', rfl, rfl, hm'⟩
  · exact ⟨rfl, rfl, rfl⟩
  · exact (agr_no hg hn hm').elim
  · exact (agr_ok hg hm hn').elim
  · obtain ⟨e1, e2⟩ := agr_same hg hz hw hel hr hd hm hm'
    exact ⟨rfl, e1, e2⟩
end
/-- The word wl, with the entries of xl at the first k places that er names. -/
def putK (wl xl er : List Int) : Nat → List Int
  | 0 => wl
  | k + 1 => (putK wl xl er k).set (er[k]?.getD 0).toNat (xl[(er[k]?.getD 0).toNat]?.getD 0)
theorem putK_length (wl xl er : List Int) : ∀ k, (putK wl xl er k).length = wl.length
  | 0 => rfl
  | k + 1 => by show ((putK wl xl er k).set _ _).length = _; rw [List.length_set]; exact putK_length wl xl er k
theorem putK_agr {wl xl er : List Int} {n : Nat} (hr : ∀ x ∈ er, 0 ≤ x ∧ x < (n : Int)) : ∀ k, k ≤ er.length → Agr n er wl (putK wl xl er k)
  | 0, _ => fun _ _ _ => rfl
  | k + 1, hk => fun i hi hni => by
    have ih := putK_agr (wl := wl) (xl := xl) hr k (by omega) i hi hni
    have hm := mem_get (l := er) (show k < er.length by omega)
    have h0 := (hr _ hm).1
    rw [ih]
    show _ = ((putK wl xl er k).set _ _)[i]?.getD 0
    rw [List.getElem?_set_ne (fun e => hni (by rw [← e, Int.toNat_of_nonneg h0]; exact hm))]
theorem putK_elB {D : Desc} {wl xl er : List Int} (h1 : elB D wl = true) (h2 : elB D xl = true) (hr : ∀ x ∈ er, 0 ≤ x ∧ x < (xl.length : Int)) : ∀ k, k ≤ er.length → elB D (putK wl xl er k) = true
  | 0, _ => h1
  | k + 1, hk => elB_iff.2 fun j hj => by
    have ih := elB_iff.1 (putK_elB h1 h2 hr k (by omega))
    have hm := mem_get (l := er) (show k < er.length by omega)
    have hx := hr _ hm
    rw [putK_length] at hj
    show 0 ≤ ((putK wl xl er k).set _ _)[j]?.getD 0 ∧ ((putK wl xl er k).set _ _)[j]?.getD 0 < _
    by_cases e : (er[k]?.getD 0).toNat = j
    · rw [e, List.getElem?_set_self (by rw [putK_length]; exact hj), Option.getD_some]
      exact elB_iff.1 h2 j (by omega)
    · rw [List.getElem?_set_ne e]
      exact ih j (by rw [putK_length]; exact hj)
end Go.Proofs.Ytpflgmbcmfllgaa

namespace Go.Proofs.Ytpflgmbcmfllgaa
open Go.RowKit Cw
attribute [local go_sem] Oper.semAt_some

theorem fewB_true {n m : Nat} (h : fewB n m = true) : n ≤ 20 ∧ m ≤ 30 := by
  unfold fewB at h
  simpa using h
end Go.Proofs.Ytpflgmbcmfllgaa
