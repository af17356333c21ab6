/- A row appended to rows of the call's own; combine.Sum, Plotkin, Juxtapose: errors and codes. -/
import Derived.Test.YtkmhopefnfaecaaZgMat
import Derived.Test.YtkmhopefnfaecaaZgCodI
import Derived.Test.YtkmhopefnfaecaaZgCmbS
namespace Go.Proofs.Ytkmhopefnfaecaa
open Go.RowKit Cw
attribute [local go_sem] Oper.semAt_some

theorem OwnM.lt0 {w : World} {B n : Nat} {v : Value} {rows : Nat → List Int} (h : OwnM w B v n rows) : ∀ k, v.ownBlock = some k → k < w.heap.size := fun k e => by
  obtain ⟨hs, -, e2, -⟩ := h
  exact (World.ownsRow.lt e2 k e).2
/-- 'append(rows, row)' of a new row, in the world behind the new cell of its header. -/
theorem wpList_appRow {w : World} {ops : Array Oper} {rest : List Oper} {o : Oper} {a : Act} {Q : Exit → Act → World → Prop} (hgd : o.guard = none) (s x : Operand)
    (ho : o.op = .call { callee := .builtin .append, args := #[s, x], argTypes := #[25, 25] })
    (B : Nat) (v : Value) (n : Nat) (rows : Nat → List Int) (hown : OwnM w B v n rows) (Ak : Option Addr) (L ck : Nat) (hr : Rd w w.heap.size Ak (rows n)) (hL : (rows n).length = L) (hl : L ≤ ck) (hc : ck ≤ maxLen)
    (W0 : Nat) (hv0 : ∀ k, v.ownBlock = some k → k < W0) (hd : ∀ a, Ak = some a → W0 ≤ a.block) (hBW : B ≤ W0)
    (hs : a.eval s = v) {H : Nat} (hx : a.eval x = .slice (some ⟨H, 0, none⟩) 1 1) (hH : w.heap.size = H) (hn : n ≤ 1000000) (hB : B ≤ w.heap.size)
    (h : ∀ v' w', OwnM w' B v' (n + 1) rows → Below B w w' → wpList Try.prog ops Q rest (a.put o.dst v') w') :
    wpList Try.prog ops Q (o :: rest) a (w.alloc (.cells #[.slice Ak L ck] 22)) := by
  obtain ⟨hss, e1, e2, e3⟩ := hown
  refine wpList_app1V hgd s x ho B v hss _ rfl e2 hs hx hH (by omega) hB fun v' w' ho' hb hg hv => ?_
  refine h v' w' (OwnM.snoc e1 e3 hr (by omega) hc (fun _ a e => ⟨fun e4 => ?_, Nat.le_trans hBW (hd a e)⟩) (by rw [hL]; exact ho') hg hv) hb
  have h1 := hd a e
  have h2 := hv0 _ e4
  omega
theorem OwnM.rdm {w : World} {B n : Nat} {v : Value} {rows : Nat → List Int} (h : OwnM w B v n rows) : ∃ A c, v = .slice A n c ∧ RdM w w.heap.size A n rows := by
  obtain ⟨A, c, rfl⟩ := h.size
  refine ⟨A, c, rfl, ?_⟩
  by_cases h0 : 0 < n
  · obtain ⟨g, c', e, hg', -, -, hmb⟩ := h.mb h0
    have e2 : A = some ⟨g, 0, none⟩ := by injection e
    rw [e2]; exact (hmb.rdmU hg').rdm
  · obtain rfl : n = 0 := by omega
    exact RdM.zero
/-- A list of the call's own, taken apart. -/
theorem Own.parts {w : World} {B : Nat} {v : Value} {l : List Int} (h : Own w B v l) : ∃ A c, v = .slice A l.length c ∧ l.length ≤ c ∧ c ≤ maxLen ∧ Rd w w.heap.size A l ∧ ∀ b, A = some b → B ≤ b.block := by
  obtain ⟨A, c, rfl, h1, h2, h3⟩ := h.form
  exact ⟨A, c, rfl, h1, Own.capM h, h2, fun b e => (h3 b e).1⟩

/-- The three blocks that a function of two codes begins with. -/
theorem two_enter (Pa Ma Na : Int) (mla : List Int) (na : Nat) (_rowsa : Nat → List Int) (Aa Ra : Option Addr) (ca ka : Nat) (Pb Mb Nb : Int) (mlb : List Int) (nb : Nat) (_rowsb : Nat → List Int) (Ab Rb : Option Addr) (cb kb : Nat) (w : World) {Z : World} (hZ : Z = (((w.alloc (.cells #[.int .i64 Pa, .int .i64 Ma, .slice Aa mla.length ca, .int .i64 Na, .slice Ra na ka] 27)).alloc (.cells #[.int .i64 Pb, .int .i64 Mb, .slice Ab mlb.length cb, .int .i64 Nb, .slice Rb nb kb] 27)).alloc (.cells #[.int .i64 0, .int .i64 0, .slice none 0 0, .int .i64 0, .slice none 0 0] 27))) {s : Nat} (hs : s = w.heap.size) : Z.heap.size = s + 1 + 1 + 1 ∧ Five Z s (.int .i64 Pa) (.int .i64 Ma) (.slice Aa mla.length ca) (.int .i64 Na) (.slice Ra na ka) ∧ Five Z (s + 1) (.int .i64 Pb) (.int .i64 Mb) (.slice Ab mlb.length cb) (.int .i64 Nb) (.slice Rb nb kb) ∧ Five Z (s + 1 + 1) (.int .i64 0) (.int .i64 0) (.slice none 0 0) (.int .i64 0) (.slice none 0 0) := by
  subst hs
  have k1 := Five.new w (.int .i64 Pa) (.int .i64 Ma) (.slice Aa mla.length ca) (.int .i64 Na) (.slice Ra na ka) 27
  have k2 := Five.new (w.alloc (.cells #[.int .i64 Pa, .int .i64 Ma, .slice Aa mla.length ca, .int .i64 Na, .slice Ra na ka] 27)) (.int .i64 Pb) (.int .i64 Mb) (.slice Ab mlb.length cb) (.int .i64 Nb) (.slice Rb nb kb) 27
  have k3 := Five.new ((w.alloc (.cells #[.int .i64 Pa, .int .i64 Ma, .slice Aa mla.length ca, .int .i64 Na, .slice Ra na ka] 27)).alloc (.cells #[.int .i64 Pb, .int .i64 Mb, .slice Ab mlb.length cb, .int .i64 Nb, .slice Rb nb kb] 27)) (.int .i64 0) (.int .i64 0) (.slice none 0 0) (.int .i64 0) (.slice none 0 0) 27
  rw [World.size_alloc] at k2 k3
  rw [World.size_alloc] at k3
  rw [hZ]
  exact ⟨by simp, (k1.keep ((Below.refl _ _).alloc (Nat.le_refl _) _) (by simp)).keep ((Below.refl _ _).alloc (Nat.le_refl _) _) (by simp; omega), k2.keep ((Below.refl _ _).alloc (Nat.le_refl _) _) (by simp), k3⟩

end Go.Proofs.Ytkmhopefnfaecaa
