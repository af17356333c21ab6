/- A row appended to rows of the call's own; combine.Sum, Plotkin, Juxtapose: errors and codes. -/
import Derived.Test.YtghgbjgoedlnjaaCodI
import Derived.Test.YtghgbjgoedlnjaaCmbS
import Derived.Test.YtghgbjgoedlnjaaApV
namespace Go.Proofs.Ytghgbjgoedlnjaa
open Go.RowKit Cw
attribute [local go_sem] Oper.semAt_some

theorem OwnM.lt0 {w : World} {B n : Nat} {v : Value} {rows : Nat → List Int} (h : OwnM w B v n rows) : ∀ k, v.ownBlock = some k → k < w.heap.size := fun k e => by
  obtain ⟨hs, -, e2, -⟩ := h
  exact (World.ownsRow.lt e2 k e).2
/-- 'append(rows, row)' of a new row, in the world behind the new cell of its header. -/
theorem wpList_appRow {w : World} {ops : Array Oper} {rest : List Oper} {o : Oper} {a : Act} {Q : Exit → Act → World → Prop} (hgd : o.guard = none) (s x : Operand)
    (ho : o.op = .call { callee := .builtin .append, args := #[s, x], argTypes := #[25, 25] })
    (B : Nat) (v : Value) (n : Nat) (rows : Nat → List Int) (hown : OwnM w B v n rows) (Ak : Option Addr) (L ck : Nat) (hr : Rd w w.heap.size Ak (rows n)) (hL : (rows n).length = L) (hl : L ≤ ck) (hc : ck ≤ maxLen)
    (W0 : Nat) (hv0 : ∀ k, v.ownBlock = some k → k < W0) (hd : ∀ a, Ak = some a → W0 ≤ a.block) (hBW : B ≤ W0)
    (hs : a.eval s = v) {H : Nat} (hx : a.eval x = .slice (some ⟨H, 0, none⟩) 1 1) (hH : w.heap.size = H) (hn : n ≤ 1000000) (hB : B ≤ w.heap.size)
    (h : ∀ v' w', OwnM w' B v' (n + 1) rows → Below B w w' → wpList Try.prog ops Q rest (a.put o.dst v') w') :
    wpList Try.prog ops Q (o :: rest) a (w.alloc (.cells #[.slice Ak L ck] 22)) := by
  obtain ⟨hss, e1, e2, e3⟩ := hown
  refine wpList_app1V hgd s x ho B v hss _ rfl e2 hs hx hH (by omega) hB fun v' w' ho' hb hg hv => ?_
  refine h v' w' (OwnM.snoc e1 e3 hr (by omega) hc (fun _ a e => ⟨fun e4 => ?_, Nat.le_trans hBW (hd a e)⟩) (by rw [hL]; exact ho') hg hv) hb
  have h1 := hd a e
  have h2 := hv0 _ e4
  omega
theorem step_appRow {w : World} {ops : Array Oper} {o : Oper} {a : Act} {K : Act → World → Prop} {Q : Exit → Act → World → Prop} {E : Prop} (hgd : o.guard = none) (s x : Operand)
    (ho : o.op = .call { callee := .builtin .append, args := #[s, x], argTypes := #[25, 25] })
    (B : Nat) (v : Value) (n : Nat) (rows : Nat → List Int) (hown : OwnM w B v n rows) (Ak : Option Addr) (L ck : Nat) (hr : Rd w w.heap.size Ak (rows n)) (hL : (rows n).length = L) (hl : L ≤ ck) (hc : ck ≤ maxLen)
    (W0 : Nat) (hv0 : ∀ k, v.ownBlock = some k → k < W0) (hd : ∀ a, Ak = some a → W0 ≤ a.block) (hBW : B ≤ W0)
    (hs : a.eval s = v) {H : Nat} (hx : a.eval x = .slice (some ⟨H, 0, none⟩) 1 1) (hH : w.heap.size = H) (hn : n ≤ 1000000) (hB : B ≤ w.heap.size)
    (h : ∀ v' w', OwnM w' B v' (n + 1) rows → Below B w w' → K (a.put o.dst v') w') :
    if Region.wanted o (yielded ops a.tmps) = true then Oper.wp Try.prog o a (w.alloc (.cells #[.slice Ak L ck] 22)) K Q else E := by
  obtain ⟨hss, e1, e2, e3⟩ := hown
  refine step_app1V hgd s x ho B v hss _ rfl e2 hs hx hH (by omega) hB fun v' w' ho' hb hg hv => ?_
  refine h v' w' (OwnM.snoc e1 e3 hr (by omega) hc (fun _ a e => ⟨fun e4 => ?_, Nat.le_trans hBW (hd a e)⟩) (by rw [hL]; exact ho') hg hv) hb
  have h1 := hd a e
  have h2 := hv0 _ e4
  omega
theorem OwnM.rdm {w : World} {B n : Nat} {v : Value} {rows : Nat → List Int} (h : OwnM w B v n rows) : ∃ A c, v = .slice A n c ∧ RdM w w.heap.size A n rows := by
  obtain ⟨A, c, rfl⟩ := h.size
  refine ⟨A, c, rfl, ?_⟩
  by_cases h0 : 0 < n
  · obtain ⟨g, c', e, hg', -, -, hmb⟩ := h.mb h0
    have e2 : A = some ⟨g, 0, none⟩ := by injection e
    rw [e2]; exact (hmb.rdmU hg').rdm
  · obtain rfl : n = 0 := by omega
    exact RdM.zero
/-- A list of the call's own, taken apart. -/
theorem Own.parts {w : World} {B : Nat} {v : Value} {l : List Int} (h : Own w B v l) : ∃ A c, v = .slice A l.length c ∧ l.length ≤ c ∧ c ≤ maxLen ∧ Rd w w.heap.size A l ∧ ∀ b, A = some b → B ≤ b.block := by
  obtain ⟨A, c, rfl, h1, h2, h3⟩ := h.form
  exact ⟨A, c, rfl, h1, Own.capM h, h2, fun b e => (h3 b e).1⟩

/-- The three blocks that a function of two codes begins with. -/
theorem two_enter (Pa Ma Na : Int) (mla : List Int) (na : Nat) (_rowsa : Nat → List Int) (Aa Ra : Option Addr) (ca ka : Nat) (Pb Mb Nb : Int) (mlb : List Int) (nb : Nat) (_rowsb : Nat → List Int) (Ab Rb : Option Addr) (cb kb : Nat) (w : World) {Z : World} (hZ : Z = (((w.alloc (.cells #[.int .i64 Pa, .int .i64 Ma, .slice Aa mla.length ca, .int .i64 Na, .slice Ra na ka] 27)).alloc (.cells #[.int .i64 Pb, .int .i64 Mb, .slice Ab mlb.length cb, .int .i64 Nb, .slice Rb nb kb] 27)).alloc (.cells #[.int .i64 0, .int .i64 0, .slice none 0 0, .int .i64 0, .slice none 0 0] 27))) {s : Nat} (hs : s = w.heap.size) : Z.heap.size = s + 1 + 1 + 1 ∧ Five Z s (.int .i64 Pa) (.int .i64 Ma) (.slice Aa mla.length ca) (.int .i64 Na) (.slice Ra na ka) ∧ Five Z (s + 1) (.int .i64 Pb) (.int .i64 Mb) (.slice Ab mlb.length cb) (.int .i64 Nb) (.slice Rb nb kb) ∧ Five Z (s + 1 + 1) (.int .i64 0) (.int .i64 0) (.slice none 0 0) (.int .i64 0) (.slice none 0 0) := by
  subst hs
  have k1 := Five.new w (.int .i64 Pa) (.int .i64 Ma) (.slice Aa mla.length ca) (.int .i64 Na) (.slice Ra na ka) 27
  have k2 := Five.new (w.alloc (.cells #[.int .i64 Pa, .int .i64 Ma, .slice Aa mla.length ca, .int .i64 Na, .slice Ra na ka] 27)) (.int .i64 Pb) (.int .i64 Mb) (.slice Ab mlb.length cb) (.int .i64 Nb) (.slice Rb nb kb) 27
  have k3 := Five.new ((w.alloc (.cells #[.int .i64 Pa, .int .i64 Ma, .slice Aa mla.length ca, .int .i64 Na, .slice Ra na ka] 27)).alloc (.cells #[.int .i64 Pb, .int .i64 Mb, .slice Ab mlb.length cb, .int .i64 Nb, .slice Rb nb kb] 27)) (.int .i64 0) (.int .i64 0) (.slice none 0 0) (.int .i64 0) (.slice none 0 0) 27
  rw [World.size_alloc] at k2 k3
  rw [World.size_alloc] at k3
  rw [hZ]
  exact ⟨by simp, (k1.keep ((Below.refl _ _).alloc (Nat.le_refl _) _) (by simp)).keep ((Below.refl _ _).alloc (Nat.le_refl _) _) (by simp; omega), k2.keep ((Below.refl _ _).alloc (Nat.le_refl _) _) (by simp), k3⟩

set_option maxRecDepth 100000 in
set_option maxHeartbeats 2000000 in
theorem cSum_err (Pa Ma Na : Int) (mla : List Int) (na : Nat) (rowsa : Nat → List Int) (Aa Ra : Option Addr) (ca ka : Nat) (Pb Mb Nb : Int) (mlb : List Int) (nb : Nat) (rowsb : Nat → List Int) (Ab Rb : Option Addr) (cb kb : Nat) (w : World) (hPa : I64 Pa) (hMa : I64 Ma) (hla : mla.length ≤ maxLen) (hna : na ≤ 64) (hka : ∀ i, i < na → (rowsa i).length ≤ 4200) (hra : Rd w w.heap.size Aa mla) (hma : RdM w w.heap.size Ra na rowsa) (hPb : I64 Pb) (hMb : I64 Mb) (hlb : mlb.length ≤ maxLen) (hnb : nb ≤ 64) (hkb : ∀ i, i < nb → (rowsb i).length ≤ 4200) (hrb : Rd w w.heap.size Ab mlb) (hmb : RdM w w.heap.size Rb nb rowsb) (hE0 : twoE Pa Ma Na mla na rowsa Aa Ra ca ka Pb Mb Nb mlb nb rowsb Ab Rb cb kb ≠ 0) :
    Calls Try.prog 29 #[.agg #[.int .i64 Pa, .int .i64 Ma, .slice Aa mla.length ca, .int .i64 Na, .slice Ra na ka], .agg #[.int .i64 Pb, .int .i64 Mb, .slice Ab mlb.length cb, .int .i64 Nb, .slice Rb nb kb]] w (ResErr (twoE Pa Ma Na mla na rowsa Aa Ra ca ka Pb Mb Nb mlb nb rowsb Ab Rb cb kb) w) := by
  have hC := fun (W : World) (h : Below w.heap.size w W) X h0 h1 h2 => checked2_any Pa Ma Na mla na rowsa Aa Ra ca ka Pb Mb Nb mlb nb rowsb Ab Rb cb kb X W hPa hMa hla hna hka ((hra.below h).more h.size) ((hma.below h).more h.size) hPb hMb hlb hnb hkb ((hrb.below h).more h.size) ((hmb.below h).more h.size) h0 h1 h2
  obtain ⟨Z, hZ⟩ : ∃ Z, Z = (((w.alloc (.cells #[.int .i64 Pa, .int .i64 Ma, .slice Aa mla.length ca, .int .i64 Na, .slice Ra na ka] 27)).alloc (.cells #[.int .i64 Pb, .int .i64 Mb, .slice Ab mlb.length cb, .int .i64 Nb, .slice Rb nb kb] 27)).alloc (.cells #[.int .i64 0, .int .i64 0, .slice none 0 0, .int .i64 0, .slice none 0 0] 27)) := ⟨_, rfl⟩
  have hB : Below w.heap.size w Z := by rw [hZ]; exact (((Below.refl _ _).alloc (Nat.le_refl _) _).alloc (by simp) _).alloc (by simp; omega) _
  obtain ⟨s, hs⟩ : ∃ s, s = w.heap.size := ⟨_, rfl⟩
  obtain ⟨hZe, -, -, fz⟩ := two_enter Pa Ma Na mla na rowsa Aa Ra ca ka Pb Mb Nb mlb nb rowsb Ab Rb cb kb w hZ hs
  have hZs : s + 1 + 1 < Z.heap.size := by omega
  have hb1 : Below Z.heap.size Z (Z.alloc (.cells #[.int .i64 Pa, .int .i64 Ma, .slice Aa mla.length ca, .int .i64 Na, .slice Ra na ka, .int .i64 Pb, .int .i64 Mb, .slice Ab mlb.length cb, .int .i64 Nb, .slice Rb nb kb] 27)) := (Below.refl _ _).alloc (Nat.le_refl _) _
  have hB1 := hB.trans (hb1.mono hB.size)
  have hC1 := hC _ hB1 (s + 1 + 1 + 1) (by rw [World.size_alloc]; omega) (by rw [← hZe]; simp [go_sem]) (by rw [← hZe]; simp [go_sem])
  replace hZe := Lib.hid hZe
  generalize twoE Pa Ma Na mla na rowsa Aa Ra ca ka Pb Mb Nb mlb nb rowsb Ab Rb cb kb = E at *
  have hEb : (E != 0) = true := by rw [bne_iff_ne]; exact hE0
  replace hC1 := Lib.hid hC1
  replace hE0 := Lib.hid hE0
  replace hZ := Lib.hid hZ
  clear hC hka hkb
  go_enter Try.func29, Try.ntmps29
  go_wp2_with (fail)
  rw [← hZ.out]
  simp only [← hs]
  have hsw : w.heap.size ≤ s := Nat.le_of_eq hs.symm
  replace hs := Lib.hid hs
  (with_reducible refine hC1.out.mono ?_)
  rintro e w1 ⟨rfl, hb2⟩
  have hbz := hb1.trans (hb2.mono hb1.size)
  have hBf := Lib.hid ((hB.trans (hbz.mono hB.size)).trans ((set5 (w3 := w1) (b := s + 1 + 1) (.int .i64 0) (.int .i64 0) (.slice none 0 0) (.int .i64 0) (.slice none 0 0)).mono (by omega)))
  obtain ⟨a0, a1, a2, a3, a4, g0, g1, g2, g3, g4⟩ := fz.keep hbz hZs
  clear hbz hb1 hB1 hB fz
  go_wp2_with (fail)
  refine bodyPost_ret (v := .tuple #[.agg #[.int .i64 0, .int .i64 0, .slice none 0 0, .int .i64 0, .slice none 0 0], .int .i64 E]) (by simp [results, Try.results29, go_sem, a0, a1, a2, a3, a4]) rfl (resErr hBf.out)
end Go.Proofs.Ytghgbjgoedlnjaa
