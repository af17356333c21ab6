/- The row of a law, for laws of any arguments: what came in is opened, what goes out reads as it did. -/
import Derived.Test.YtnbkmkeiophjoaaMem
import Derived.ProofKit
import Derived.OpenShut
import Derived.Lib.SmallJoins
namespace Go.Proofs.Ytnbkmkeiophjoaa
open Go.ChangeShapes Go.WideShapes Go.ChangeAt Go.RowKit Go.Joins Go.Deep

theorem own_knob : ownKnob Try.prog.godebug = none := by kernel_rfl
theorem laid_out : laidOutB Try.prog = true := by kernel_rfl

section
variable {H : Type} {enc : TypeId × Value → H} {P : Program}
/-- All arguments read behind the call as they did, where nothing that was there has turned. -/
theorem all_stay (hlo : laidOutB P = true) {W W' : World} (hb : Below W.heap.size W W') (sp : Nat → Bool) : ∀ {ts : List TypeId} {vs : List Value} {ds : List (DataW H)} {ps : List MemPlace},
    (ts.all fun t => P.readableRec t && decide (t < P.types.size)) = true → DataW.TrodAll enc P W 0 (fun _ => true) true ts vs ds ps →
    (∀ x ∈ ps, x.block < W.heap.size) → (∀ x ∈ ps, sp x.block = true) → DataW.TrodAll enc P W' 0 sp true ts vs ds ps
  | [], _, _, _, _, h, _, _ => by
    obtain ⟨rfl, rfl, rfl⟩ := trodAll_nil h
    exact rfl
  | t :: ts, _, _, _, hk, h, hlt, hsp => by
    obtain ⟨v, vs1, d, ds1, a, b, rfl, rfl, rfl, h1, h2⟩ := trodAll_cons h
    simp only [List.all_cons, Bool.and_eq_true, decide_eq_true_eq] at hk
    exact ⟨a, b, WideElems.Trod_stays hlo hk.1.1 hk.1.2 h1 (fun x hx => hb.same (hlt x (by simp [hx]))) (fun x hx => hsp x (by simp [hx])),
      all_stay hlo hb sp (by simpa using hk.2) h2 (fun x hx => hlt x (by simp [hx])) (fun x hx => hsp x (by simp [hx])), rfl⟩

/-- A law's post: it said true, and what came in reads as it did. -/
theorem law_post (hlo : laidOutB P = true) {f : Func} {s : ChangeSpec} {apart fresh handsOn again : Bool} {W W' : World} {args : Array Value} {ds gs : List (DataW H)} {before : List MemPlace} {t : TypeId}
    (hW : DataW.Whole enc P f.params.toList s.vars apart W args.toList ds gs before) (hvs : s.vars = [])
    (hk : (f.params.toList.all fun t => P.readableRec t && decide (t < P.types.size)) = true)
    (hrt : f.resultTypes = #[t]) (ht : P.underlying t = some .bool)
    (hfn : s.fn H ds = { results := [.lit (.bool true)], args := ds }) (hb : Below W.heap.size W W') :
    s.post enc P f apart fresh handsOn again W args (.bool true) W' := by
  have hlt := hW.lt
  have hW0 := hW
  obtain ⟨p, q, hA, hV, rfl, hz, hn⟩ := hW
  rw [hvs] at hV
  obtain ⟨rfl, rfl⟩ := trodVars_none hV
  simp only [List.append_nil] at hlt hz hn hW0
  have hA1 := fun sp h => all_stay hlo hb sp hk hA hlt h
  have hres : ∀ (b : Nat) (sp : Nat → Bool) (hd : Bool), DataW.TrodAll enc P W' b sp hd f.resultTypes.toList ((Value.bool true).resultList f.resultTypes.size) [.lit (.bool true)] [] := fun b sp hd => by
    rw [hrt]
    exact trodAll_mk1 (shut_bool ht true)
  have hq : ∀ sp, DataW.TrodVars enc P W' sp s.vars [] [] := fun sp => by rw [hvs]; rfl
  have hap : (s.fn H (ds ++ [])) = { results := [.lit (.bool true)], args := ds } := by rw [List.append_nil]; exact hfn
  refine ⟨ds, [], p, [], p, [], hW0, ?_, ?_, ?_, World.keptBut_mono (fun _ h => h.elim) (hb.frame (fun _ => False)), fun _ => ⟨?_, [.lit (.bool true)] ++ ds, [], p, ?_, fun x hx _ => hx⟩⟩
  · rw [hap]; exact hres _ _ _
  · rw [hap]; exact hA1 _ fun x hx => by simpa using hlt x hx
  · rw [hap]; exact hq _
  · exact ok_one hrt rfl (okWide_bool_mk ht true)
  · refine ⟨p, [], by simpa using trodAll_append (hA1 _ (fun _ _ => rfl)) (hres 0 _ true), hq _, by simp, ?_, ?_⟩
    · intro b off hp
      have hin := hlt _ hp
      rw [hb.frozen hin]
      exact hz b off hp
    · intro ha; exact hn ha
end

section
variable {H : Type} {enc : TypeId × Value → H} {W : World} {base : Nat}
theorem ty_int : Try.prog.underlying 3 = some (.int .i64) := by kernel_rfl
theorem ty_ints : Try.prog.underlying 22 = some (.slice 3) := by kernel_rfl
theorem ty_bool : Try.prog.underlying 4 = some .bool := by kernel_rfl
theorem cells_int : Try.prog.cellsOf 3 = 1 := by kernel_rfl

/-- What is known of an argument of type int. -/
def I64 (x : Int) : Prop := -9223372036854775808 ≤ x ∧ x ≤ 9223372036854775807
theorem i64_of {x : Int} (h : (Lit.int .i64 x).wf = true) : I64 x := by
  simp [Lit.wf, IntKind.min, IntKind.max, IntKind.signed, IntKind.bits] at h
  exact ⟨by omega, by omega⟩
set_option maxRecDepth 100000 in
theorem arg_int {v : Value} {d : DataW H} {p : List MemPlace} (hv : Value.okWide Try.prog W .any base 3 v) (h : DataW.Trod enc Try.prog W 0 (fun _ => true) true 3 v d p) : ∃ x, v = .int .i64 x ∧ I64 x := by
  obtain ⟨a, rfl, rfl, rfl, wa⟩ := open_int ty_int hv h
  exact ⟨a, rfl, i64_of wa⟩

/-- A slice of ints: its list, its address and its room. -/
theorem cell_ints {n : Nat} {v : Value} {y : DataW H × List MemPlace} (h : DataW.trod enc Try.prog W 0 (fun _ => true) true n 22 [v] = some y) (hlt : ∀ x ∈ y.2, x.block < W.heap.size) :
    ∃ (A : Option Addr) (l : List Int) (c : Nat), v = .slice A l.length c ∧ l.length ≤ c ∧ c ≤ maxLen ∧ (∀ x ∈ l, I64 x) ∧ Rd W W.heap.size A l := by
  rcases open_ints ty_ints ty_int cells_int h with ⟨hcs, rfl⟩ | ⟨a, len, cap, zs, hcs, -, hl, hm, hz, rfl, hc, hw⟩
  · cases hcs
    exact ⟨none, [], 0, rfl, Nat.le_refl _, by simp [maxLen], by simp, Rd.nil⟩
  · cases hcs
    simp only [if_true] at hz
    have hlen : (zs.take len).length = len := by simp; omega
    refine ⟨some a, zs.take len, cap, by rw [hlen], by omega, hm, fun x hx => i64_of (hw x (List.mem_of_mem_take hx)), ?_⟩
    intro h0
    rw [hlen] at h0 ⊢
    have h1 := hc 0 (by omega)
    obtain ⟨b, off, spot⟩ := a
    have hspot : spot = none := by simpa [Addr.add] using World.cell?_spot h1
    subst hspot
    refine ⟨b, off, rfl, hlt _ (show MemPlace.cell b (off + 0) ∈ _ from List.mem_map.2 ⟨0, List.mem_range.2 (by omega), rfl⟩), fun j hj => ?_⟩
    have := hc j (by omega)
    rw [add_plain] at this
    rw [this, List.getElem?_take_of_lt hj]
    simp [List.getD_eq_getElem?_getD]
/-- A cell of type int. -/
theorem cell_int {n : Nat} {v : Value} {y : DataW H × List MemPlace} (h : DataW.trod enc Try.prog W 0 (fun _ => true) true n 3 [v] = some y) : ∃ x, v = .int .i64 x ∧ I64 x := by
  obtain ⟨a, e0, rfl, wa⟩ := DataW.trod_int ty_int h
  cases e0
  exact ⟨a, rfl, i64_of wa⟩

/-- What is known of the cells of an argument of type api.Field. -/
def FieldArg (W : World) (v : Value) : Prop := ∃ (p m : Int) (A : Option Addr) (l : List Int) (c : Nat), v = .agg #[.int .i64 p, .int .i64 m, .slice A l.length c] ∧ I64 p ∧ I64 m ∧ l.length ≤ maxLen ∧ (∀ x ∈ l, I64 x) ∧ Rd W W.heap.size A l
theorem ty_field : ∃ f0 f1 f2 : Field, Try.prog.underlying 24 = some (.struct #[f0, f1, f2]) ∧ f0.type = 3 ∧ f1.type = 3 ∧ f2.type = 22 ∧ oneCellFields Try.prog #[f0, f1, f2] = true ∧ Try.prog.cellsOf 24 = 3 :=
  ⟨_, _, _, Try.underlying24, rfl, rfl, rfl, by kernel_rfl, by kernel_rfl⟩
set_option maxRecDepth 100000 in
theorem arg_field {v : Value} {d : DataW H} {p : List MemPlace} (hv : Value.okWide Try.prog W .any base 24 v) (h : DataW.Trod enc Try.prog W 0 (fun _ => true) true 24 v d p) (hlt : ∀ x ∈ p, x.block < W.heap.size) : FieldArg W v := by
  obtain ⟨f0, f1, f2, hs, t0, t1, t2, hone, hC⟩ := ty_field
  obtain ⟨c0, c1, c2, y0, y1, y2, n, rfl, rfl, rfl, h0, h1, h2⟩ := open_agg3 hs hone hC hv h
  rw [t0] at h0; rw [t1] at h1; rw [t2] at h2
  obtain ⟨x0, rfl, i0⟩ := cell_int h0
  obtain ⟨x1, rfl, i1⟩ := cell_int h1
  obtain ⟨A, l, c, rfl, hl, hm, hi, hr⟩ := cell_ints h2 fun x hx => hlt x (by simp [hx])
  exact ⟨x0, x1, A, l, c, rfl, i0, i1, by omega, hi, hr⟩
/-- An argument of type [2]int. -/
theorem ty_pair : Try.prog.underlying 69 = some (.array 2 3) := by kernel_rfl
theorem cells_pair : Try.prog.cellsOf 69 = 2 := by kernel_rfl
theorem okWide_array {P : Program} {W : World} {r : Reach} {b n : Nat} {t e : TypeId} {v : Value} (ht : P.underlying t = some (.array n e)) (h : Value.okWide P W r b t v) : ∃ cs, v = .agg cs ∧ cs.size = P.cellsOf t := by
  simp only [Value.okWide, ht] at h
  obtain ⟨cs, h1, h2, _⟩ := h
  exact ⟨cs, h1, h2⟩
set_option maxRecDepth 100000 in
theorem arg_pair {v : Value} {d : DataW H} {p : List MemPlace} (hv : Value.okWide Try.prog W .any base 69 v) (h : DataW.Trod enc Try.prog W 0 (fun _ => true) true 69 v d p) : ∃ x y, v = .agg #[.int .i64 x, .int .i64 y] ∧ I64 x ∧ I64 y := by
  obtain ⟨cs, rfl, hsz⟩ := okWide_array ty_pair hv
  obtain ⟨c0, c1, rfl⟩ := array2 (hsz.trans cells_pair)
  obtain ⟨fuel, hf⟩ := h
  obtain ⟨xs, n, _, hx, hl, hlen, hg⟩ := DataW.trod_array ty_pair hf
  rw [cells_int] at hg
  match xs, hlen with
  | [z0, z1], _ =>
    have g0 := hg 0 (by omega)
    have g1 := hg 1 (by omega)
    obtain ⟨x, rfl, i0⟩ := cell_int (v := c0) g0
    obtain ⟨y, rfl, i1⟩ := cell_int (v := c1) g1
    exact ⟨x, y, rfl, i0, i1⟩
end
end Go.Proofs.Ytnbkmkeiophjoaa
