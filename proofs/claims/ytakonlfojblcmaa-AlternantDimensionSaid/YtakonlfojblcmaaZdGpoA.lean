/- Entries that are elements; cells of a field and one more, kept. The reference's polynomials: Canon. The reference's elimination. The reference: Canon of rows, copies of fields, equal rows. The reference's codes: Field, Make, Same. The reference's codes: Make, Same. Layer 5 of the program: trim, Canon, combine. Layer 18 of the program: elements, twice. Go's slices.Index and slices.Contains over ints. -/
import Derived.Deep.CutRange
import Derived.IntWalk
import Derived.Test.YtakonlfojblcmaaZdP1
import Derived.Test.YtakonlfojblcmaaZdRF
import Derived.Test.YtakonlfojblcmaaZdGA
import Derived.Test.YtakonlfojblcmaaZdBxs
import Derived.Test.YtakonlfojblcmaaZdDot
namespace Go.Proofs.Ytakonlfojblcmaa
open Go.RowKit Cw

def elB (D : Desc) (l : List Int) : Bool := decide (∀ x ∈ l, 0 ≤ x ∧ x < (D.q : Int))
theorem elB_iff {D : Desc} {l : List Int} : elB D l = true ↔ ∀ j, j < l.length → 0 ≤ l[j]?.getD 0 ∧ l[j]?.getD 0 < (D.q : Int) := by
  unfold elB
  rw [decide_eq_true_iff]
  constructor
  · intro h j hj
    rw [List.getElem?_eq_getElem hj]
    exact h _ (List.getElem_mem _)
  · intro h x hx
    obtain ⟨j, hj, rfl⟩ := List.getElem_of_mem hx
    have := h j hj
    rwa [List.getElem?_eq_getElem hj] at this
theorem elB_no {D : Desc} {l : List Int} {j : Nat} (hj : j < l.length) (h : ¬ (0 ≤ l[j]?.getD 0 ∧ l[j]?.getD 0 < (D.q : Int))) : elB D l = false := by
  rw [← Bool.not_eq_true, elB_iff]
  exact fun h2 => h (h2 j hj)
theorem Bx.cells {w : World} {b : Nat} {D : Desc} {A : Option Addr} {n c : Nat} (h : Bx w b D A n c) : w.cell? ⟨b, 0, none⟩ = some (.int .i64 D.p) ∧ w.cell? ⟨b, 1, none⟩ = some (.int .i64 D.m) ∧ w.cell? ⟨b, 2, none⟩ = some (.slice A n c) := h
end Go.Proofs.Ytakonlfojblcmaa

namespace Go.Proofs.Ytakonlfojblcmaa
open Go.RowKit Cw

def cfR (D : Desc) (p : List Int) : Nat → R D := fun i => eli D (p[i]?.getD 0)
def cfI (D : Desc) (p : List Int) : Nat → Int := fun i => ci (cfR D p i)
theorem cfR_out (D : Desc) {p : List Int} {i : Nat} (h : p.length ≤ i) : cfR D p i = 0 := by
  unfold cfR; rw [List.getElem?_eq_none h]; exact eli_zero
theorem cfR_can {D : Desc} (f : Nat → R D) (n : Nat) (h : ∀ i, n ≤ i → f i = 0) : cfR D (canL (fun i => ci (f i)) n) = f := funext fun i => by
  unfold cfR
  by_cases hi : i < n
  · rw [canL_get _ hi, eli_ci]
  · rw [canL_out _ (by omega), h i (by omega)]; exact eli_zero
def canI (D : Desc) (p : List Int) : List Int := canL (cfI D p) p.length
theorem canI_le (D : Desc) (p : List Int) : (canI D p).length ≤ p.length := by unfold canI; rw [canL_length]; exact cdeg_le _ _
theorem cfR_canI (D : Desc) (p : List Int) : cfR D (canI D p) = cfR D p := cfR_can (cfR D p) p.length fun _ h => cfR_out D h
end Go.Proofs.Ytakonlfojblcmaa

namespace Go.Proofs.Ytakonlfojblcmaa
open Go.RowKit Cw
open Cw.CField (inv)
attribute [local go_sem] Oper.semAt_some

def natL (l : List Nat) : List Int := l.map fun k : Nat => (k : Int)
end Go.Proofs.Ytakonlfojblcmaa

namespace Go.Proofs.Ytakonlfojblcmaa
open Go.RowKit Cw
attribute [local go_sem] Oper.semAt_some

noncomputable def rkS (F : FD) (n cols : Nat) (M : Nat → Nat → R F.toDesc) : Nat := (elS n M cols).2.length
end Go.Proofs.Ytakonlfojblcmaa

namespace Go.Proofs.Ytakonlfojblcmaa
open Go.RowKit Cw
attribute [local go_sem] Oper.semAt_some

def Five (w : World) (b : Nat) (v0 v1 v2 v3 v4 : Value) : Prop :=
  w.cell? ⟨b, 0, none⟩ = some v0 ∧ w.cell? ⟨b, 1, none⟩ = some v1 ∧ w.cell? ⟨b, 2, none⟩ = some v2 ∧ w.cell? ⟨b, 3, none⟩ = some v3 ∧ w.cell? ⟨b, 4, none⟩ = some v4 ∧
  w.frozen? ⟨b, 0, none⟩ = false ∧ w.frozen? ⟨b, 1, none⟩ = false ∧ w.frozen? ⟨b, 2, none⟩ = false ∧ w.frozen? ⟨b, 3, none⟩ = false ∧ w.frozen? ⟨b, 4, none⟩ = false
theorem Five.keep {B b : Nat} {w w1 : World} {v0 v1 v2 v3 v4 : Value} (h : Five w b v0 v1 v2 v3 v4) (hb : Below B w w1) (hlt : b < B) : Five w1 b v0 v1 v2 v3 v4 := by
  obtain ⟨a0, a1, a2, a3, a4, f0, f1, f2, f3, f4⟩ := h
  exact ⟨(hb.cell (p := ⟨b, 0, none⟩) hlt).trans a0, (hb.cell (p := ⟨b, 1, none⟩) hlt).trans a1, (hb.cell (p := ⟨b, 2, none⟩) hlt).trans a2, (hb.cell (p := ⟨b, 3, none⟩) hlt).trans a3, (hb.cell (p := ⟨b, 4, none⟩) hlt).trans a4,
    (hb.frozen (p := ⟨b, 0, none⟩) hlt).trans f0, (hb.frozen (p := ⟨b, 1, none⟩) hlt).trans f1, (hb.frozen (p := ⟨b, 2, none⟩) hlt).trans f2, (hb.frozen (p := ⟨b, 3, none⟩) hlt).trans f3, (hb.frozen (p := ⟨b, 4, none⟩) hlt).trans f4⟩
theorem Five.new (w : World) (v0 v1 v2 v3 v4 : Value) (t : TypeId) : Five (w.alloc (.cells #[v0, v1, v2, v3, v4] t)) w.heap.size v0 v1 v2 v3 v4 := by
  unfold Five
  simp [go_sem]
theorem set5 {w3 : World} {b : Nat} (u0 u1 u2 u3 u4 : Value) : Below b w3 (((((w3.setCell ⟨b, 0, none⟩ u0).setCell ⟨b, 1, none⟩ u1).setCell ⟨b, 2, none⟩ u2).setCell ⟨b, 3, none⟩ u3).setCell ⟨b, 4, none⟩ u4) :=
  (((((Below.refl _ _).setCell (p := ⟨b, 0, none⟩) (Nat.le_refl _) _).setCell (p := ⟨b, 1, none⟩) (Nat.le_refl _) _).setCell (p := ⟨b, 2, none⟩) (Nat.le_refl _) _).setCell (p := ⟨b, 3, none⟩) (Nat.le_refl _) _).setCell (p := ⟨b, 4, none⟩) (Nat.le_refl _) _
end Go.Proofs.Ytakonlfojblcmaa

namespace Go.Proofs.Ytakonlfojblcmaa
open Go.RowKit Cw
attribute [local go_sem] Oper.semAt_some

theorem Rd.set5 {w : World} {B b : Nat} {A : Option Addr} {l : List Int} (h : Rd w B A l) (hA : ∀ a, A = some a → a.block ≠ b) (u0 u1 u2 u3 u4 : Value) : Rd (((((w.setCell ⟨b, 0, none⟩ u0).setCell ⟨b, 1, none⟩ u1).setCell ⟨b, 2, none⟩ u2).setCell ⟨b, 3, none⟩ u3).setCell ⟨b, 4, none⟩ u4) B A l :=
  ((((h.farN (fun _ => hA) 0 u0).farN (fun _ => hA) 1 u1).farN (fun _ => hA) 2 u2).farN (fun _ => hA) 3 u3).farN (fun _ => hA) 4 u4
theorem set5_above {w : World} {b L : Nat} (hL : b < L) (u0 u1 u2 u3 u4 : Value) (p : Addr) (hp : L ≤ p.block) : (((((w.setCell ⟨b, 0, none⟩ u0).setCell ⟨b, 1, none⟩ u1).setCell ⟨b, 2, none⟩ u2).setCell ⟨b, 3, none⟩ u3).setCell ⟨b, 4, none⟩ u4).cell? p = w.cell? p := by
  have hne : b ≠ p.block := by omega
  rw [World.cell?_setCell_far _ _ _ _ hne, World.cell?_setCell_far _ _ _ _ hne, World.cell?_setCell_far _ _ _ _ hne, World.cell?_setCell_far _ _ _ _ hne, World.cell?_setCell_far _ _ _ _ hne]

end Go.Proofs.Ytakonlfojblcmaa

namespace Go.Proofs.Ytakonlfojblcmaa
open Go.RowKit Cw
attribute [local go_sem] Oper.semAt_some

theorem wrap_pred {k k' : Nat} (h : k = k' + 1) (hk : k ≤ 1000000) : IntKind.i64.wrap ((k : Int) - 1) = (k' : Int) := by
  rw [IntWalk.i64_in _ (by omega)]; omega
def GivesR (l : List Int) (w : World) (e : Ending) (w' : World) : Prop :=
  ∃ A c, e = .returned (.slice A l.length c) ∧ Rd w' w'.heap.size A l ∧ l.length ≤ c ∧ c ≤ maxLen ∧ (∀ a, A = some a → w.heap.size ≤ a.block) ∧ Below w.heap.size w w'
theorem Rd.lst_take {w : World} {B n N : Nat} {A : Option Addr} {f : Nat → Int} (h : Rd w B A (lst n f)) (hN : N ≤ n) : Rd w B A (lst N f) := fun hp => by
  rw [lst_length] at hp
  obtain ⟨b, off, e, hb, hc⟩ := h (by rw [lst_length]; omega)
  refine ⟨b, off, e, hb, fun j hj => ?_⟩
  rw [lst_length] at hj
  have := hc j (by rw [lst_length]; omega)
  rw [lst_get _ (by omega)] at this
  rw [lst_get _ hj]; exact this

set_option maxHeartbeats 1000000 in
theorem gTrim_any (n : Nat) (f : Nat → Int) (A : Option Addr) (c : Nat) (w : World) (hr : Rd w w.heap.size A (lst n f)) (hn : n ≤ 1000000) (hc : n ≤ c) (_hc' : c ≤ maxLen) :
    Calls Try.prog 101 #[.slice A n c] w fun e w' => e = .returned (.slice A (cdeg f n) c) ∧ w = w' := by
  go_enter Try.func101, Try.ntmps101
  go_wp2_with (fail)
  go_loop [0] (fun v => ∃ k : Nat, k ≤ n ∧ v = .slice A k c ∧ Hid (cdeg f n = cdeg f k)) (fun v => lenV v)
  case atStart => exact ⟨n, Nat.le_refl _, rfl, rfl⟩
  case round =>
    obtain ⟨k, hk, rfl, hd⟩ := hrel
    rcases Nat.eq_zero_or_pos k with h0 | hpos
    · subst h0
      go_wp2_with (fail)
      go_ret
      exact ⟨by rw [hd.out]; rfl, rfl⟩
    · obtain ⟨k', hk'⟩ : ∃ k', k = k' + 1 := ⟨k - 1, by omega⟩
      have hwr := wrap_pred hk' (by omega)
      obtain ⟨b, o, rfl, -, hcell⟩ := hr.at_ (by rw [lst_length]; omega : k' < (lst n f).length)
      rw [lst_get _ (by omega)] at hcell
      have hk0 : (0 : Int) < (k : Int) := by omega
      have hj0 : (0 : Int) ≤ (k' : Int) := by omega
      have hj1 : (k' : Int) < (k : Int) := by omega
      have hj2 : (k' : Int) ≤ (c : Int) := by omega
      obtain ⟨y, hy⟩ : ∃ y, y = f k' := ⟨_, rfl⟩
      rw [← hy] at hcell
      by_cases hz : y = 0
      · have hzb : (y == 0) = true := by rw [beq_iff_eq]; exact hz
        have hd2 : Hid (cdeg f n = cdeg f k') := by unfold Hid; rw [hd.out, hk', cdeg_yes (by rw [← hy]; exact hz)]
        replace hk' := Lib.hid hk'
        clear hz hy hd
        go_wp2_with (fail)
        go_round
        case rel => exact ⟨k', by have := hk'.out; omega, rfl, hd2⟩
        case measure => simp [lenV]; have := hk'.out; omega
      · have hzb : (y == 0) = false := by rw [beq_eq_false_iff_ne]; exact hz
        have hd2 : Hid (cdeg f n = k) := by unfold Hid; rw [hd.out, hk', cdeg_no (by rw [← hy]; exact hz)]
        replace hk' := Lib.hid hk'
        clear hz hy hd
        go_wp2_with (fail)
        go_ret
        exact ⟨by rw [hd2.out]; rfl, rfl⟩

set_option maxHeartbeats 2000000 in
theorem gCanonP_box (F : FD) (p : List Int) (A1 : Option Addr) (c1 g : Nat) (w : World) (hg : GF w w.heap.size g F) (hr1 : Rd w w.heap.size A1 p) (hl : p.length ≤ 70000) :
    Calls Try.prog 98 #[.pointer (some ⟨g, 0, none⟩), .slice A1 p.length c1] w fun e w' => ∃ gb, e = .returned (.slice (some ⟨gb, 0, none⟩) (canI F.toDesc p).length p.length) ∧ w.heap.size ≤ gb ∧ IB w' gb (lst p.length (cfI F.toDesc p)) ∧ Below w.heap.size w w' := by
  obtain ⟨n, hn⟩ : ∃ n, n = p.length := ⟨_, rfl⟩
  have hmk := mk_ints n (by omega)
  obtain ⟨f, hf⟩ : ∃ f, f = cfI F.toDesc p := ⟨_, rfl⟩
  have hfk : ∀ k, f k = if decide (0 ≤ p[k]?.getD 0 ∧ p[k]?.getD 0 < (F.q : Int)) = true then p[k]?.getD 0 else 0 := fun k => by
    rw [hf]
    unfold cfI cfR
    by_cases h : 0 ≤ p[k]?.getD 0 ∧ p[k]?.getD 0 < (F.q : Int)
    · rw [if_pos (decide_eq_true h)]; exact ci_eli_in h
    · rw [if_neg (by rw [decide_eq_false h]; decide)]
      unfold eli
      rw [if_neg h]; exact ci_zero
  have hcan : Hid (canI F.toDesc p = lst (cdeg f n) f) := by rw [hf, hn]; rfl
  have hT := fun A c W a b d => Lib.hid (gTrim_any n f A c W a (by omega) b d)
  obtain ⟨gb, hgb⟩ : ∃ gb, gb = w.heap.size := ⟨_, rfl⟩
  obtain ⟨Y, hY⟩ : ∃ Y, Y = w.alloc (.cells (Array.replicate n (Value.int .i64 0)) 3) := ⟨_, rfl⟩
  have hib : IB Y gb (upd n 0 f) := by rw [upd_zero, hY, hgb]; exact IB.newz w n
  have hbY : Below w.heap.size w Y := by rw [hY]; exact (Below.refl _ _).alloc (Nat.le_refl _) _
  have hgw : w.heap.size ≤ gb := Nat.le_of_eq hgb.symm
  have hgw2 : gb ≤ w.heap.size := Nat.le_of_eq hgb
  have hnp := Lib.hid hn
  have hn7 : n ≤ 70000 := by omega
  rw [← hn]
  replace hY := Lib.hid hY
  replace hgb := Lib.hid hgb
  replace hf := Lib.hid hf
  clear hn
  go_enter Try.func98, Try.ntmps98
  go_wp2_with (fail)
  rw [← hY.out, ← hgb.out]
  go_loopw [13] (fun i wr => ∃ k : Nat, k ≤ n ∧ i = .int .i64 k ∧ IB wr gb (upd n k f) ∧ Below w.heap.size w wr) (fun i _ => n - (intOf i).toNat)
  case atStart => exact ⟨0, by omega, rfl, hib, hbY⟩
  case round =>
    obtain ⟨k, hk, rfl, hibk, hbw⟩ := hrel
    obtain ⟨w3, rfl⟩ : ∃ w3 : World, w3 = wr := ⟨_, rfl⟩
    clear hib hbY
    by_cases hlt : k < n
    · have hk0 : (0 : Int) ≤ (k : Int) := by omega
      have hk1 : (k : Int) < (n : Int) := by omega
      obtain ⟨b, o, rfl, hb, hc⟩ := hr1.at_ (by rw [← hnp.out]; exact hlt : k < p.length)
      have hd := (hbw.cell (p := ⟨b, o + k, none⟩) hb).trans hc
      obtain ⟨y, hy⟩ : ∃ y, y = p[k]?.getD 0 := ⟨_, rfl⟩
      have hfy := hfk k
      rw [← hy] at hd hfy
      have hI := gIs_any F y g w3 ((hg.below hbw).more hbw.size)
      have hkk : k < (upd n k f).length := by rw [upd_length]; exact hlt
      have hcW := hibk.cell hkk
      have hfW := hibk.frozen k
      have hset := hibk.set_ k (f k)
      rw [upd_set] at hset
      have hbs : Below w.heap.size w (w3.setCell ⟨gb, k, none⟩ (.int .i64 (f k))) := hbw.setCell (p := ⟨gb, k, none⟩) hgw _
      have hz0 : f k = 0 → IB w3 gb (upd n (k + 1) f) := fun e => by
        have h := upd_set n k f
        have h2 : (upd n k f).set k (f k) = upd n k f := by
          rw [e]
          apply List.ext_getElem
          · simp
          · intro i h3 h4
            rw [List.getElem_set]
            by_cases e2 : k = i
            · rw [if_pos e2]
              have h5 := upd_get (n := n) (k := k) (i := i) f (by simpa [upd_length] using h4)
              rw [if_neg (by omega), List.getElem?_eq_getElem h4, Option.getD_some] at h5
              exact h5.symm
            · rw [if_neg e2]
        rw [← h, h2]; exact hibk
      replace hy := Lib.hid hy
      cases hde : decide (0 ≤ y ∧ y < (F.q : Int)) with
      | true =>
        rw [hde] at hI hfy
        rw [if_pos rfl] at hfy
        rw [hfy] at hset hbs
        replace hI := Lib.hid hI
        replace hset := Lib.hid hset
        clear hc hde hfy hz0 hkk
        go_wp2_with (fail)
        (with_reducible refine hI.out.mono ?_)
        rintro e w4 ⟨rfl, rfl⟩
        go_wp2_with (fail)
        go_roundw
        case rel => exact ⟨k + 1, by omega, by go_num, hset.out, hbs⟩
        case measure => simp [intOf]; omega
      | false =>
        rw [hde] at hI hfy
        rw [if_neg (by decide)] at hfy
        have hib2 := Lib.hid (hz0 hfy)
        replace hI := Lib.hid hI
        clear hc hde hfy hz0 hkk hset hbs hcW hfW
        go_wp2_with (fail)
        (with_reducible refine hI.out.mono ?_)
        rintro e w4 ⟨rfl, rfl⟩
        go_wp2_with (fail)
        go_roundw
        case rel => exact ⟨k + 1, by omega, by go_num, hib2.out, hbw⟩
        case measure => simp [intOf]; omega
    · obtain rfl : k = n := by omega
      rw [upd_full] at hibk
      have hT3 := hT (some ⟨gb, 0, none⟩) k w3 hibk.rd (Nat.le_refl _) (by unfold maxLen; omega)
      have hle := cdeg_le f k
      go_wp2_with (fail)
      (with_reducible refine hT3.out.mono ?_)
      rintro e w4 ⟨rfl, rfl⟩
      go_wp2_with (fail)
      go_ret
      exact ⟨gb, by rw [hcan.out, lst_length]; rfl, hgw, by rw [← hf.out]; exact hibk, hbw⟩
theorem gCanonP_any (F : FD) (p : List Int) (A1 : Option Addr) (c1 g : Nat) (w : World) (hg : GF w w.heap.size g F) (hr1 : Rd w w.heap.size A1 p) (hl : p.length ≤ 70000) :
    Calls Try.prog 98 #[.pointer (some ⟨g, 0, none⟩), .slice A1 p.length c1] w (GivesR (canI F.toDesc p) w) :=
  (gCanonP_box F p A1 c1 g w hg hr1 hl).mono fun e w' ⟨gb, he, h1, h2, h3⟩ => by
    have hle := canI_le F.toDesc p
    have hc : canI F.toDesc p = lst (canI F.toDesc p).length (cfI F.toDesc p) := by unfold canI; rw [canL_length]; rfl
    refine ⟨some ⟨gb, 0, none⟩, p.length, he, ?_, hle, by unfold maxLen; omega, fun a e => by cases e; exact h1, h3⟩
    rw [hc]; exact h2.rd.lst_take hle
end Go.Proofs.Ytakonlfojblcmaa

namespace Go.Proofs.Ytakonlfojblcmaa
open Go.RowKit Cw

def twB (l : List Int) : Bool := decide (¬ l.Nodup)
theorem twB_yes {l : List Int} {i j : Nat} (hij : j < i) (hi : i < l.length) (h : l[i]?.getD 0 = l[j]?.getD 0) : twB l = true := by
  unfold twB
  rw [decide_eq_true_iff]
  intro hn
  rw [List.getElem?_eq_getElem hi, List.getElem?_eq_getElem (by omega : j < l.length)] at h
  exact List.pairwise_iff_getElem.1 hn j i (by omega) hi hij h.symm
theorem twB_no {l : List Int} (h : ∀ i j, j < i → i < l.length → l[i]?.getD 0 ≠ l[j]?.getD 0) : twB l = false := by
  unfold twB
  rw [decide_eq_false_iff_not, Classical.not_not]
  refine List.pairwise_iff_getElem.2 fun i j hi hj hij e => h j i hij hj ?_
  rw [List.getElem?_eq_getElem hi, List.getElem?_eq_getElem hj]
  exact e.symm

set_option maxHeartbeats 1000000 in
theorem gElems_any (D : FD) (l : List Int) (A : Option Addr) (c g : Nat) (w : World) (hg : GF w w.heap.size g D) (hr : Rd w w.heap.size A l) (hl : l.length ≤ maxLen) :
    Calls Try.prog 54 #[.pointer (some ⟨g, 0, none⟩), .slice A l.length c] w fun e w' => e = .returned (.bool (elB D.toDesc l)) ∧ w = w' := by
  unfold maxLen at hl
  have hI := fun x => Lib.hid (gIs_any D x g w hg)
  go_enter Try.func54, Try.ntmps54
  go_wp2_with (fail)
  go_loop [9, 6] (fun i _ => ∃ k : Nat, k ≤ l.length ∧ i = .int .i64 k ∧ Hid (∀ j, j < k → 0 ≤ l[j]?.getD 0 ∧ l[j]?.getD 0 < (D.q : Int))) (fun i _ => l.length - (intOf i).toNat)
  case atStart => exact ⟨0, by omega, rfl, fun j hj => absurd hj (by omega)⟩
  case round =>
    obtain ⟨k, hk, rfl, hall⟩ := hrel
    by_cases hlt : k < l.length
    · obtain ⟨b, o, rfl, -, hc⟩ := hr.at_ hlt
      have hI2 := hI (l[k]?.getD 0)
      by_cases hy : 0 ≤ l[k]?.getD 0 ∧ l[k]?.getD 0 < (D.q : Int)
      · rw [decide_eq_true hy] at hI2
        have hall2 : Hid (∀ j, j < k + 1 → 0 ≤ l[j]?.getD 0 ∧ l[j]?.getD 0 < (D.q : Int)) := fun j hj => by
          by_cases e : j = k
          · subst e; exact hy
          · exact hall.out j (by omega)
        clear hy
        generalize l[k]?.getD 0 = y at *
        go_wp2_with (fail)
        (with_reducible refine hI2.out.mono ?_)
        rintro e w1 ⟨rfl, rfl⟩
        go_wp2_with (fail)
        go_round
        case rel => exact ⟨k + 1, by omega, by go_num, hall2⟩
        case measure => simp [intOf]; omega
      · have hfin := Lib.hid (elB_no hlt hy)
        rw [decide_eq_false hy] at hI2
        clear hy
        generalize l[k]?.getD 0 = y at *
        go_wp2_with (fail)
        (with_reducible refine hI2.out.mono ?_)
        rintro e w1 ⟨rfl, rfl⟩
        go_wp2_with (fail)
        go_ret
        exact ⟨ret_bool hfin.out.symm, rfl⟩
    · obtain rfl : k = l.length := by omega
      have hfin := Lib.hid (elB_iff.2 hall.out)
      go_wp2_with (fail)
      go_ret
      exact ⟨ret_bool hfin.out.symm, rfl⟩

set_option maxHeartbeats 1000000 in
theorem gTwice_any (l : List Int) (A : Option Addr) (c : Nat) (w : World) (hr : Rd w w.heap.size A l) (hlc : l.length ≤ c) (hl : c ≤ maxLen) :
    Calls Try.prog 60 #[.slice A l.length c] w fun e w' => e = .returned (.bool (twB l)) ∧ w = w' := by
  unfold maxLen at hl
  go_enter Try.func60, Try.ntmps60
  go_wp2_with (fail)
  go_loop [9, 3, 4] (fun i _ _ => ∃ k : Nat, k ≤ l.length ∧ i = .int .i64 k ∧ Hid (∀ i j, j < i → i < k → l[i]?.getD 0 ≠ l[j]?.getD 0)) (fun i _ _ => l.length - (intOf i).toNat)
  case atStart => exact ⟨0, by omega, rfl, fun i j h1 h2 => absurd h2 (by omega)⟩
  case round =>
    obtain ⟨k, hk, rfl, hall⟩ := hrel
    by_cases hlt : k < l.length
    · obtain ⟨b, o, rfl, -, hc⟩ := hr.at_ hlt
      obtain ⟨y, hy⟩ : ∃ y, y = l[k]?.getD 0 := ⟨_, rfl⟩
      rw [← hy] at hc
      replace hy := Lib.hid hy
      go_wp2_with (fail)
      go_loop [18, 6] (fun i _ => ∃ j : Nat, j ≤ k ∧ i = .int .i64 j ∧ Hid (∀ t, t < j → y ≠ l[t]?.getD 0)) (fun i _ => k - (intOf i).toNat)
      case atStart => exact ⟨0, by omega, rfl, fun t ht => absurd ht (by omega)⟩
      case round =>
        obtain ⟨j, hj, rfl, hall3⟩ := hrel
        by_cases hlt2 : j < k
        · obtain ⟨b2, o2, e2, -, hc2⟩ := hr.at_ (by omega : j < l.length)
          cases e2
          obtain ⟨z, hz⟩ : ∃ z, z = l[j]?.getD 0 := ⟨_, rfl⟩
          rw [← hz] at hc2
          replace hz := Lib.hid hz
          by_cases hyz : y = z
          · have hfin := Lib.hid (twB_yes hlt2 hlt (by rw [← hy.out, ← hz.out, hyz]))
            have hb : (y == z) = true := beq_iff_eq.2 hyz
            clear hyz
            go_wp2_with (fail)
            go_ret
            exact ⟨ret_bool hfin.out.symm, rfl⟩
          · have hb : (y == z) = false := beq_eq_false_iff_ne.2 hyz
            have hall4 : Hid (∀ t, t < j + 1 → y ≠ l[t]?.getD 0) := fun t ht => by
              by_cases e : t = j
              · subst e; rw [← hz.out]; exact hyz
              · exact hall3.out t (by omega)
            clear hyz
            go_wp2_with (fail)
            go_round
            case rel => exact ⟨j + 1, by omega, by go_num, hall4⟩
            case measure => simp [intOf]; omega
        · obtain rfl : j = k := by omega
          have hall2 : Hid (∀ i t, t < i → i < j + 1 → l[i]?.getD 0 ≠ l[t]?.getD 0) := fun i t h1 h2 => by
            by_cases e : i = j
            · subst e; rw [← hy.out]; exact hall3.out t h1
            · exact hall.out i t h1 (by omega)
          go_wp2_with (fail)
          go_round
          case rel => exact ⟨j + 1, by omega, by go_num, hall2⟩
          case measure => simp [intOf]; omega
    · obtain rfl : k = l.length := by omega
      have hfin := Lib.hid (twB_no hall.out)
      go_wp2_with (fail)
      go_ret
      exact ⟨ret_bool hfin.out.symm, rfl⟩
end Go.Proofs.Ytakonlfojblcmaa

namespace Go.Proofs.Ytakonlfojblcmaa
open Go.RowKit Cw

def conB (l : List Int) (x : Int) : Bool := decide (x ∈ l)
def IdxPost (l : List Int) (x : Int) (w : World) (e : Ending) (w' : World) : Prop := ∃ i : Int, e = .returned (.int .i64 i) ∧ w = w' ∧ decide (0 ≤ i) = conB l x
theorem conB_yes {l : List Int} {k : Nat} (h : k < l.length) : conB l (l[k]?.getD 0) = true := by
  unfold conB
  rw [decide_eq_true_iff, List.getElem?_eq_getElem h]
  exact List.getElem_mem h
theorem conB_no {l : List Int} {x : Int} (h : ∀ j, j < l.length → l[j]?.getD 0 ≠ x) : conB l x = false := by
  unfold conB
  rw [decide_eq_false_iff_not]
  intro hm
  obtain ⟨j, hj, e⟩ := List.getElem_of_mem hm
  exact h j hj (by rw [List.getElem?_eq_getElem hj]; exact e)
set_option maxHeartbeats 1000000 in
theorem Index_any (l : List Int) (x : Int) (A : Option Addr) (c : Nat) (w : World) (hr : Rd w w.heap.size A l) (hl : l.length ≤ maxLen) :
    Calls Try.prog 129 #[.slice A l.length c, .int .i64 x] w (IdxPost l x w) := by
  unfold maxLen at hl
  unfold IdxPost
  go_enter Try.func129, Try.ntmps129
  go_wp2_with (fail)
  go_loop [8, 5] (fun i _ => ∃ k : Nat, k ≤ l.length ∧ i = .int .i64 k ∧ Hid (∀ j, j < k → l[j]?.getD 0 ≠ x)) (fun i _ => l.length - (intOf i).toNat)
  case atStart => exact ⟨0, by omega, rfl, fun j hj => absurd hj (by omega)⟩
  case round =>
    obtain ⟨k, hk, rfl, hall⟩ := hrel
    by_cases hlt : k < l.length
    · obtain ⟨b, o, rfl, -, hc⟩ := hr.at_ hlt
      have i0 : (0 : Int) ≤ (k : Int) := by omega
      have i1 : (k : Int) < (l.length : Int) := by omega
      by_cases hy : x = l[k]?.getD 0
      · have hfin := Lib.hid (conB_yes hlt)
        rw [← hy] at hc hfin
        have hyb : (x == x) = true := by simp
        clear hy
        go_wp2_with (fail)
        go_ret
        exact ⟨(k : Int), rfl, rfl, by rw [hfin.out]; exact decide_eq_true (by omega)⟩
      · have hall2 : Hid (∀ j, j < k + 1 → l[j]?.getD 0 ≠ x) := fun j hj => by
          by_cases e : j = k
          · subst e; exact fun e => hy e.symm
          · exact hall.out j (by omega)
        have hyb : (x == l[k]?.getD 0) = false := by rw [beq_eq_false_iff_ne]; exact hy
        generalize l[k]?.getD 0 = y at *
        go_wp2_with (fail)
        go_round
        case rel => exact ⟨k + 1, by omega, by go_num, hall2⟩
        case measure => simp [intOf]; omega
    · have hfin := Lib.hid (conB_no (l := l) (x := x) (fun j hj => hall.out j (by omega)))
      go_wp2_with (fail)
      go_ret
      exact ⟨-1, rfl, rfl, by rw [hfin.out]; rfl⟩
set_option maxHeartbeats 1000000 in
theorem Contains_any (l : List Int) (x : Int) (A : Option Addr) (c : Nat) (w : World) (hr : Rd w w.heap.size A l) (hl : l.length ≤ maxLen) :
    Calls Try.prog 111 #[.slice A l.length c, .int .i64 x] w fun e w' => e = .returned (.bool (conB l x)) ∧ w = w' := by
  have hI := Lib.hid (Index_any l x A c w hr hl)
  go_enter Try.func111, Try.ntmps111
  go_wp2_with (fail)
  (with_reducible refine hI.out.mono ?_)
  rintro e w1 ⟨i, rfl, rfl, hi⟩
  replace hi := Lib.hid hi
  go_wp2_with (fail)
  go_ret
  exact ⟨ret_bool hi.out, rfl⟩
end Go.Proofs.Ytakonlfojblcmaa
