/- The reference's rows: Copy. -/
import Derived.Test.YtkmhopefnfaecaaZgMatR
namespace Go.Proofs.Ytkmhopefnfaecaa
open Go.RowKit Cw
attribute [local go_sem] Oper.semAt_some

/-- What Copy hands back. -/
def CopyM (n : Nat) (rows : Nat → List Int) (w : World) (e : Ending) (w' : World) : Prop := ∃ v, e = .returned v ∧ OwnM w' w.heap.size v n rows ∧ Below w.heap.size w w' ∧ (n = 0 → v = .slice none 0 0)

set_option maxRecDepth 100000 in
set_option maxHeartbeats 2000000 in
theorem Copy9_any (n : Nat) (rows : Nat → List Int) (A : Option Addr) (c : Nat) (w : World) (hr : RdM w w.heap.size A n rows) (hn : n ≤ 1000000) (hm : ∀ i, i < n → (rows i).length ≤ 1000000) :
    Calls Try.prog 157 #[.slice A n c] w (CopyM n rows w) := by
  go_enter Try.func157, Try.ntmps157
  go_wp2_with (fail)
  go_loopw [4, 3] (fun i v wr => ∃ k : Nat, k ≤ n ∧ i = .int .i64 k ∧ OwnM wr w.heap.size v k rows ∧ Below w.heap.size w wr ∧ Hid (k = 0 → v = .slice none 0 0)) (fun i _ _ => n - (intOf i).toNat)
  case atStart => exact ⟨0, by omega, rfl, OwnM.nil _ _ _, Below.refl _ _, fun _ => rfl⟩
  case round =>
    obtain ⟨w3, rfl⟩ : ∃ w3 : World, w3 = wr := ⟨_, rfl⟩
    obtain ⟨k, hk, rfl, hown, hbw, hnil⟩ := hrel
    by_cases hlt : k < n
    · have hk0 : (0 : Int) ≤ (k : Int) := by omega
      have hk2 : (k : Int) < (n : Int) := by omega
      obtain ⟨b, o, Ak, ck, rfl, hb, hc, hrk, hlk, hck⟩ := hr.at_ hlt
      have hd := (hbw.cell (p := ⟨b, o + k, none⟩) hb).trans hc
      have hrk3 := (hrk.below hbw).more hbw.size
      have hmk := hm k hlt
      obtain ⟨Av, cv, rfl⟩ := hown.size
      have hownH := hown
      obtain ⟨hs', -, e2', -⟩ := hownH
      obtain ⟨W1, hW1⟩ : ∃ W1, W1 = w3.alloc (.cells #[] 3) := ⟨_, rfl⟩
      have hb1 : Below w3.heap.size w3 W1 := by rw [hW1]; exact (Below.refl _ _).alloc (Nat.le_refl _) _
      have hs1 : w3.heap.size < W1.heap.size := by rw [hW1]; simp
      have ho1 : Own W1 w3.heap.size (.slice (some ⟨w3.heap.size, 0, none⟩) 0 0) [] := by rw [hW1]; exact Own.of_IB (l := []) (heap_alloc_new _ _) (Nat.le_refl _) (by simp [maxLen])
      have hd1 := (hb1.cell (p := ⟨b, o + k, none⟩) (Nat.lt_of_lt_of_le hb hbw.size)).trans hd
      have hr1 := (hrk3.below hb1).more hb1.size
      have hle1 : ([] : List Int).length + (rows k).length ≤ 1000000000 := by simp; omega
      subst hW1
      have hb' : b < w3.heap.size := Nat.lt_of_lt_of_le hb hbw.size
      clear hc hd1
      go_wp2_with (first
        | (at_builtin; refine wpList_appN rfl (.tmp 12) (.tmp 16) rfl w3.heap.size _ [] _ Ak ck (rows k) ho1 hr1 rfl rfl rfl hle1 (Nat.le_of_lt hs1) ?_; intro v1 W2 ho2 hb2 hg2 hv2; rw [List.nil_append] at ho2; obtain ⟨A1, c1, rfl, hc1, hr2, hA1⟩ := ho2.form; have hcm := Own.capM ho2; have hown2 := hown.below (hb1.trans hb2) (Nat.le_refl _); obtain ⟨hs, e1, e2, e3⟩ := hown2)
        | (at_builtin; refine wpList_app1V rfl (.tmp 11) (.tmp 18) rfl w.heap.size _ hs _ rfl e2 rfl rfl rfl (by rw [e1]; omega) (Nat.le_trans hbw.size (hb1.trans hb2).size) ?_; intro v3 W3 ho3 hb3 hg3 hv3))
      have hsn := OwnM.snoc e1 e3 hr2 hc1 hcm (fun hne a e => ⟨fun e2 => by have h1 := (hA1 a e).1; have h2 := (World.ownsRow.lt e2' _ e2).2; omega, by have h1 := (hA1 a e).1; have h2 := hbw.size; omega⟩) ho3 hg3 hv3
      go_roundw
      case rel => exact ⟨k + 1, by omega, by go_num, hsn, hbw.trans (((hb1.trans hb2).mono hbw.size).trans (hb3.mono (Nat.le_refl _))), fun h => absurd h (by omega)⟩
      case measure => simp [intOf]; omega
    · obtain rfl : k = n := by omega
      go_wp2_with (fail)
      go_ret
      exact ⟨_, rfl, hown, hbw, hnil.out⟩
end Go.Proofs.Ytkmhopefnfaecaa
