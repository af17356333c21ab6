/- Layer 39 of the program: word, marks, result, Radius. Layer 39 of the program: result, Radius. -/
import Derived.BigQuiet
import Derived.Test.YtjdoneanohhkmaaGreatZrU07RBndP
namespace Go.Proofs.YtjdoneanohhkmaaGreat
section
open Go.RowKit Cw
attribute [local go_sem] Oper.semAt_some

def recErr (D : Desc) (word : List Int) (n : Nat) (er : List Int) : Int := if elErr D word n 4 ≠ 0 then elErr D word n 4 else if ¬ (∀ x ∈ er,0 ≤ x ∧ x < (n : Int)) then 6 else if ¬ er.Nodup then 18 else 0
section
variable {D : Desc} {word er : List Int} {n : Nat}
theorem recErr_len (h : word.length ≠ n) : recErr D word n er = 4 := by
 have e : elErr D word n 4 = 4 := if_pos (by omega);unfold recErr; rw [e,if_pos (by decide)]
theorem elErr_el (hl : word.length = n) (h : elB D word = false) : elErr D word n 4 = 2 := by unfold elErr; rw [if_neg (by omega),if_pos h]
theorem elErr_ok (hl : word.length = n) (h : elB D word = true) : elErr D word n 4 = 0 := by unfold elErr; rw [if_neg (by omega),if_neg (by rw [h]; decide)]
theorem recErr_el (hl : word.length = n) (h : elB D word = false) : recErr D word n er = 2 := by unfold recErr; rw [elErr_el hl h,if_pos (by decide)]
theorem recErr_six (hl : word.length = n) (h : elB D word = true) {x : Int} (hx : x ∈ er) (hn : ¬ (0 ≤ x ∧ x < (n : Int))) : recErr D word n er = 6 := by
 unfold recErr; rw [elErr_ok hl h,if_neg (by decide),if_pos fun e => hn (e x hx)]
theorem recErr_dup (hl : word.length = n) (h : elB D word = true) (hr : ∀ x ∈ er,0 ≤ x ∧ x < (n : Int)) (hd : ¬ er.Nodup) : recErr D word n er = 18 := by
 unfold recErr; rw [elErr_ok hl h,if_neg (by decide),if_neg fun e => e hr,if_pos hd]
theorem recErr_ok (hl : word.length = n) (h : elB D word = true) (hr : ∀ x ∈ er,0 ≤ x ∧ x < (n : Int)) (hd : er.Nodup) : recErr D word n er = 0 := by
 unfold recErr; rw [elErr_ok hl h,if_neg (by decide),if_neg fun e => e hr,if_neg fun e => e hd]
theorem recErr_zero (h : recErr D word n er = 0) : word.length = n ∧ elB D word = true ∧ (∀ x ∈ er,0 ≤ x ∧ x < (n : Int)) ∧ er.Nodup := by
 by_cases h1 : word.length = n
 ·cases h2 : elB D word with
  | false => rw [recErr_el h1 h2] at h; cases h
  | true =>
   by_cases h3 : ∀ x ∈ er,0 ≤ x ∧ x < (n : Int)
   ·by_cases h4 : er.Nodup
    ·exact ⟨h1,rfl,h3,h4⟩
    ·rw [recErr_dup h1 h2 h3 h4] at h; cases h
   ·exfalso;have : ∃ x,x ∈ er ∧ ¬ (0 ≤ x ∧ x < (n : Int)) := Classical.byContradiction fun h5 => h3 fun x hx => Classical.byContradiction fun h6 => h5 ⟨x,hx,h6⟩
    obtain ⟨x,hx,h6⟩ := this;rw [recErr_six h1 h2 hx h6] at h; cases h
 ·rw [recErr_len h1] at h; cases h
end

set_option maxHeartbeats 4000000 in
theorem gWord_any (F : FD) (word er : List Int) (n : Nat) (hn : n ≤ 64) (Aw Ae : Option Addr) (cw ce g : Nat) (w : World) (hg : GF w w.heap.size g F) (hrw : Rd w w.heap.size Aw word) (hre : Rd w w.heap.size Ae er) (hwl : word.length ≤ maxLen) (hel : er.length ≤ 1000000) :
  Calls Tryz.prog 120 #[.pointer (some ⟨g,0,none⟩),.slice Aw word.length cw,.int .i64 (n : Int),.slice Ae er.length ce] w fun e w' => e = .returned (.int .i64 (recErr F.toDesc word n er)) ∧ Below w.heap.size w w' := by
 unfold maxLen at hwl;have hI := fun x => Lib.hid (gIs_any F x g w hg)
 have hmk := mk_bools n (by omega);by_cases hwn : word.length = n;rotate_left
 ·have hb : ((word.length : Int) != (n : Int)) = true := by rw [bne_iff_ne]; omega
  have hE : Hid (recErr F.toDesc word n er = 4) := recErr_len hwn;clear hwn;go_enter Tryz.func120,Tryz.ntmps120;go_wp2_with (fail);go_ret;exact ⟨by rw [hE.out]; rfl,Below.refl _ _⟩
 have hb : ((word.length : Int) != (n : Int)) = false := by rw [bne_eq_false_iff_eq]; omega
 replace hwn := Lib.hid hwn;go_enter Tryz.func120,Tryz.ntmps120;go_wp2_with (fail);go_loop [22] (fun i => ∃ k : Nat,k ≤ word.length ∧ i = .int .i64 k ∧ Hid (∀ j,j < k → 0 ≤ word[j]?.getD 0 ∧ word[j]?.getD 0 < (F.q : Int))) (fun i => word.length - (intOf i).toNat)
 case atStart => exact ⟨0,by omega,rfl,fun j hj => absurd hj (by omega)⟩
 case round =>
  obtain ⟨k,hk,rfl,hall⟩ := hrel;by_cases hlt : k < word.length
  ·obtain ⟨b,o,rfl,-,hc⟩ := hrw.at_ hlt;have hI2 := hI (word[k]?.getD 0);by_cases hy : 0 ≤ word[k]?.getD 0 ∧ word[k]?.getD 0 < (F.q : Int)
   ·rw [decide_eq_true hy] at hI2;have hall2 : Hid (∀ j,j < k + 1 → 0 ≤ word[j]?.getD 0 ∧ word[j]?.getD 0 < (F.q : Int)) := fun j hj => by
     by_cases e : j = k
     ·subst e; exact hy
     ·exact hall.out j (by omega)
    clear hy;generalize word[k]?.getD 0 = y at *;go_wp2_with (fail);(with_reducible refine hI2.out.mono ?_);rintro e w1 ⟨rfl,rfl⟩;go_wp2_with (fail);go_round
    case rel => exact ⟨k + 1,by omega,by go_num,hall2⟩
    case measure => simp [intOf]; omega
   ·have hfin := Lib.hid (elB_no hlt hy);have hE : Hid (recErr F.toDesc word n er = 2) := recErr_el hwn.out hfin.out;rw [decide_eq_false hy] at hI2;clear hy;generalize word[k]?.getD 0 = y at *;go_wp2_with (fail);(with_reducible refine hI2.out.mono ?_);rintro e w1 ⟨rfl,rfl⟩;go_wp2_with (fail);go_ret;exact ⟨by rw [hE.out]; rfl,Below.refl _ _⟩
  ·obtain rfl : k = word.length := by omega
   have hwe : Hid (elB F.toDesc word = true) := elB_iff.2 hall.out;clear hall hI;go_wp2_with (fail);go_loop [33] (fun i => ∃ k : Nat,k ≤ er.length ∧ i = .int .i64 k ∧ ∀ x ∈ er.take k,0 ≤ x ∧ x < (n : Int)) (fun i => er.length - (intOf i).toNat)
   case atStart => exact ⟨0,by omega,rfl,fun x hx => by simp at hx⟩
   case round =>
    obtain ⟨k,hk,rfl,hrg⟩ := hrel;by_cases hkm : k < er.length
    ·obtain ⟨ba,oa,rfl,hba,hca⟩ := hre.at_ hkm;obtain ⟨x,hx⟩ : ∃ x,x = er[k]?.getD 0 := ⟨_,rfl⟩;rw [← hx] at hca;have hxm : x ∈ er := by rw [hx]; exact mem_get hkm
     have hk0 : (0 : Int) ≤ (k : Int) := by omega
     have hk1 : (k : Int) < (er.length : Int) := by omega
     replace hx := Lib.hid hx;by_cases hx0 : x < 0
     ·have hE : Hid (recErr F.toDesc word n er = 6) := recErr_six hwn.out hwe.out hxm (by omega);go_wp2_with (fail);go_ret;exact ⟨by rw [hE.out]; rfl,Below.refl _ _⟩
     by_cases hx1 : (n : Int) ≤ x
     ·have hE : Hid (recErr F.toDesc word n er = 6) := recErr_six hwn.out hwe.out hxm (by omega);go_wp2_with (fail);go_ret;exact ⟨by rw [hE.out]; rfl,Below.refl _ _⟩
     have hrg2 : Hid (∀ x ∈ er.take (k + 1),0 ≤ x ∧ x < (n : Int)) := fun z hz => by
      rcases (take_succ_mem hkm z).1 hz with h3 | h3
      ·exact hrg z h3
      ·rw [h3,← hx.out]; omega
     clear hrg;go_wp2_with (fail);go_round
     case rel => exact ⟨k + 1,by omega,by go_num,hrg2.out⟩
     case measure => simp [intOf]; omega
    ·obtain rfl : k = er.length := by omega
     rw [List.take_length] at hrg;replace hrg := Lib.hid hrg;have hbb0 := Lib.hid (BB.newz w n);have hbz : Below w.heap.size w (w.alloc (.cells (Array.replicate n (Value.bool false)) 4)) := (Below.refl _ _).alloc (Nat.le_refl _) _;have hlz : w.heap.size < (w.alloc (.cells (Array.replicate n (Value.bool false)) 4)).heap.size := by rw [World.size_alloc]; exact Nat.lt_succ_self _
     go_wp2_with (fail);go_loopw [49] (fun i wr => ∃ k : Nat,k ≤ er.length ∧ i = .int .i64 k ∧ (er.take k).Nodup ∧ Hid (BB wr w.heap.size n (fun i => decide ((i : Int) ∈ er.take k))) ∧ Below w.heap.size w wr ∧ w.heap.size < wr.heap.size) (fun i _ => er.length - (intOf i).toNat)
     case atStart => exact ⟨0,by omega,rfl,by simp,by rw [show (fun i : Nat => decide ((i : Int) ∈ er.take 0)) = fun _ => false from funext fun i => by simp]; exact hbb0,hbz,hlz⟩
     case round =>
      obtain ⟨k,hk,rfl,hnd,hbb,hbw,hlw⟩ := hrel;obtain ⟨w3,rfl⟩ : ∃ w3 : World,w3 = wr := ⟨_,rfl⟩;clear hbb0 hbz hlz hmk;by_cases hkm : k < er.length
      ·obtain ⟨ba,oa,rfl,hba,hca⟩ := hre.at_ hkm;have hcb := (hbw.cell (p := ⟨ba,oa + k,none⟩) hba).trans hca;obtain ⟨xn,hxn⟩ : ∃ xn : Nat,er[k]?.getD 0 = (xn : Int) := ⟨(er[k]?.getD 0).toNat,by have := hrg.out _ (mem_get hkm); omega⟩;have hxl : xn < n := by have := hrg.out _ (mem_get hkm); omega
       rw [hxn] at hcb;have hcs := hbb.out.cell hxl;have hf := hbb.out.frozen xn;have hx0 : (0 : Int) ≤ (xn : Int) := by omega
       have hx1 : (xn : Int) < (n : Int) := by omega
       have hk0 : (0 : Int) ≤ (k : Int) := by omega
       have hk1 : (k : Int) < (er.length : Int) := by omega
       replace hxn := Lib.hid hxn;clear hca;by_cases hd : (xn : Int) ∈ er.take k
       ·rw [decide_eq_true hd] at hcs;have hE : Hid (recErr F.toDesc word n er = 18) := recErr_dup hwn.out hwe.out hrg.out (not_nodup_take hkm (by rw [hxn.out]; exact hd));clear hd hnd;go_wp2_with (fail);go_ret;exact ⟨by rw [hE.out]; rfl,hbw⟩
       ·rw [decide_eq_false hd] at hcs;have hbb2 := Lib.hid (hbb.out.set_ xn true);rw [seen_step hkm hxn.out] at hbb2;have hnd2 := Lib.hid (take_succ_nodup hkm hnd (by rw [hxn.out]; exact hd));have hbw2 : Below w.heap.size w (w3.setCell ⟨w.heap.size,xn,none⟩ (.bool true)) := hbw.setCell (p := ⟨w.heap.size,xn,none⟩) (Nat.le_refl _) _;have hlw2 : w.heap.size < (w3.setCell ⟨w.heap.size,xn,none⟩ (.bool true)).heap.size := Nat.lt_of_lt_of_le hlw (grown_set _ _ _).size;clear hd hnd;go_wp2_with (fail);go_roundw
        case rel => exact ⟨k + 1,by omega,by go_num,hnd2.out,hbb2,hbw2,hlw2⟩
        case measure => simp [intOf]; omega
      ·obtain rfl : k = er.length := by omega
       rw [List.take_length] at hnd;have hE : Hid (recErr F.toDesc word n er = 0) := recErr_ok hwn.out hwe.out hrg.out hnd;clear hnd;go_wp2_with (fail);go_ret;exact ⟨by rw [hE.out]; rfl,hbw⟩

set_option maxHeartbeats 2000000 in
theorem gMarks_any (er : List Int) (n : Nat) (hn : n ≤ 64) (hrg : ∀ x ∈ er,0 ≤ x ∧ x < (n : Int)) (Ae : Option Addr) (ce : Nat) (w : World) (hre : Rd w w.heap.size Ae er) (hel : er.length ≤ 1000000) :
  Calls Tryz.prog 130 #[.int .i64 (n : Int),.slice Ae er.length ce] w fun e w' => ∃ gb,e = .returned (.slice (some ⟨gb,0,none⟩) n n) ∧ w.heap.size ≤ gb ∧ BB w' gb n (fun i => decide ((i : Int) ∈ er)) ∧ Below w.heap.size w w' := by
 have hmk := mk_bools n (by omega);have hbb0 := Lib.hid (BB.newz w n);have hbz : Below w.heap.size w (w.alloc (.cells (Array.replicate n (Value.bool false)) 4)) := (Below.refl _ _).alloc (Nat.le_refl _) _;have hlz : w.heap.size < (w.alloc (.cells (Array.replicate n (Value.bool false)) 4)).heap.size := by rw [World.size_alloc]; exact Nat.lt_succ_self _
 replace hrg := Lib.hid hrg;go_enter Tryz.func130,Tryz.ntmps130;go_wp2_with (fail);go_loopw [12] (fun i wr => ∃ k : Nat,k ≤ er.length ∧ i = .int .i64 k ∧ Hid (BB wr w.heap.size n (fun i => decide ((i : Int) ∈ er.take k))) ∧ Below w.heap.size w wr ∧ w.heap.size < wr.heap.size) (fun i _ => er.length - (intOf i).toNat)
 case atStart => exact ⟨0,by omega,rfl,by rw [show (fun i : Nat => decide ((i : Int) ∈ er.take 0)) = fun _ => false from funext fun i => by simp]; exact hbb0,hbz,hlz⟩
 case round =>
  obtain ⟨k,hk,rfl,hbb,hbw,hlw⟩ := hrel;obtain ⟨w3,rfl⟩ : ∃ w3 : World,w3 = wr := ⟨_,rfl⟩;clear hbb0 hbz hlz hmk;by_cases hkm : k < er.length
  ·obtain ⟨ba,oa,rfl,hba,hca⟩ := hre.at_ hkm;have hcb := (hbw.cell (p := ⟨ba,oa + k,none⟩) hba).trans hca;obtain ⟨xn,hxn⟩ : ∃ xn : Nat,er[k]?.getD 0 = (xn : Int) := ⟨(er[k]?.getD 0).toNat,by have := hrg.out _ (mem_get hkm); omega⟩;have hxl : xn < n := by have := hrg.out _ (mem_get hkm); omega
   rw [hxn] at hcb;have hcs := hbb.out.cell hxl;have hf := hbb.out.frozen xn;have hx0 : (0 : Int) ≤ (xn : Int) := by omega
   have hx1 : (xn : Int) < (n : Int) := by omega
   have hk0 : (0 : Int) ≤ (k : Int) := by omega
   have hk1 : (k : Int) < (er.length : Int) := by omega
   have hbb2 := Lib.hid (hbb.out.set_ xn true);rw [seen_step hkm hxn] at hbb2;replace hxn := Lib.hid hxn;have hbw2 : Below w.heap.size w (w3.setCell ⟨w.heap.size,xn,none⟩ (.bool true)) := hbw.setCell (p := ⟨w.heap.size,xn,none⟩) (Nat.le_refl _) _;have hlw2 : w.heap.size < (w3.setCell ⟨w.heap.size,xn,none⟩ (.bool true)).heap.size := Nat.lt_of_lt_of_le hlw (grown_set _ _ _).size;clear hca;go_wp2_with (fail);go_roundw
   case rel => exact ⟨k + 1,by omega,by go_num,hbb2,hbw2,hlw2⟩
   case measure => simp [intOf]; omega
  ·obtain rfl : k = er.length := by omega
   rw [List.take_length] at hbb;go_wp2_with (fail);go_ret;exact ⟨w.heap.size,rfl,Nat.le_refl _,hbb.out,hbw⟩
end
section
open Go.RowKit Cw
attribute [local go_sem] Oper.semAt_some

def Duo (w : World) (b : Nat) (v0 v1 : Value) : Prop := w.cell? ⟨b,0,none⟩ = some v0 ∧ w.cell? ⟨b,1,none⟩ = some v1 ∧ w.frozen? ⟨b,0,none⟩ = false ∧ w.frozen? ⟨b,1,none⟩ = false
theorem Duo.new (w : World) (v0 v1 : Value) (t : TypeId) : Duo (w.alloc (.cells #[v0,v1] t)) w.heap.size v0 v1 := by unfold Duo; simp [go_sem]
theorem Duo.keep {B b : Nat} {w w1 : World} {v0 v1 : Value} (h : Duo w b v0 v1) (hb : Below B w w1) (hlt : b < B) : Duo w1 b v0 v1 :=
 ⟨((bcell hb).1 b 0 hlt).trans h.1,((bcell hb).1 b 1 hlt).trans h.2.1,((bcell hb).2 b 0 hlt).trans h.2.2.1,((bcell hb).2 b 1 hlt).trans h.2.2.2⟩
theorem Duo.set1 {b : Nat} {w : World} {v0 v1 : Value} (h : Duo w b v0 v1) (u : Value) : Duo (w.setCell ⟨b,1,none⟩ u) b v0 u := by
 obtain ⟨a0,a1,f0,f1⟩ := h;unfold Duo;simp [go_sem,a0,a1,f0,f1]
theorem setTwo {w : World} {b : Nat} (u0 u1 : Value) : Below b w ((w.setCell ⟨b,0,none⟩ u0).setCell ⟨b,1,none⟩ u1) :=
 ((Below.refl b w).setCell (p := ⟨b,0,none⟩) (Nat.le_refl _) _).setCell (p := ⟨b,1,none⟩) (Nat.le_refl _) _

def ResPost (n : Nat) (c wl er : List Int) (rad : Int) (Ac : Option Addr) (cc : Nat) (w : World) (e : Ending) (w' : World) : Prop :=
 Below w.heap.size w w' ∧ ((¬ rad < ((errL c wl er n).length : Int) ∧ ∃ Ae ce,e = .returned (.tuple #[.agg #[.slice Ac n cc,.slice Ae (errL c wl er n).length ce],.int .i64 0]) ∧ Rd w' w'.heap.size Ae (errL c wl er n) ∧ ∀ a,Ae = some a → w.heap.size ≤ a.block) ∨
  (rad < ((errL c wl er n).length : Int) ∧ e = .returned (.tuple #[.agg #[.slice none 0 0,.slice none 0 0],.int .i64 12])))
theorem ResPost.ok {n : Nat} {c wl er : List Int} {rad : Int} {Ac : Option Addr} {cc : Nat} {w w' : World} (hB : Below w.heap.size w w') (h : ¬ rad < ((errL c wl er n).length : Int)) (Ae : Option Addr) (ce : Nat) (hr : Rd w' w'.heap.size Ae (errL c wl er n)) (hlo : ∀ a,Ae = some a → w.heap.size ≤ a.block) :
  ResPost n c wl er rad Ac cc w (.returned (.tuple #[.agg #[.slice Ac n cc,.slice Ae (errL c wl er n).length ce],.int .i64 0])) w' := ⟨hB,.inl ⟨h,Ae,ce,rfl,hr,hlo⟩⟩
theorem ResPost.no {n : Nat} {c wl er : List Int} {rad : Int} {Ac : Option Addr} {cc : Nat} {w w' : World} (hB : Below w.heap.size w w') (h : rad < ((errL c wl er n).length : Int)) :
  ResPost n c wl er rad Ac cc w (.returned (.tuple #[.agg #[.slice none 0 0,.slice none 0 0],.int .i64 12])) w' := ⟨hB,.inr ⟨h,rfl⟩⟩

set_option maxRecDepth 100000 in
set_option maxHeartbeats 8000000 in
theorem gResult_any (n : Nat) (c wl er : List Int) (rad : Int) (hn : n ≤ 64) (hc : c.length = n) (hw : wl.length = n) (Ac Aw : Option Addr) (cc cw gb : Nat) (w : World) (hrc : Rd w w.heap.size Ac c) (hrw : Rd w w.heap.size Aw wl) (hbb : BB w gb n (fun i => decide ((i : Int) ∈ er))) :
  Calls Tryz.prog 129 #[.slice Ac n cc,.slice Aw n cw,.slice (some ⟨gb,0,none⟩) n n,.int .i64 rad] w (ResPost n c wl er rad Ac cc w) := by
 obtain ⟨s,hs⟩ : ∃ s,s = w.heap.size := ⟨_,rfl⟩;obtain ⟨Z,hZ⟩ : ∃ Z,Z = (w.alloc (.cells #[.slice none 0 0,.slice none 0 0] 90)).alloc (.cells #[.slice Ac n cc,.slice none 0 0] 90) := ⟨_,rfl⟩;have hB : Below w.heap.size w Z := by rw [hZ]; exact ((Below.refl _ _).alloc (Nat.le_refl _) _).alloc (by simp) _
 have hZs : Z.heap.size = s + 1 + 1 := by rw [hZ,hs]; simp
 have d0 : Duo Z s (.slice none 0 0) (.slice none 0 0) := by
  rw [hZ,hs];exact (Duo.new w _ _ _).keep ((Below.refl (w.heap.size + 1) _).alloc (by simp) _) (by omega)
 have d1 : Duo Z (s + 1) (.slice Ac n cc) (.slice none 0 0) := by
  have h := Duo.new (w.alloc (.cells #[.slice none 0 0,.slice none 0 0] 90)) (.slice Ac n cc) (.slice none 0 0) 90;rw [World.size_alloc] at h;rw [hZ,hs]; exact h
 rw [← hs] at hrc hrw hB;have hgs : gb < s := by rw [hs]; exact hbb.lt
 have hbbZ := hbb.below hB hgs;have hrcZ := hrc.below hB;have hrwZ := hrw.below hB;replace d0 := Lib.hid d0;replace d1 := Lib.hid d1;replace hbbZ := Lib.hid hbbZ;replace hZ := Lib.hid hZ;replace hc := Lib.hid hc;replace hw := Lib.hid hw;have ho0 := Own.nil Z (s + 1 + 1);have hZZ : Below (s + 1) Z Z := Below.refl _ _;have hsZ : s + 1 < Z.heap.size := by omega
 replace hZs := Lib.hid hZs;clear hbb hrc hrw;go_enter Tryz.func129,Tryz.ntmps129;go_wp2_with (fail);rw [← hZ.out];simp only [← hs];replace hs := Lib.hid hs;go_loopw [16] (fun i wr => ∃ (k : Nat) (v : Value),k ≤ n ∧ i = .int .i64 k ∧ Hid (Duo wr (s + 1) (.slice Ac n cc) v) ∧ Hid (Own wr (s + 1 + 1) v (errL c wl er k)) ∧ Below (s + 1) Z wr ∧ s + 1 < wr.heap.size) (fun i _ => n - (intOf i).toNat)
 case atStart => exact ⟨0,_,by omega,rfl,d1,ho0,hZZ,hsZ⟩
 case round =>
  obtain ⟨w3,rfl⟩ : ∃ w3 : World,w3 = wr := ⟨_,rfl⟩;obtain ⟨k,v,hk,rfl,hd,ho,hbw,hsw⟩ := hrel;clear d1 ho0 hZZ;obtain ⟨A',n',e',-,hr',hA'⟩ := ho.out.form;by_cases hlt : k < n
  ·have hk0 : (0 : Int) ≤ (k : Int) := by omega
   have hk1 : (k : Int) < (n : Int) := by omega
   have hcs := (hbbZ.out.below hbw (by omega)).cell hlt;obtain ⟨b1,o1,rfl,hb1,hc1⟩ := hrcZ.at_ (by rw [hc.out]; exact hlt : k < c.length);obtain ⟨b2,o2,rfl,hb2,hc2⟩ := hrwZ.at_ (by rw [hw.out]; exact hlt : k < wl.length);have hd1 := (hbw.cell (p := ⟨b1,o1 + k,none⟩) (Nat.lt_succ_of_lt hb1)).trans hc1;have hd2 := (hbw.cell (p := ⟨b2,o2 + k,none⟩) (Nat.lt_succ_of_lt hb2)).trans hc2;obtain ⟨y1,hy1⟩ : ∃ y1,y1 = c[k]?.getD 0 := ⟨_,rfl⟩;obtain ⟨y2,hy2⟩ : ∃ y2,y2 = wl[k]?.getD 0 := ⟨_,rfl⟩;rw [← hy1] at hd1;rw [← hy2] at hd2;replace hy1 := Lib.hid hy1;replace hy2 := Lib.hid hy2;replace e' := Lib.hid e';clear hc1 hc2;by_cases hin : (k : Int) ∈ er
   ·rw [decide_eq_true hin] at hcs;have hst : Hid (errL c wl er k = errL c wl er (k + 1)) := (errL_in hin).symm;clear hin;rw [hst.out] at ho;go_wp2_with (fail);go_quiet (fail);go_wp2_with (fail);go_roundw
    case rel => exact ⟨k + 1,v,by omega,by go_num,hd,ho,⟨hbw.os,hbw.tape,hbw.output,hbw.size,hbw.block⟩,hsw⟩
    case measure => simp [intOf]; omega
   rw [decide_eq_false hin] at hcs;by_cases hq : y1 = y2
   ·have hqb : (y1 != y2) = false := by rw [bne_eq_false_iff_eq]; exact hq
    have hst : Hid (errL c wl er k = errL c wl er (k + 1)) := (errL_eq (by rw [← hy1.out,← hy2.out]; exact hq)).symm;clear hin hq;rw [hst.out] at ho;go_wp2_with (fail);go_quiet (fail);go_wp2_with (fail);go_roundw
    case rel => exact ⟨k + 1,v,by omega,by go_num,hd,ho,⟨hbw.os,hbw.tape,hbw.output,hbw.size,hbw.block⟩,hsw⟩
    case measure => simp [intOf]; omega
   ·have hqb : (y1 != y2) = true := by rw [bne_iff_ne]; exact hq
    have hst : Hid (errL c wl er (k + 1) = errL c wl er k ++ [(k : Int)]) := errL_ne hin (by rw [← hy1.out,← hy2.out]; exact hq);clear hin hq;go_wp2_with (fail);go_quiet (fail);clear hcs hd1 hd2;obtain ⟨W1,hW1⟩ : ∃ W1,W1 = w3.drewN nq := ⟨_,rfl⟩;have hdq : Duo W1 (s + 1) (.slice (some ⟨b1,o1,none⟩) n cc) v := by rw [hW1]; exact hd.out
    have hoq : Own W1 (s + 1 + 1) v (errL c wl er k) := by rw [hW1]; exact ho.out
    have hbq : Below (s + 1) Z W1 := by rw [hW1]; exact ⟨hbw.os,hbw.tape,hbw.output,hbw.size,hbw.block⟩
    have hsq : s + 1 < W1.heap.size := by rw [hW1]; exact hsw
    rw [← hW1];clear hW1 hd ho hbw hsw hr';have hle : (errL c wl er k).length ≤ 1000000 := by have := errL_le c wl er k; omega
    have hsz : s + 1 + 1 ≤ W1.heap.size := hsq;have hdH := Lib.hid hdq;obtain ⟨a0,a1,f0,f1⟩ := hdq;go_wp2_with (at_builtin; refine wpList_app1 rfl (.tmp 36) (.tmp 38) rfl (s + 1 + 1) _ _ _ hoq rfl rfl rfl hle hsz ?_; intro v' w' ho' hb' hg' hv'; obtain ⟨A'',c'',e'',-,-,-⟩ := ho'.form; rw [List.length_append,List.length_singleton] at e''; subst e''; clear a0 a1 f0 f1; obtain ⟨a0,a1,f0,f1⟩ := hdH.out.keep hb' (Nat.lt_succ_self _));obtain ⟨v',hv2⟩ : ∃ v',v' = Value.slice A'' ((errL c wl er k).length + 1) c'' := ⟨_,rfl⟩;rw [← hv2] at ho' ⊢;clear hv2 hv';have hd2 : Hid (Duo (w'.setCell ⟨s + 1,1,none⟩ v') (s + 1) (.slice (some ⟨b1,o1,none⟩) n cc) v') := Duo.set1 ⟨a0,a1,f0,f1⟩ v';have ho2 : Hid (Own (w'.setCell ⟨s + 1,1,none⟩ v') (s + 1 + 1) v' (errL c wl er (k + 1))) := by unfold Hid; rw [hst.out]; exact ho'.farB 1 v'
    have hb2 : Below (s + 1) Z (w'.setCell ⟨s + 1,1,none⟩ v') := (hbq.trans ((hb'.mono (Nat.le_succ _)).mono (Nat.le_refl _))).setCell (p := ⟨s + 1,1,none⟩) (Nat.le_refl _) _;have hs2 : s + 1 < (w'.setCell ⟨s + 1,1,none⟩ v').heap.size := Nat.lt_of_lt_of_le hsq (Nat.le_trans hb'.size (grown_set _ _ _).size);clear a0 a1 f0 f1;go_roundw
    case rel => exact ⟨k + 1,v',by omega,by go_num,hd2,ho2,hb2,hs2⟩
    case measure => simp [intOf]; omega
  ·obtain rfl : n = k := by omega
   subst e';obtain ⟨a0,a1,f0,f1⟩ := hd.out;obtain ⟨z0,z1,g0,g1⟩ := d0.out.keep hbw (Nat.lt_succ_self s);have hsw2 : w.heap.size ≤ s := Nat.le_of_eq hs.out.symm;have hBf : Below w.heap.size w w3 := by
    have h1 := hbw.mono (show w.heap.size ≤ s + 1 by omega);have h2 : Below w.heap.size w Z := hs.out ▸ hB;exact ⟨h1.os.trans h2.os,h1.tape.trans h2.tape,h1.output.trans h2.output,Nat.le_trans h2.size h1.size,fun b hb => (h1.block b hb).trans (h2.block b hb)⟩
   have hBs := fun u0 u1 => hBf.trans ((setTwo (w := w3) (b := s) u0 u1).mono hsw2)
   obtain ⟨el,hel⟩ : ∃ el,el = errL c wl er n := ⟨_,rfl⟩;rw [← hel] at hr' a1;have hrd := fun u0 u1 => (hr'.far (g := s) (fun a e => by have := (hA' a e).1; omega) 0 u0).far (g := s) (fun a e => by have := (hA' a e).1; omega) 1 u1
   have hszq : ∀ u0 u1,((w3.setCell ⟨s,0,none⟩ u0).setCell ⟨s,1,none⟩ u1).heap.size = w3.heap.size := fun u0 u1 => by simp [World.setCell]
   replace hel := Lib.hid hel;replace hrd := fun u0 u1 => Lib.hid (hrd u0 u1)
   replace hszq := Lib.hid hszq;clear hr' hd ho hbw;by_cases hrad : rad < (el.length : Int)
   ·go_wp2_with (fail);refine bodyPost_ret (v := .tuple #[.agg #[.slice none 0 0,.slice none 0 0],.int .i64 12]) (by simp [results,Tryz.results129,go_sem,z0,z1]) rfl (ResPost.no (hBs _ _) (by rw [← hel.out]; exact hrad))
   ·go_wp2_with (fail);refine bodyPost_ret (v := .tuple #[.agg #[.slice Ac n cc,.slice A' el.length n'],.int .i64 0]) (by simp [results,Tryz.results129,go_sem,z0,z1]) rfl ?_;rw [hel.out];refine ResPost.ok ?_ (by rw [← hel.out]; exact Int.not_lt.2 hrad) A' n' ?_ (fun a e => by have := (hA' a e).1; omega)
    ·rw [← hel.out]; exact hBs _ _
    ·rw [← hel.out,hszq.out];exact (hrd _ _).out

def radI (d f : Int) : Int := if d < 1 ∨ f < 0 ∨ d - 1 < f then -1 else (d - 1 - f) / 2
theorem radI_no {d f : Int} (h : d < 1 ∨ f < 0 ∨ d - 1 < f) : radI d f = -1 := if_pos h
theorem radI_yes {d f : Int} (h1 : 1 ≤ d) (h2 : 0 ≤ f) (h3 : f ≤ d - 1) : radI d f = (d - 1 - f) / 2 := if_neg (by omega)
theorem gRadius_any (d f : Int) (w : World) (hd : I64 d) (hf : I64 f) : Calls Tryz.prog 118 #[.int .i64 d,.int .i64 f] w fun e w' => e = .returned (.int .i64 (radI d f)) ∧ w = w' := by
 unfold I64 at hd hf;by_cases h1 : d < 1
 ·have hr := Lib.hid (radI_no (d := d) (f := f) (.inl h1));go_enter Tryz.func118,Tryz.ntmps118;go_wp2_with (fail);go_ret;exact ⟨by rw [hr.out]; rfl,rfl⟩
 by_cases h2 : f < 0
 ·have hr := Lib.hid (radI_no (d := d) (f := f) (.inr (.inl h2)));go_enter Tryz.func118,Tryz.ntmps118;go_wp2_with (fail);go_ret;exact ⟨by rw [hr.out]; rfl,rfl⟩
 have hw1 : IntKind.i64.wrap (d - 1) = d - 1 := IntWalk.i64_in _ (by omega);by_cases h3 : d - 1 < f
 ·have hr := Lib.hid (radI_no (d := d) (f := f) (.inr (.inr h3)));go_enter Tryz.func118,Tryz.ntmps118;go_wp2_with (fail);go_ret;exact ⟨by rw [hr.out]; rfl,rfl⟩
 have hw2 : IntKind.i64.wrap (d - 1 - f) = d - 1 - f := IntWalk.i64_in _ (by omega);have hq1 : (d - 1 - f).tdiv 2 = (d - 1 - f) / 2 := Int.tdiv_eq_ediv_of_nonneg (by omega);have hq2 : IntKind.i64.wrap ((d - 1 - f) / 2) = (d - 1 - f) / 2 := IntWalk.i64_in _ (by omega);have hr := Lib.hid (radI_yes (d := d) (f := f) (by omega) (by omega) (by omega));go_enter Tryz.func118,Tryz.ntmps118;go_wp2_with (fail);go_ret;exact ⟨by rw [hr.out]; rfl,rfl⟩
theorem Radius39_any (d f : Int) (w : World) (hd : I64 d) (hf : I64 f) : Calls Tryz.prog 55 #[.int .i64 d,.int .i64 f] w fun e w' => e = .returned (.int .i64 (radI d f)) ∧ w = w' := by
 unfold I64 at hd hf;by_cases h1 : d < 1
 ·have hr := Lib.hid (radI_no (d := d) (f := f) (.inl h1));go_enter Tryz.func55,Tryz.ntmps55;go_wp2_with (fail);go_ret;exact ⟨by rw [hr.out]; rfl,rfl⟩
 by_cases h2 : f < 0
 ·have hr := Lib.hid (radI_no (d := d) (f := f) (.inr (.inl h2)));go_enter Tryz.func55,Tryz.ntmps55;go_wp2_with (fail);go_ret;exact ⟨by rw [hr.out]; rfl,rfl⟩
 have hw1 : IntKind.i64.wrap (d - 1) = d - 1 := IntWalk.i64_in _ (by omega);by_cases h3 : d - 1 < f
 ·have hr := Lib.hid (radI_no (d := d) (f := f) (.inr (.inr h3)));go_enter Tryz.func55,Tryz.ntmps55;go_wp2_with (fail);go_ret;exact ⟨by rw [hr.out]; rfl,rfl⟩
 have hw2 : IntKind.i64.wrap (d - 1 - f) = d - 1 - f := IntWalk.i64_in _ (by omega);have hq1 : (d - 1 - f).tdiv 2 = (d - 1 - f) / 2 := Int.tdiv_eq_ediv_of_nonneg (by omega);have hq2 : IntKind.i64.wrap ((d - 1 - f) / 2) = (d - 1 - f) / 2 := IntWalk.i64_in _ (by omega);have hr := Lib.hid (radI_yes (d := d) (f := f) (by omega) (by omega) (by omega));go_enter Tryz.func55,Tryz.ntmps55;go_wp2_with (fail);go_ret;exact ⟨by rw [hr.out]; rfl,rfl⟩
end
end Go.Proofs.YtjdoneanohhkmaaGreat
